/- Part 3 of what the proof rests on. No condition. -/
import Derived.Test.YtnbipejaidbihaaGreatDoorZl2
import Derived.Defers
set_option linter.unusedVariables false
set_option linter.unusedSimpArgs false
set_option maxRecDepth 100000
set_option maxHeartbeats 4000000
namespace Go.Proofs.YtnbipejaidbihaaGreatDoor
/- Package bits: Split, Class; package policy: kinds, counts. No condition. -/
section
open Go Sx Wd

theorem long_spec (w : World) : Ret Tryz.prog 287 [] w fun u w' => u = .agg [.int .i64 11, .int .i64 52, .int .i64 (-1074)].toArray ∧ Chg [] w w' := by
 have hch := crf w;refine zE0 Tryz.func287 rfl ?_;refine Sr fun _ kh1 => ?_;refine WL.allocB (l := [.int .i64 0, .int .i64 0, .int .i64 0]) rfl rfl fun b0 wm0 hb0 hcm0 hge0 => ?_;have hgehch0 := Nat.le_trans hch.size hge0;have hch := hch.ta hcm0;refine zz (kh1 (Sr fun _ kh3 => ?_));refine WL.ev (Ev.build (vs := _) (cs := [_, _, _]) rfl rfl) rfl ?_;refine zss rfl rfl ao hb0 rfl fun ws6 hb0_ hcs6 => ?_;(try simp only [Sx.splice, qt] at hb0_);have hch := hch.s1 hcs6;have hb0 := hb0_;refine zz (kh3 ?_);refine zr (bodyA.retR1 rfl (RVal.cell rfl (hb0.varA rfl rfl)) ?_);exact ⟨rfl, hch⟩

theorem Split_spec (x : Nat) (w : World) (hx : x < 18446744073709551616) : Ret Tryz.prog 212 [.float .f64 x] w fun u w' => u = .agg [.bool (splitP x).neg, .int .i64 ((splitP x).cls : Int), .int .i64 (splitP x).exp, .int .u64 ((splitP x).frac : Int)].toArray ∧ Chg [] w w' := by
 have hch := crf w;refine zE1 Tryz.func212 rfl ?_;refine Sr fun _ kh1 => ?_;refine WL.allocB (l := [.bool false, .int .i64 0, .int .i64 0, .int .u64 0]) rfl rfl fun b2 wm2 hb2 hcm2 hge2 => ?_;have hgehch2 := Nat.le_trans hch.size hge2;have hch := hch.ta hcm2;refine zz (kh1 (Sr fun _ kh3 => ?_));refine WL.call hasF287 rfl rfl (long_spec _) fun v w1 h' => ?_;obtain ⟨rfl, hC3⟩ := h';have hch := hch.ta hC3;have hb2 := hb2.k0 hC3;refine zm rfl ?_;refine WL.ev (Ev.ext rfl (ext65 _ _)) rfl ?_;refine WL.call hasF288 rfl rfl (parts_spec x _ hx) fun v w2 h' => ?_;obtain ⟨rfl, hC6⟩ := h';have hch := hch.ta hC6;have hb2 := hb2.k0 hC6;refine zss rfl rfl ao hb2 rfl fun ws7 hb2_ hcs7 => ?_;(try simp only [Sx.splice, qt] at hb2_);have hch := hch.s1 hcs7;have hb2 := hb2_;refine zz (kh3 ?_);refine zr (bodyA.retR1 rfl (RVal.cell rfl (hb2.varA rfl rfl)) ?_);exact ⟨rfl, hch⟩

def kindP (x : Nat) : Nat :=
  if (splitP x).cls = 4 then 5 else if (splitP x).cls = 3 ∧ (splitP x).neg = true then 4 else if (splitP x).cls = 3 then 3
  else if (splitP x).cls = 0 ∧ (splitP x).neg = true then 1 else if (splitP x).cls = 0 then 2 else 0

theorem kind_spec (x : Nat) (w : World) (hx : x < 18446744073709551616) : Ret Tryz.prog 195 [.float .f64 x] w fun u w' => u = .int .i64 (kindP x : Int) ∧ Chg [] w w' := by
 have hch := crf w;refine zE1 Tryz.func195 rfl ?_;refine Sr fun _ kh1 => za rfl (zz (kh1 (Sr fun _ kh3 => zm rfl ?_)));refine WL.call hasF212 rfl rfl (Split_spec x _ hx) fun v w1 h' => ?_;obtain ⟨rfl, hC5⟩ := h';have hch := hch.ta hC5;refine WL.allocB (l := [.bool false, .int .i64 0, .int .i64 0, .int .u64 0]) rfl rfl fun b3 wm3 hb3 hcm3 hge3 => ?_;have hgehch3 := Nat.le_trans hch.size hge3;have hch := hch.ta hcm3;refine zss rfl rfl ao hb3 rfl fun ws8 hb3_ hcs8 => ?_;(try simp only [Sx.splice, qt] at hb3_);have hch := hch.s1 hcs8;have hb3 := hb3_;refine zz (kh3 (zc fun _ kh5 => CW.block (Sr fun _ kh6 => zf rfl (zl hb3 rfl rfl (zq rfl rfl (za rfl (zz (kh6 ?_))))))));refine zy rfl ?_ ?_<;>intro hc1<;>try simp only [qs] at hc1
 ·refine Sr fun _ kh8 => za rfl (zz (kh8 ?_));refine zr (zr1 rfl rfl ?_);unfold kindP; rw [if_pos (by omega)];exact ⟨rfl, hch⟩
 refine CW.seqM 10 (decide ((splitP x).cls = 3 ∧ (splitP x).neg = true)) ?_ ?_
 ·refine zS fun _ kr10 => zf rfl (zl hb3 rfl rfl (zq rfl rfl (zm rfl ?_)));refine zb ?_ ?_<;>intro hg2<;>try simp only [qs] at hg2
  ·refine zw rfl (zf rfl (zw rfl (zl hb3 rfl rfl (zt rfl rfl (za rfl (zz (kr10 ?_)))))));refine ⟨rfl, rfl, Subs.consB rfl ?_ ?_⟩
   ·first | (simp_all; done) | (simp; omega) | (cases hnn : (splitP x).neg <;> simp_all <;> omega)
   exact SMg
  refine zv rfl (zv rfl (ze rfl rfl (za rfl (zz (kr10 ?_)))));refine ⟨rfl, rfl, Subs.consB rfl ?_ ?_⟩
  ·first | (simp_all; done) | (simp; omega) | (cases hnn : (splitP x).neg <;> simp_all <;> omega)
  exact SMg
 refine zy rfl ?_ ?_<;>intro hc3<;>try simp only [qs] at hc3
 ·have hK10 := hc3
  refine Sr fun _ kh11 => za rfl (zz (kh11 ?_));refine zr (zr1 rfl rfl ?_);unfold kindP; rw [if_neg (by omega), if_pos hK10];exact ⟨rfl, hch⟩
 have hK10 := hc3;refine Sr fun _ kh13 => zf rfl (zl hb3 rfl rfl (zq rfl rfl (za rfl (zz (kh13 ?_)))));refine zy rfl ?_ ?_<;>intro hc4<;>try simp only [qs] at hc4
 ·refine Sr fun _ kh15 => za rfl (zz (kh15 ?_));refine zr (zr1 rfl rfl ?_);unfold kindP; rw [if_neg (by omega), if_neg hK10, if_pos (by omega)];exact ⟨rfl, hch⟩
 refine CW.seqM 22 (decide ((splitP x).cls = 0 ∧ (splitP x).neg = true)) ?_ ?_
 ·refine zS fun _ kr17 => zf rfl (zl hb3 rfl rfl (zq rfl rfl (zm rfl ?_)));refine zb ?_ ?_<;>intro hg5<;>try simp only [qs] at hg5
  ·refine zw rfl (zf rfl (zw rfl (zl hb3 rfl rfl (zt rfl rfl (za rfl (zz (kr17 ?_)))))));refine ⟨rfl, rfl, Subs.consB rfl ?_ ?_⟩
   ·first | (simp_all; done) | (simp; omega) | (cases hnn : (splitP x).neg <;> simp_all <;> omega)
   exact SMg
  refine zv rfl (zv rfl (ze rfl rfl (za rfl (zz (kr17 ?_)))));refine ⟨rfl, rfl, Subs.consB rfl ?_ ?_⟩
  ·first | (simp_all; done) | (simp; omega) | (cases hnn : (splitP x).neg <;> simp_all <;> omega)
  exact SMg
 refine zy rfl ?_ ?_<;>intro hc6<;>try simp only [qs] at hc6
 ·have hK22 := hc6
  refine Sr fun _ kh18 => za rfl (zz (kh18 ?_));refine zr (zr1 rfl rfl ?_);unfold kindP; rw [if_neg (by omega), if_neg hK10, if_neg (by omega), if_pos hK22];exact ⟨rfl, hch⟩
 have hK22 := hc6;refine Sr fun _ kh20 => zf rfl (zl hb3 rfl rfl (zq rfl rfl (za rfl (zz (kh20 ?_)))));refine zy rfl ?_ ?_<;>intro hc7<;>try simp only [qs] at hc7
 ·refine Sr fun _ kh22 => za rfl (zz (kh22 ?_));refine zr (zr1 rfl rfl ?_);unfold kindP; rw [if_neg (by omega), if_neg hK10, if_neg (by omega), if_neg hK22, if_pos (by omega)];exact ⟨rfl, hch⟩
 refine zkk (kh5 (Sr fun _ kh24 => za rfl (zz (kh24 ?_))));refine zr (zr1 rfl rfl ?_);unfold kindP; rw [if_neg (by omega), if_neg hK10, if_neg (by omega), if_neg hK22, if_neg (by omega)];exact ⟨rfl, hch⟩

theorem choice_spec (n : Int) (w : World) : Ret Tryz.prog 191 [.int .i64 n] w fun u w' => u = .bool (decide (0 ≤ n ∧ n ≤ 2)) ∧ w = w' := by
 refine zE1 Tryz.func191 rfl ?_;refine Sr fun _ kh1 => za rfl (zz (kh1 (Sr fun _ kh3 => zm rfl ?_)));refine WL.ev (Ev.geq rfl rfl) rfl ?_;refine zm rfl ?_;refine zb ?_ ?_<;>intro hg1<;>try simp only [qs] at hg1
 ·refine zw rfl (zm rfl (zw rfl (zQ rfl rfl (zt rfl rfl (za rfl (zz (kh3 ?_)))))));refine zr (zr1 rfl rfl ?_);refine ⟨congrArg Value.bool (decide_eq_decide.2 (by omega)), rfl⟩
 refine zv rfl (zv rfl (ze rfl rfl (za rfl (zz (kh3 ?_)))));refine zr (zr1 rfl rfl ?_);refine ⟨?_, rfl⟩;rw [decide_eq_false (by omega)]

def mayQ (a b : Int) : Prop := (0 ≤ a ∧ a ≤ 2) ∧ (0 ≤ b ∧ b ≤ 2)
instance (a b : Int) : Decidable (mayQ a b) := by unfold mayQ; exact inferInstance

theorem May_spec (pn pi : Int) (w : World) : Ret Tryz.prog 99 [.agg [.int .i64 pn, .int .i64 pi].toArray] w fun u w' => u = .bool (decide (mayQ pn pi)) ∧ Chg [] w w' := by
 have hch := crf w;refine zE1 Tryz.func99 rfl ?_;refine Sr fun _ kh1 => ?_;refine zBh rfl rfl rfl hch fun b1 wm1 hb1 hcm1 hge1 hgehch1 hch => ?_;refine za rfl (zz (kh1 (Sr fun _ kh3 => zf rfl (zl hb1 rfl rfl ?_))));refine WL.call hasF191 rfl rfl (choice_spec pn _) fun v w1 h' => ?_;obtain ⟨rfl, rfl⟩ := h';refine zm rfl ?_;refine zb ?_ ?_<;>intro hg1<;>try simp only [qs] at hg1
 ·refine zw rfl (zf rfl (zw rfl (zl hb1 rfl rfl (zw rfl ?_))));refine WL.call hasF191 rfl rfl (choice_spec pi _) fun v w2 h' => ?_
  obtain ⟨rfl, rfl⟩ := h';refine zt rfl rfl (za rfl (zz (kh3 ?_)));refine zr (zr1 rfl rfl ?_);refine ⟨congrArg Value.bool (decide_eq_decide.2 (by unfold mayQ; omega)), hch⟩
 refine zv rfl (zv rfl (zv rfl (ze rfl rfl (za rfl (zz (kh3 ?_))))));refine zr (zr1 rfl rfl ?_);refine ⟨?_, hch⟩;rw [decide_eq_false (by unfold mayQ; omega)]

end

/- Package policy: counts of kinds. No condition. -/
section
open Go Sx Wd

structure SP where
  na : Nat
  up : Nat
  dn : Nat
  mi : Nat
  pl : Nat
  al : Nat
def SP.cells (s : SP) : List Value := [.int .i64 (s.na : Int), .int .i64 (s.up : Int), .int .i64 (s.dn : Int), .int .i64 (s.mi : Int), .int .i64 (s.pl : Int), .int .i64 (s.al : Int)]
def SP.le (s : SP) (n : Nat) : Prop := s.na ≤ n ∧ s.up ≤ n ∧ s.dn ≤ n ∧ s.mi ≤ n ∧ s.pl ≤ n ∧ s.al ≤ n
def SP.zero : SP := ⟨0, 0, 0, 0, 0, 0⟩
def countP (s : SP) (k : Nat) : SP :=
  ⟨s.na + (if k = 5 then 1 else 0), s.up + (if k = 3 then 1 else 0), s.dn + (if k = 4 then 1 else 0), s.mi + (if k = 1 then 1 else 0), s.pl + (if k = 2 then 1 else 0), s.al + 1⟩
theorem countP.le {s : SP} {k n : Nat} (h : s.le n) : (countP s k).le (n + 1) := by
  obtain ⟨a, b, c, d, e, f⟩ := h
  refine ⟨?_, ?_, ?_, ?_, ?_, ?_⟩ <;> (simp only [countP]; try split) <;> omega
def mayBeP (s : SP) : Prop := s.na + s.up + s.dn + s.mi + s.pl ≤ s.al ∧ s.al ≤ 1099511627776
instance (s : SP) : Decidable (mayBeP s) := by unfold mayBeP; exact inferInstance
def SP.five (s : SP) : List Nat := [s.na, s.up, s.dn, s.mi, s.pl]
theorem take_sum {l : List Nat} : ∀ {i : Nat}, i < l.length → (l.take (i + 1)).sum = (l.take i).sum + l.getD i 0 := by
  induction l with
  | nil => intro i h; simp at h
  | cons a l ih =>
    intro i h
    cases i with
    | zero => simp
    | succ i =>
      have := ih (i := i) (by simpa using h)
      simp only [List.take_succ_cons, List.sum_cons, this, List.getD_cons_succ]; omega
theorem five_le (s : SP) (i : Nat) : s.five.getD i 0 ≤ s.na + s.up + s.dn + s.mi + s.pl := by
  unfold SP.five
  match i with
  | 0 => simp; omega
  | 1 => simp; omega
  | 2 => simp; omega
  | 3 => simp; omega
  | 4 => simp
  | n + 5 => simp
theorem five_sum (s : SP) : (s.five.take 5).sum = s.na + s.up + s.dn + s.mi + s.pl := by
  simp [SP.five]; omega

theorem count_spec (b k : Nat) (s : SP) (w : World) (hB : BK w b 103 s.cells) (hs : s.le 1000000000000000) : Ret Tryz.prog 196 [.pointer (some ⟨b, 0, none⟩), .int .i64 (k : Int)] w fun u w' => BK w' b 103 (countP s k).cells ∧ Chg [b] w w' := by
 obtain ⟨hs1, hs2, hs3, hs4, hs5, hs6⟩ := hs;unfold SP.cells at hB;have hch : Chg [b] w w := Chg.refl _ _;refine zE2 Tryz.func196 rfl ?_;refine Sr fun _ kh1 => zm rfl (zP rfl (zf rfl (zl hB rfl rfl ?_)));(first | refine zi rfl rfl ?_ | refine zo rfl rfl ?_);refine zP rfl (zf rfl ?_);refine WL.storeC rfl rfl o1 hB (by simp) rfl fun ws9 hB_ hcs9 => ?_;(try simp only [Sx.splice, qt] at hB_);have hch := hch.s1 hcs9;have hB := hB_;refine zz (kh1 (Sr fun _ kh3 => zm rfl (zz (kh3 (CW.block (Sr fun _ kh5 => zq rfl rfl (za rfl (zz (kh5 ?_)))))))));refine zy rfl ?_ ?_<;>intro hc1<;>try simp only [qs] at hc1
 ·refine zS fun _ kr7 => zm rfl (zP rfl (zf rfl (zl hB rfl rfl ?_)));(first | refine zi rfl rfl ?_ | refine zo rfl rfl ?_);refine zP rfl (zf rfl ?_);refine WL.storeC rfl rfl o1 hB (by simp) rfl fun ws10 hB_ hcs10 => ?_
  (try simp only [Sx.splice, qt] at hB_);have hch := hch.s1 hcs10
  have hB := hB_;refine zz (kr7 ?_);refine bodyA.norm0 rfl ?_;refine ⟨?_, hch⟩;have hk : k = 5 := by omega
  subst hk
  simpa [SP.cells, countP] using hB
 refine Sr fun _ kh8 => zq rfl rfl (za rfl (zz (kh8 ?_)));refine zy rfl ?_ ?_<;>intro hc2<;>try simp only [qs] at hc2
 ·refine zS fun _ kr10 => zm rfl (zP rfl (zf rfl (zl hB rfl rfl ?_)));(first | refine zi rfl rfl ?_ | refine zo rfl rfl ?_);refine zP rfl (zf rfl ?_);refine WL.storeC rfl rfl o1 hB (by simp) rfl fun ws11 hB_ hcs11 => ?_
  (try simp only [Sx.splice, qt] at hB_);have hch := hch.s1 hcs11
  have hB := hB_;refine zz (kr10 ?_);refine bodyA.norm0 rfl ?_;refine ⟨?_, hch⟩;have hk : k = 3 := by omega
  subst hk
  simpa [SP.cells, countP] using hB
 refine Sr fun _ kh11 => zq rfl rfl (za rfl (zz (kh11 ?_)));refine zy rfl ?_ ?_<;>intro hc3<;>try simp only [qs] at hc3
 ·refine zS fun _ kr13 => zm rfl (zP rfl (zf rfl (zl hB rfl rfl ?_)));(first | refine zi rfl rfl ?_ | refine zo rfl rfl ?_);refine zP rfl (zf rfl ?_);refine WL.storeC rfl rfl o1 hB (by simp) rfl fun ws12 hB_ hcs12 => ?_
  (try simp only [Sx.splice, qt] at hB_);have hch := hch.s1 hcs12
  have hB := hB_;refine zz (kr13 ?_);refine bodyA.norm0 rfl ?_;refine ⟨?_, hch⟩;have hk : k = 4 := by omega
  subst hk
  simpa [SP.cells, countP] using hB
 refine Sr fun _ kh14 => zq rfl rfl (za rfl (zz (kh14 ?_)));refine zy rfl ?_ ?_<;>intro hc4<;>try simp only [qs] at hc4
 ·refine zS fun _ kr16 => zm rfl (zP rfl (zf rfl (zl hB rfl rfl ?_)));(first | refine zi rfl rfl ?_ | refine zo rfl rfl ?_);refine zP rfl (zf rfl ?_);refine WL.storeC rfl rfl o1 hB (by simp) rfl fun ws13 hB_ hcs13 => ?_
  (try simp only [Sx.splice, qt] at hB_);have hch := hch.s1 hcs13
  have hB := hB_;refine zz (kr16 ?_);refine bodyA.norm0 rfl ?_;refine ⟨?_, hch⟩;have hk : k = 1 := by omega
  subst hk
  simpa [SP.cells, countP] using hB
 refine Sr fun _ kh17 => zq rfl rfl (za rfl (zz (kh17 ?_)));refine zy rfl ?_ ?_<;>intro hc5<;>try simp only [qs] at hc5
 ·refine zS fun _ kr19 => zm rfl (zP rfl (zf rfl (zl hB rfl rfl ?_)));(first | refine zi rfl rfl ?_ | refine zo rfl rfl ?_);refine zP rfl (zf rfl ?_);refine WL.storeC rfl rfl o1 hB (by simp) rfl fun ws14 hB_ hcs14 => ?_
  (try simp only [Sx.splice, qt] at hB_);have hch := hch.s1 hcs14
  have hB := hB_;refine zz (kr19 ?_);refine bodyA.norm0 rfl ?_;refine ⟨?_, hch⟩;have hk : k = 2 := by omega
  subst hk
  simpa [SP.cells, countP] using hB
 refine zkk ?_;refine bodyA.norm0 rfl ?_;refine ⟨?_, hch⟩;have k1 : ¬ k = 5 := by omega
 have k2 : ¬ k = 3 := by omega
 have k3 : ¬ k = 4 := by omega
 have k4 : ¬ k = 1 := by omega
 have k5 : ¬ k = 2 := by omega
 simpa [SP.cells, countP, k1, k2, k3, k4, k5] using hB

def KMb (s : SP) (b : Nat) (w0 : World) (g : Nat × Nat) (w : World) : Prop := g.1 ≤ 5 ∧ g.2 = (s.five.take g.1).sum ∧ g.2 ≤ g.1 * 1099511627776 ∧ BK w b 103 s.cells ∧ Chg [] w0 w

theorem mayBe_spec (s : SP) (w : World) (hs : s.le 1000000000000000) : Ret Tryz.prog 182 [.agg [.int .i64 (s.na : Int), .int .i64 (s.up : Int), .int .i64 (s.dn : Int), .int .i64 (s.mi : Int), .int .i64 (s.pl : Int), .int .i64 (s.al : Int)].toArray] w fun u w' => u = .bool (decide (mayBeP s)) ∧ Chg [] w w' := by
  obtain ⟨hs1, hs2, hs3, hs4, hs5, hs6⟩ := hs;have hch := crf w;refine zE1 Tryz.func182 rfl ?_;refine Sr fun _ kh1 => ?_;refine zBh rfl rfl rfl hch fun b1 wm1 hb1 hcm1 hge1 hgehch1 hch => ?_;refine za rfl (zz (kh1 (Sr fun _ kh3 => za rfl (zz (kh3 (zc fun _ kh5 => Sr fun _ kh6 => zf rfl (zl hb1 rfl rfl (zf rfl (zl hb1 rfl rfl (zf rfl (zl hb1 rfl rfl (zf rfl (zl hb1 rfl rfl (zf rfl (zl hb1 rfl rfl ?_)))))))))))))));refine WL.ev (Ev.buildA (vs := _) (cs := [_, _, _, _, _]) rfl rfl) rfl ?_;refine zm rfl (zz (kh6 (CW.block ?_)));refine CW.loop (S := fun g : Nat × Nat => [(1, .pointer (some ⟨b1, 0, none⟩)), (2, .bool false), (3, .int .i64 (g.2 : Int)), (16, .agg (s.five.map fun n : Nat => Value.int .i64 (n : Int)).toArray), (17, .int .i64 (g.1 : Int))]) (Inv := KMb s b1 w) (mu := fun g => 5 - g.1) ((0, 0)) ?_ ?_ ?_
  · exact ⟨by omega, rfl, by omega, hb1, hch⟩
  · exact SLp
  rintro ⟨i, m⟩ wr ⟨hi5, hm, hmx, hb1, hch⟩;dsimp only at hi5 hm hmx hb1 hch;unfold SP.cells at hb1;have hmv := five_le s i;refine Sr fun _ kh8 => zL rfl rfl (zz (kh8 (zc fun _ kh10 => ?_)));refine zy rfl ?_ ?_<;>intro hc1<;>try simp only [qs] at hc1
  · refine zkk (kh10 (zc fun _ kh11 => CW.block (Sr fun _ kh12 => ?_)));refine WL.ev (Ev.indexAr (i := i) (v := .int .i64 ((s.five.getD i 0 : Nat) : Int)) rfl rfl (by omega) rfl ?_) rfl ?_
    · have : i < s.five.length := by show i < 5; omega
      rw [List.getElem?_map, List.getD_eq_getElem?_getD, List.getElem?_eq_getElem this]; rfl
    refine za rfl (zz (kh12 (zc fun _ kh14 => ?_)));refine CW.seqM 25 (decide (1099511627776 < s.five.getD i 0)) ?_ ?_
    · refine zS fun _ kr15 => zm rfl (zL rfl rfl (zm rfl ?_));refine zb ?_ ?_<;>intro hg2<;>try simp only [qs] at hg2
      · refine zv rfl (zv rfl (zt rfl rfl (zz (kr15 ?_))));refine ⟨rfl, rfl, Subs.consB rfl ?_ ?_⟩
        · first | (simp; omega) | (refine decide_eq_decide.2 ?_; omega)
        exact SMg
      refine zw rfl (zm rfl (zw rfl (zG rfl rfl (ze rfl rfl (zz (kr15 ?_))))));refine ⟨rfl, rfl, Subs.consB rfl ?_ ?_⟩
      · first | (simp; omega) | (refine decide_eq_decide.2 ?_; omega)
      exact SMg
    refine zy rfl ?_ ?_<;>intro hc3<;>try simp only [qs] at hc3
    · refine Sr fun _ kh16 => za rfl (zz (kh16 ?_));refine zr (zr1 rfl rfl ?_);refine ⟨?_, hch⟩;rw [decide_eq_false (by unfold mayBeP; omega)]
    refine zkk (kh14 ?_);refine zR fun _ kr18 => ?_;refine zm rfl (zm rfl ?_);(first | refine zi rfl rfl ?_ | refine zo rfl rfl ?_);refine za rfl ?_;refine WL.nil (kr18 _ _ _ (kh11 ?_));refine zS fun _ kr19 => ?_;(first | refine zi rfl rfl ?_ | refine zo rfl rfl ?_);refine zm rfl (zz (kr19 ?_));refine ⟨rfl, (i + 1, m + s.five.getD i 0), ?_, ?_, ?_⟩
    · exact SLp
    · exact ⟨by omega, by dsimp only; rw [hm]; exact (take_sum (by show i < 5; omega)).symm, by dsimp only; omega, hb1, hch⟩
    show 5 - (i + 1) < 5 - i; omega
  refine CW.exit ?_;refine kh5 (zc fun _ kh20 => ?_);have h5 : i = 5 := by omega
  subst h5;rw [five_sum] at hm;refine zR fun _ kr21 => ?_;refine zm rfl (zf rfl (zl hb1 rfl rfl (zQ rfl rfl (zm rfl ?_))));refine zb ?_ ?_<;>intro hg4<;>try simp only [qs] at hg4
  · refine zw rfl (zf rfl (zw rfl (zl hb1 rfl rfl (zw rfl (zQ rfl rfl (zt rfl rfl (za rfl ?_)))))));refine WL.nil (kr21 _ _ _ (kh20 ?_));refine zr (zr1 rfl rfl ?_);refine ⟨congrArg Value.bool (decide_eq_decide.2 (by unfold mayBeP; omega)), hch⟩
  refine zv rfl (zv rfl (zv rfl (ze rfl rfl (za rfl ?_))));refine WL.nil (kr21 _ _ _ (kh20 ?_));refine zr (zr1 rfl rfl ?_);refine ⟨?_, hch⟩;rw [decide_eq_false (by unfold mayBeP; omega)]

end

/- Package policy: Verdict, Nought, Plain; math.Inf, Copysign; bits.NaN. No condition. -/
section
open Go Sx Wd

theorem Inf_spec (n : Int) (w : World) : Ret Tryz.prog 183 [.int .i64 n] w fun u w' => u = .float .f64 (if 0 ≤ n then 9218868437227405312 else 18442240474082181120) ∧ w = w' := by
 refine zE1 Tryz.func183 rfl ?_;refine Sr fun _ kh1 => za rfl (zz (kh1 (Sr fun _ kh3 => za rfl (zz (kh3 (zc fun _ kh5 => Sr fun _ kh6 => zm rfl ?_))))));refine WL.ev (Ev.geq rfl rfl) rfl ?_;refine zz (kh6 ?_);refine zy rfl ?_ ?_<;>intro hc1<;>try simp only [qs] at hc1
 ·refine zR fun _ kr8 => ?_
  refine za rfl ?_;refine WL.nil (kr8 _ _ _ (kh5 ?_));refine Sr fun _ kh9 => zm rfl ?_;refine WL.ev (Ev.ext rfl (ext87 _ _)) rfl ?_;refine za rfl (zz (kh9 ?_));refine zr (zr1 rfl rfl ?_);rw [if_pos (by omega)];exact ⟨rfl, rfl⟩
 refine zR fun _ kr11 => ?_;refine za rfl ?_;refine WL.nil (kr11 _ _ _ (kh5 ?_));refine Sr fun _ kh12 => zm rfl ?_;refine WL.ev (Ev.ext rfl (ext87 _ _)) rfl ?_;refine za rfl (zz (kh12 ?_));refine zr (zr1 rfl rfl ?_);rw [if_neg (by omega)];exact ⟨rfl, rfl⟩

theorem Copysign_spec (w : World) : Ret Tryz.prog 185 [.float .f64 0, .float .f64 13830554455654793216] w fun u w' => u = .float .f64 9223372036854775808 ∧ w = w' := by
 refine zE2 Tryz.func185 rfl ?_;refine Sr fun _ kh1 => za rfl (zz (kh1 (Sr fun _ kh3 => zm rfl ?_)));refine WL.ev (Ev.ext rfl (ext65 _ _)) rfl ?_;refine WL.ev (Ev.andNotU (a := 0) (b := 9223372036854775808) rfl rfl rfl (by decide) (by decide)) rfl ?_;rw [show 0 &&& (2 ^ IntKind.u64.bits - 1 - 9223372036854775808) = 0 from Nat.zero_and _];refine zm rfl ?_;refine WL.ev (Ev.ext rfl (ext65 _ _)) rfl ?_;refine WL.ev (Ev.andU (a := 13830554455654793216) (b := 9223372036854775808) rfl rfl rfl (by decide) (by decide)) rfl ?_;rw [show 13830554455654793216 &&& 9223372036854775808 = 9223372036854775808 from by decide];refine WL.ev (Ev.orU (a := 0) (b := 9223372036854775808) rfl rfl rfl (by decide) (by decide)) rfl ?_;rw [show 0 ||| 9223372036854775808 = 9223372036854775808 from by decide];refine WL.ev (Ev.ext rfl (ext87 _ _)) rfl ?_;refine za rfl (zz (kh3 ?_));refine zr (zr1 rfl rfl ?_);exact ⟨rfl, rfl⟩

theorem NaN_spec (w : World) : Ret Tryz.prog 97 [] w fun u w' => u = .float .f64 9221120237041090560 ∧ w = w' := by
 refine zE0 Tryz.func97 rfl ?_;refine Sr fun _ kh1 => za rfl (zz (kh1 (Sr fun _ kh3 => ?_)));refine WL.ev (Ev.ext rfl (ext87 _ _)) rfl ?_;refine za rfl (zz (kh3 ?_));refine zr (zr1 rfl rfl ?_);exact ⟨rfl, rfl⟩

theorem Plain_spec (w : World) : Ret Tryz.prog 131 [] w fun u w' => u = .agg [.int .i64 0, .int .i64 0].toArray ∧ Chg [] w w' := by
 have hch := crf w;refine zE0 Tryz.func131 rfl ?_;refine Sr fun _ kh1 => ?_;refine WL.allocB (l := [.int .i64 0, .int .i64 0]) rfl rfl fun b0 wm0 hb0 hcm0 hge0 => ?_;have hgehch0 := Nat.le_trans hch.size hge0;have hch := hch.ta hcm0;refine zz (kh1 (Sr fun _ kh3 => ?_));refine WL.ev (Ev.build (vs := _) (cs := [_, _]) rfl rfl) rfl ?_;refine zss rfl rfl ao hb0 rfl fun ws15 hb0_ hcs15 => ?_;(try simp only [Sx.splice, qt] at hb0_);have hch := hch.s1 hcs15;have hb0 := hb0_;refine zz (kh3 ?_);refine zr (bodyA.retR1 rfl (RVal.cell rfl (hb0.varA rfl rfl)) ?_);exact ⟨rfl, hch⟩

def verdP (s : SP) (pn pi : Int) : Option Nat :=
  if ¬ mayBeP s ∨ ¬ mayQ pn pi then none else if (0 < s.na ∧ pn = 0) ∨ (0 < s.up ∧ 0 < s.dn ∧ pi = 0) then some 9221120237041090560
  else if 0 < s.up ∧ pi = 0 then some 9218868437227405312 else if 0 < s.dn ∧ pi = 0 then some 18442240474082181120 else none
def noughtP (s : SP) (mode : Int) : Nat :=
  if mayBeP s ∧ s.na + s.up + s.dn < s.al ∧ (s.mi + s.na + s.up + s.dn = s.al ∨ s.pl + s.na + s.up + s.dn < s.al ∧ mode = 3) then 9223372036854775808 else 0

theorem Verdict_spec (s : SP) (pn pi : Int) (w : World) (hs : s.le 1000000000000000) : Ret Tryz.prog 92 [.agg [.int .i64 (s.na : Int), .int .i64 (s.up : Int), .int .i64 (s.dn : Int), .int .i64 (s.mi : Int), .int .i64 (s.pl : Int), .int .i64 (s.al : Int)].toArray, .agg [.int .i64 pn, .int .i64 pi].toArray] w fun u w' => u = .tuple [.float .f64 ((verdP s pn pi).getD 0), .bool (verdP s pn pi).isSome].toArray ∧ Chg [] w w' := by
 have hs0 := hs;obtain ⟨hs1, hs2, hs3, hs4, hs5, hs6⟩ := hs;have hch := crf w;refine zE2 Tryz.func92 rfl ?_;refine Sr fun _ kh1 => ?_;refine zBh rfl rfl rfl hch fun b2 wm2 hb2 hcm2 hge2 hgehch2 hch => ?_;refine zBh rfl rfl rfl hch fun b3 wm3 hb3 hcm3 hge3 hgehch3 hch => ?_;have hneb23 := zdd hb2.lt hge3;have hb2 := hb2.k0 hcm3;refine za rfl (za rfl (zz (kh1 (zc fun _ kh3 => ?_))));refine CW.seqMC 15 (decide (¬ mayBeP s ∨ ¬ mayQ pn pi)) ?_ ?_
 ·intro hcM;refine zS fun _ kr4 => zg hb2 rfl ?_;refine WL.call hasF182 rfl rfl (mayBe_spec s _ hs0) fun v w1 h' => ?_;obtain ⟨rfl, hC9⟩ := h';have hcM := hcM.ta hC9;have hb3 := hb3.k0 hC9;refine zT rfl (zm rfl ?_);refine zb ?_ ?_<;>intro hg1<;>try simp only [qs] at hg1
  ·refine zv rfl (zv rfl (zv rfl (zt rfl rfl (zz (kr4 ?_)))));refine ⟨rfl, hcM, Subs.consB rfl ?_ ?_⟩
   ·first | (simp_all; done) | (refine (decide_eq_true ?_).symm; simp_all; done) | (refine decide_eq_decide.2 ?_; simp_all; done)
   exact SMg
  refine zw rfl (zg hb3 rfl (zw rfl ?_));refine WL.call hasF99 rfl rfl (May_spec pn pi _) fun v w2 h' => ?_;obtain ⟨rfl, hC13⟩ := h';have hcM := hcM.ta hC13;refine zw rfl (zT rfl (ze rfl rfl (zz (kr4 ?_))));refine ⟨rfl, hcM, Subs.consB rfl ?_ ?_⟩
  ·first | (simp_all; done) | (refine (decide_eq_true ?_).symm; simp_all; done) | (refine decide_eq_decide.2 ?_; simp_all; done)
  exact SMg
 intro wM hcM;have hch := hch.ta hcM;have hb2 := hb2.k0 hcM;have hb3 := hb3.k0 hcM;refine zy rfl ?_ ?_<;>intro hc2<;>try simp only [qs] at hc2
 ·have hMM : ¬ mayBeP s ∨ ¬ mayQ pn pi := hc2
  refine Sr fun _ kh5 => za rfl (za rfl (zz (kh5 ?_)));refine zr (zr2 rfl rfl rfl ?_);refine ⟨?_, hch⟩;unfold verdP; rw [if_pos hMM]; rfl
 have hMM : ¬ (¬ mayBeP s ∨ ¬ mayQ pn pi) := hc2;refine zkk (kh3 ?_);refine CW.seqJ (fun D s' w' => D = [] ∧ BK w' b2 103 s.cells ∧ BK w' b3 34 [.int .i64 pn, .int .i64 pi] ∧ Chg [] w w' ∧ Subs [(6, .bool (decide (0 < s.up ∧ pi = 0))), (7, .bool (decide (0 < s.dn ∧ pi = 0))), (2, .pointer (some ⟨b2, 0, none⟩)), (3, .pointer (some ⟨b3, 0, none⟩))] s') ?_ ?_
 ·refine CW.regionSC hmix (by kernel_rfl) fun kR8 kr8 hdr => ?_;have hch := hch.ta hdr;have hb2 := hb2.k0 hdr;have hb3 := hb3.k0 hdr;refine yf rfl ?_;refine WS.ev (Ev.load rfl rfl (hb2.at_ rfl)) rfl ?_;refine WS.ev (Ev.gtr rfl rfl) rfl ?_;refine ym rfl ?_;refine WS.boolCase (fun hg3 => ?_) (fun hg3 => ?_)
  ·(try simp only [qs] at hg3);refine yw rfl (yf rfl (yw rfl ?_));refine WS.ev (Ev.load rfl rfl (hb3.at_ rfl)) rfl ?_
   refine yw rfl ?_;refine WS.ev (Ev.eql rfl rfl) rfl ?_;refine yt rfl rfl (yf rfl ?_);refine WS.ev (Ev.load rfl rfl (hb2.at_ rfl)) rfl ?_;refine WS.ev (Ev.gtr rfl rfl) rfl ?_;refine ym rfl ?_;refine WS.boolCase (fun hg4 => ?_) (fun hg4 => ?_)
   ·(try simp only [qs] at hg4);refine yw rfl (yf rfl (yw rfl ?_));refine WS.ev (Ev.load rfl rfl (hb3.at_ rfl)) rfl ?_
    refine yw rfl ?_;refine WS.ev (Ev.eql rfl rfl) rfl ?_;refine yt rfl rfl (ya rfl (ya rfl ?_));refine WS.nil (kr8 _ _ ?_);refine ⟨rfl, hb2, hb3, hch, Subs.consB rfl ?_ (Subs.consB rfl ?_ ?_)⟩
    · first | (simp_all; done) | (refine decide_eq_decide.2 ?_; omega) | (refine (decide_eq_true ?_).symm; omega) | (refine (decide_eq_false ?_).symm; omega) | (refine decide_eq_decide.2 ?_; simp_all; done)
    · first | (simp_all; done) | (refine decide_eq_decide.2 ?_; omega) | (refine (decide_eq_true ?_).symm; omega) | (refine (decide_eq_false ?_).symm; omega) | (refine decide_eq_decide.2 ?_; simp_all; done)
    (repeat (first | exact Subs.nil | refine Subs.cons rfl ?_))
   (try simp only [qs] at hg4);refine yv rfl (yv rfl (yv rfl (ye rfl rfl (ya rfl (ya rfl ?_)))));refine WS.nil (kr8 _ _ ?_);refine ⟨rfl, hb2, hb3, hch, Subs.consB rfl ?_ (Subs.consB rfl ?_ ?_)⟩
   · first | (simp_all; done) | (refine decide_eq_decide.2 ?_; omega) | (refine (decide_eq_true ?_).symm; omega) | (refine (decide_eq_false ?_).symm; omega) | (refine decide_eq_decide.2 ?_; simp_all; done)
   · first | (simp_all; done) | (refine decide_eq_decide.2 ?_; omega) | (refine (decide_eq_true ?_).symm; omega) | (refine (decide_eq_false ?_).symm; omega) | (refine decide_eq_decide.2 ?_; simp_all; done)
   (repeat (first | exact Subs.nil | refine Subs.cons rfl ?_))
  (try simp only [qs] at hg3);refine yv rfl (yv rfl (yv rfl (ye rfl rfl (yf rfl ?_))));refine WS.ev (Ev.load rfl rfl (hb2.at_ rfl)) rfl ?_
  refine WS.ev (Ev.gtr rfl rfl) rfl ?_;refine ym rfl ?_;refine WS.boolCase (fun hg5 => ?_) (fun hg5 => ?_)
  ·(try simp only [qs] at hg5);refine yw rfl (yf rfl (yw rfl ?_));refine WS.ev (Ev.load rfl rfl (hb3.at_ rfl)) rfl ?_
   refine yw rfl ?_;refine WS.ev (Ev.eql rfl rfl) rfl ?_;refine yt rfl rfl (ya rfl (ya rfl ?_));refine WS.nil (kr8 _ _ ?_);refine ⟨rfl, hb2, hb3, hch, Subs.consB rfl ?_ (Subs.consB rfl ?_ ?_)⟩
   · first | (simp_all; done) | (refine decide_eq_decide.2 ?_; omega) | (refine (decide_eq_true ?_).symm; omega) | (refine (decide_eq_false ?_).symm; omega) | (refine decide_eq_decide.2 ?_; simp_all; done)
   · first | (simp_all; done) | (refine decide_eq_decide.2 ?_; omega) | (refine (decide_eq_true ?_).symm; omega) | (refine (decide_eq_false ?_).symm; omega) | (refine decide_eq_decide.2 ?_; simp_all; done)
   (repeat (first | exact Subs.nil | refine Subs.cons rfl ?_))
  (try simp only [qs] at hg5);refine yv rfl (yv rfl (yv rfl (ye rfl rfl (ya rfl (ya rfl ?_)))));refine WS.nil (kr8 _ _ ?_);refine ⟨rfl, hb2, hb3, hch, Subs.consB rfl ?_ (Subs.consB rfl ?_ ?_)⟩
  · first | (simp_all; done) | (refine decide_eq_decide.2 ?_; omega) | (refine (decide_eq_true ?_).symm; omega) | (refine (decide_eq_false ?_).symm; omega) | (refine decide_eq_decide.2 ?_; simp_all; done)
  · first | (simp_all; done) | (refine decide_eq_decide.2 ?_; omega) | (refine (decide_eq_true ?_).symm; omega) | (refine (decide_eq_false ?_).symm; omega) | (refine decide_eq_decide.2 ?_; simp_all; done)
  (repeat (first | exact Subs.nil | refine Subs.cons rfl ?_))
 rintro _ s' wJ ⟨rfl, hb2, hb3, hch, hsub⟩;refine CW.sub hsub ?_;refine zc fun _ kh9 => CW.block ?_;refine CW.seqJ (fun D s' w' => D = [] ∧ BK w' b2 103 s.cells ∧ BK w' b3 34 [.int .i64 pn, .int .i64 pi] ∧ Chg [] w w' ∧ Subs [(32, .bool (decide ((0 < s.na ∧ pn = 0) ∨ (0 < s.up ∧ 0 < s.dn ∧ pi = 0)))), (6, .bool (decide (0 < s.up ∧ pi = 0))), (7, .bool (decide (0 < s.dn ∧ pi = 0))), (2, .pointer (some ⟨b2, 0, none⟩)), (3, .pointer (some ⟨b3, 0, none⟩))] s') ?_ ?_
 ·refine CW.seqM 32 (decide (0 < s.na ∧ pn = 0)) ?_ ?_
  ·refine zS fun _ kr11 => zf rfl (zl hb2 rfl rfl (zG rfl rfl (zm rfl ?_)));refine zb ?_ ?_<;>intro hg6<;>try simp only [qs] at hg6
   ·refine zw rfl (zf rfl (zw rfl (zl hb3 rfl rfl (zw rfl (zq rfl rfl (zt rfl rfl (za rfl (zz (kr11 ?_)))))))));refine ⟨rfl, rfl, Subs.consB rfl ?_ ?_⟩
    ·first | (simp_all; done) | (refine decide_eq_decide.2 ?_; omega) | (refine (decide_eq_true ?_).symm; omega) | (refine (decide_eq_false ?_).symm; omega) | (refine decide_eq_decide.2 ?_; simp_all; done)
    exact SMg
   refine zv rfl (zv rfl (zv rfl (ze rfl rfl (za rfl (zz (kr11 ?_))))));refine ⟨rfl, rfl, Subs.consB rfl ?_ ?_⟩
   ·first | (simp_all; done) | (refine decide_eq_decide.2 ?_; omega) | (refine (decide_eq_true ?_).symm; omega) | (refine (decide_eq_false ?_).symm; omega) | (refine decide_eq_decide.2 ?_; simp_all; done)
   exact SMg
  refine zy rfl ?_ ?_<;>intro hc7<;>try simp only [qs] at hc7
  ·have h1 : 0 < s.na ∧ pn = 0 := hc7
   refine zkk ?_;refine ⟨rfl, hb2, hb3, hch, Subs.consB rfl ?_ ?_⟩
   · first | exact (decide_eq_true (.inl h1)).symm | (simp_all; done) | (refine decide_eq_decide.2 ?_; omega) | (refine (decide_eq_true ?_).symm; omega) | (refine (decide_eq_false ?_).symm; omega)
   (repeat (first | exact Subs.nil | refine Subs.cons rfl ?_))
  have h1 : ¬ (0 < s.na ∧ pn = 0) := hc7;refine zS fun _ kr12 => zm rfl (zm rfl ?_);refine zb ?_ ?_<;>intro hg8<;>try simp only [qs] at hg8
  ·refine zw rfl (zm rfl (zt rfl rfl (za rfl (zz (kr12 ?_)))));refine ⟨rfl, hb2, hb3, hch, Subs.consB rfl ?_ ?_⟩
   · first | exact (decide_eq_true (.inl h1)).symm | (simp_all; done) | (refine decide_eq_decide.2 ?_; omega) | (refine (decide_eq_true ?_).symm; omega) | (refine (decide_eq_false ?_).symm; omega)
   (repeat (first | exact Subs.nil | refine Subs.cons rfl ?_))
  refine zv rfl (ze rfl rfl (za rfl (zz (kr12 ?_))));refine ⟨rfl, hb2, hb3, hch, Subs.consB rfl ?_ ?_⟩
  · first | exact (decide_eq_true (.inl h1)).symm | (simp_all; done) | (refine decide_eq_decide.2 ?_; omega) | (refine (decide_eq_true ?_).symm; omega) | (refine (decide_eq_false ?_).symm; omega)
  (repeat (first | exact Subs.nil | refine Subs.cons rfl ?_))
 rintro _ s' wJ ⟨rfl, hb2, hb3, hch, hsub⟩;refine CW.sub hsub ?_;refine zy rfl ?_ ?_<;>intro hc9<;>try simp only [qs] at hc9
 ·have h2 : (0 < s.na ∧ pn = 0) ∨ (0 < s.up ∧ 0 < s.dn ∧ pi = 0) := hc9
  refine Sr fun _ kh13 => ?_;refine WL.call hasF97 rfl rfl (NaN_spec _) fun v w3 h' => ?_;obtain ⟨rfl, rfl⟩ := h';refine za rfl (za rfl (zz (kh13 ?_)));refine zr (zr2 rfl rfl rfl ?_);refine ⟨?_, hch⟩;unfold verdP; rw [if_neg hMM, if_pos h2]; rfl
 have h2 : ¬ ((0 < s.na ∧ pn = 0) ∨ (0 < s.up ∧ 0 < s.dn ∧ pi = 0)) := hc9;refine Sr fun _ kh15 => zm rfl (za rfl (zz (kh15 ?_)));refine zy rfl ?_ ?_<;>intro hc10<;>try simp only [qs] at hc10
 ·have h3 : 0 < s.up ∧ pi = 0 := hc10
  refine Sr fun _ kh17 => ?_;refine WL.call hasF183 rfl rfl (Inf_spec 1 _) fun v w4 h' => ?_;obtain ⟨rfl, rfl⟩ := h';refine za rfl (za rfl (zz (kh17 ?_)));refine zr (zr2 rfl rfl rfl ?_);refine ⟨?_, hch⟩;unfold verdP; rw [if_neg hMM, if_neg h2, if_pos h3]; rfl
 have h3 : ¬ (0 < s.up ∧ pi = 0) := hc10;refine Sr fun _ kh19 => zm rfl (za rfl (zz (kh19 ?_)));refine zy rfl ?_ ?_<;>intro hc11<;>try simp only [qs] at hc11
 ·have h4 : 0 < s.dn ∧ pi = 0 := hc11
  refine Sr fun _ kh21 => ?_;refine WL.call hasF183 rfl rfl (Inf_spec (-1) _) fun v w5 h' => ?_;obtain ⟨rfl, rfl⟩ := h';refine za rfl (za rfl (zz (kh21 ?_)));refine zr (zr2 rfl rfl rfl ?_);refine ⟨?_, hch⟩;unfold verdP; rw [if_neg hMM, if_neg h2, if_neg h3, if_pos h4]; rfl
 have h4 : ¬ (0 < s.dn ∧ pi = 0) := hc11;refine zkk (kh9 (Sr fun _ kh23 => za rfl (za rfl (zz (kh23 ?_)))));refine zr (zr2 rfl rfl rfl ?_);refine ⟨?_, hch⟩;unfold verdP; rw [if_neg hMM, if_neg h2, if_neg h3, if_neg h4]; rfl

theorem Nought_spec (s : SP) (mode : Int) (w : World) (hs : s.le 1000000000000000) : Ret Tryz.prog 94 [.agg [.int .i64 (s.na : Int), .int .i64 (s.up : Int), .int .i64 (s.dn : Int), .int .i64 (s.mi : Int), .int .i64 (s.pl : Int), .int .i64 (s.al : Int)].toArray, .int .i64 mode] w fun u w' => u = .float .f64 (noughtP s mode) ∧ Chg [] w w' := by
 have hs0 := hs;obtain ⟨hs1, hs2, hs3, hs4, hs5, hs6⟩ := hs;have hch := crf w;refine zE2 Tryz.func94 rfl ?_;refine Sr fun _ kh1 => ?_;refine zBh rfl rfl rfl hch fun b2 wm2 hb2 hcm2 hge2 hgehch2 hch => ?_;refine za rfl (zz (kh1 (Sr fun _ kh3 => zf rfl (zl hb2 rfl rfl (zf rfl (zl hb2 rfl rfl ?_))))))
 first | refine WL.ev (Ev.subIn rfl rfl (by omega)) rfl ?_ | refine WL.ev (Ev.sub rfl rfl) rfl ?_
 refine zf rfl (zl hb2 rfl rfl ?_)
 first | refine WL.ev (Ev.subIn rfl rfl (by omega)) rfl ?_ | refine WL.ev (Ev.sub rfl rfl) rfl ?_
 refine zf rfl (zl hb2 rfl rfl ?_)
 first | refine WL.ev (Ev.subIn rfl rfl (by omega)) rfl ?_ | refine WL.ev (Ev.sub rfl rfl) rfl ?_
 refine za rfl (zz (kh3 (zc fun _ kh5 => Sr fun _ kh6 => zg hb2 rfl ?_)));refine WL.call hasF182 rfl rfl (mayBe_spec s _ hs0) fun v w1 h' => ?_;obtain ⟨rfl, hC18⟩ := h';have hch := hch.ta hC18;have hb2 := hb2.k0 hC18;refine zm rfl ?_;refine zb ?_ ?_<;>intro hg1<;>try simp only [qs] at hg1
 ·have hMM : mayBeP s := hg1
  refine zw rfl (zm rfl (zw rfl (zG rfl rfl (zt rfl rfl (zm rfl ?_)))));refine zb ?_ ?_<;>intro hg2<;>try simp only [qs] at hg2
  ·refine zw rfl (zf rfl (zw rfl (zl hb2 rfl rfl (zw rfl (zm rfl (zw rfl (zq rfl rfl (zw rfl (zm rfl ?_)))))))));refine zb ?_ ?_<;>intro hg3<;>try simp only [qs] at hg3
   ·refine zv rfl (zv rfl (zv rfl (zv rfl (zv rfl (zu rfl (zu rfl (zv rfl (zw rfl (zt rfl rfl (zt rfl rfl (zz (kh6 ?_))))))))))));refine CW.condT rfl ?_
    refine Sr fun _ kh8 => ?_;refine WL.call hasF185 rfl rfl (Copysign_spec _) fun v w2 h' => ?_;obtain ⟨rfl, rfl⟩ := h';refine za rfl (zz (kh8 ?_));refine zr (zr1 rfl rfl ?_);refine ⟨?_, hch⟩;unfold noughtP
    first | (have qM : ¬ mayBeP s := hMM; rw [if_neg (fun q => qM q.1)]; done) | ((have qM : mayBeP s := hMM); (have qY : s.na + s.up + s.dn < s.al := by omega); (have qX : s.mi + s.na + s.up + s.dn = s.al ∨ s.pl + s.na + s.up + s.dn < s.al ∧ mode = 3 := by (first | exact .inl (by omega) | exact .inr ⟨by omega, by omega⟩)); rw [if_pos ⟨qM, qY, qX⟩]; done) | (rw [if_neg (fun q => by have q2 := q.2; omega)]; done)
   refine zw rfl (zf rfl (zw rfl (zl hb2 rfl rfl (zw rfl (zm rfl (zw rfl (zL rfl rfl (zw rfl (zm rfl ?_)))))))));refine zb ?_ ?_<;>intro hg4<;>try simp only [qs] at hg4
   ·refine zw rfl (zm rfl (zw rfl (zq rfl rfl (zw rfl (zt rfl rfl (zw rfl (ze rfl rfl (zt rfl rfl (zz (kh6 ?_))))))))));refine zy rfl ?_ ?_<;>intro hc5<;>try simp only [qs] at hc5
    ·refine Sr fun _ kh10 => ?_
     refine WL.call hasF185 rfl rfl (Copysign_spec _) fun v w3 h' => ?_;obtain ⟨rfl, rfl⟩ := h';refine za rfl (zz (kh10 ?_));refine zr (zr1 rfl rfl ?_);refine ⟨?_, hch⟩;unfold noughtP
     first | (have qM : ¬ mayBeP s := hMM; rw [if_neg (fun q => qM q.1)]; done) | ((have qM : mayBeP s := hMM); (have qY : s.na + s.up + s.dn < s.al := by omega); (have qX : s.mi + s.na + s.up + s.dn = s.al ∨ s.pl + s.na + s.up + s.dn < s.al ∧ mode = 3 := by (first | exact .inl (by omega) | exact .inr ⟨by omega, by omega⟩)); rw [if_pos ⟨qM, qY, qX⟩]; done) | (rw [if_neg (fun q => by have q2 := q.2; omega)]; done)
    refine zkk (kh5 (Sr fun _ kh12 => za rfl (zz (kh12 ?_))));refine zr (zr1 rfl rfl ?_);refine ⟨?_, hch⟩;unfold noughtP
    first | (have qM : ¬ mayBeP s := hMM; rw [if_neg (fun q => qM q.1)]; done) | ((have qM : mayBeP s := hMM); (have qY : s.na + s.up + s.dn < s.al := by omega); (have qX : s.mi + s.na + s.up + s.dn = s.al ∨ s.pl + s.na + s.up + s.dn < s.al ∧ mode = 3 := by (first | exact .inl (by omega) | exact .inr ⟨by omega, by omega⟩)); rw [if_pos ⟨qM, qY, qX⟩]; done) | (rw [if_neg (fun q => by have q2 := q.2; omega)]; done)
   refine zv rfl (zv rfl (zw rfl (ze rfl rfl (zw rfl (ze rfl rfl (zt rfl rfl (zz (kh6 ?_))))))));refine CW.condF rfl ?_;refine zkk (kh5 (Sr fun _ kh14 => za rfl (zz (kh14 ?_))));refine zr (zr1 rfl rfl ?_);refine ⟨?_, hch⟩;unfold noughtP
   first | (have qM : ¬ mayBeP s := hMM; rw [if_neg (fun q => qM q.1)]; done) | ((have qM : mayBeP s := hMM); (have qY : s.na + s.up + s.dn < s.al := by omega); (have qX : s.mi + s.na + s.up + s.dn = s.al ∨ s.pl + s.na + s.up + s.dn < s.al ∧ mode = 3 := by (first | exact .inl (by omega) | exact .inr ⟨by omega, by omega⟩)); rw [if_pos ⟨qM, qY, qX⟩]; done) | (rw [if_neg (fun q => by have q2 := q.2; omega)]; done)
  refine zv rfl (zv rfl (zv rfl (zv rfl (zv rfl (zu rfl (zu rfl (zu rfl (zu rfl (zu rfl (zu rfl (zu rfl (zu rfl (zv rfl (ze rfl rfl (zz (kh6 ?_))))))))))))))));refine CW.condF rfl ?_;refine zkk (kh5 (Sr fun _ kh16 => za rfl (zz (kh16 ?_))));refine zr (zr1 rfl rfl ?_);refine ⟨?_, hch⟩;unfold noughtP
  first | (have qM : ¬ mayBeP s := hMM; rw [if_neg (fun q => qM q.1)]; done) | ((have qM : mayBeP s := hMM); (have qY : s.na + s.up + s.dn < s.al := by omega); (have qX : s.mi + s.na + s.up + s.dn = s.al ∨ s.pl + s.na + s.up + s.dn < s.al ∧ mode = 3 := by (first | exact .inl (by omega) | exact .inr ⟨by omega, by omega⟩)); rw [if_pos ⟨qM, qY, qX⟩]; done) | (rw [if_neg (fun q => by have q2 := q.2; omega)]; done)
 have hMM : ¬ mayBeP s := hg1;refine zv rfl (zv rfl (ze rfl rfl (zm rfl (zv rfl (zv rfl (zv rfl (zv rfl (zv rfl (zu rfl (zu rfl (zu rfl (zu rfl (zu rfl (zu rfl (zu rfl (zu rfl (zv rfl (ze rfl rfl (zz (kh6 ?_))))))))))))))))))));refine CW.condF rfl ?_;refine zkk (kh5 (Sr fun _ kh18 => za rfl (zz (kh18 ?_))));refine zr (zr1 rfl rfl ?_);refine ⟨?_, hch⟩;unfold noughtP
 first | (have qM : ¬ mayBeP s := hMM; rw [if_neg (fun q => qM q.1)]; done) | ((have qM : mayBeP s := hMM); (have qY : s.na + s.up + s.dn < s.al := by omega); (have qX : s.mi + s.na + s.up + s.dn = s.al ∨ s.pl + s.na + s.up + s.dn < s.al ∧ mode = 3 := by (first | exact .inl (by omega) | exact .inr ⟨by omega, by omega⟩)); rw [if_pos ⟨qM, qY, qX⟩]; done) | (rw [if_neg (fun q => by have q2 := q.2; omega)]; done)

end

/- Package policy: Sift. No condition. -/
section
open Go Sx Wd

structure NF (w : World) (v : Value) (l : List Nat) : Prop where
  ex : ∃ a c, v = .slice a l.length c ∧ l.length ≤ c ∧ RW w a (l.map f64v)
  hw : ∀ x ∈ l, x < 18446744073709551616
  len : l.length ≤ 70368744177664
theorem NF.keep0 {w w' : World} {v : Value} {l : List Nat} (h : NF w v l) (hc : Chg [] w w') : NF w' v l := by
  obtain ⟨⟨a, c, h1, h2, h3⟩, h4, h5⟩ := h
  exact ⟨⟨a, c, h1, h2, h3.keep0 hc⟩, h4, h5⟩
theorem NF.part {w : World} {a : Option Addr} {l : List Nat} {k c : Nat} (h : RW w a (l.map f64v)) (hw : ∀ x ∈ l.take k, x < 18446744073709551616) (hl : l.length ≤ 70368744177664) (hk : k ≤ l.length) (hc : k ≤ c) : NF w (.slice a k c) (l.take k) := by
  have e : (l.take k).length = k := by rw [List.length_take]; omega
  refine ⟨⟨a, c, by rw [e], by omega, ?_⟩, hw, by omega⟩
  rw [List.map_take]
  exact h.take k
theorem D_getD {l : List Nat} (h : ∀ x ∈ l, x < 18446744073709551616) (i : Nat) : l.getD i 0 < 18446744073709551616 := by
  rw [List.getD_eq_getElem?_getD]
  cases q : l[i]? with
  | none => simp
  | some x => exact h x (List.mem_of_getElem? q)
def finP (x : Nat) : Bool := decide (kindP x ≤ 2)
def filP (l : List Nat) : List Nat := l.filter finP
def cntP (l : List Nat) : SP := l.foldl (fun s x => countP s (kindP x)) SP.zero
def siftE (l : List Nat) (pn pi : Int) : Int :=
  if ¬ mayQ pn pi then 1 else if 65536 < l.length then 2 else if 0 < (cntP l).na ∧ pn = 2 then 60 else if 0 < (cntP l).up + (cntP l).dn ∧ pi = 2 then 61 else 0
theorem take_step {l : List Nat} {i : Nat} (h : i < l.length) : l.take (i + 1) = l.take i ++ [l.getD i 0] := by
  rw [List.take_add_one, List.getD_eq_getElem?_getD, List.getElem?_eq_getElem h]; rfl
theorem cntP_step {l : List Nat} {i : Nat} (h : i < l.length) : cntP (l.take (i + 1)) = countP (cntP (l.take i)) (kindP (l.getD i 0)) := by
  unfold cntP; rw [take_step h, List.foldl_append]; rfl
theorem cntP_le : ∀ (l : List Nat) (s : SP) (n : Nat), s.le n → (l.foldl (fun s x => countP s (kindP x)) s).le (n + l.length)
  | [], s, n, h => h
  | x :: l, s, n, h => by
    have := cntP_le l (countP s (kindP x)) (n + 1) (countP.le h)
    simpa [Nat.add_assoc, Nat.add_comm 1] using this
theorem cnt_le (l : List Nat) : (cntP l).le l.length := by
  have := cntP_le l SP.zero 0 (by refine ⟨?_, ?_, ?_, ?_, ?_, ?_⟩ <;> exact Nat.zero_le _)
  rw [Nat.zero_add] at this; exact this
theorem SP.le.mono {s : SP} {n m : Nat} (h : s.le n) (hm : n ≤ m) : s.le m := by
  obtain ⟨a, b, c, d, e, f⟩ := h
  exact ⟨by omega, by omega, by omega, by omega, by omega, by omega⟩
theorem filP_step {l : List Nat} {i : Nat} (h : i < l.length) : filP (l.take (i + 1)) = if kindP (l.getD i 0) ≤ 2 then filP (l.take i) ++ [l.getD i 0] else filP (l.take i) := by
  unfold filP
  rw [take_step h, List.filter_append, List.filter_cons]
  simp only [finP, decide_eq_true_eq, List.filter_nil]
  split <;> simp
theorem filP_len (l : List Nat) (i : Nat) : (filP (l.take i)).length ≤ i := by
  unfold filP
  have := List.length_filter_le finP (l.take i)
  rw [List.length_take] at this
  omega
theorem set_take {L : List Nat} {m v : Nat} (h : m < L.length) : (L.set m v).take (m + 1) = L.take m ++ [v] := by
  rw [List.take_add_one, List.take_set_of_le (Nat.le_refl _), List.getElem?_set_self h]; rfl

structure KSift (l : List Nat) (pn pi : Int) (w0 : World) (b3 b5 b7 b23 : Nat) (g : Nat × List Nat) (w : World) : Prop where
  le : g.1 ≤ l.length
  len : g.2.length = l.length
  tk : g.2.take (filP (l.take g.1)).length = filP (l.take g.1)
  h3 : BK w b3 34 [.int .i64 pn, .int .i64 pi]
  h5 : BK w b5 103 [.int .i64 0, .int .i64 0, .int .i64 0, .int .i64 0, .int .i64 0, .int .i64 0]
  h7 : BK w b7 103 (cntP (l.take g.1)).cells
  hF : FB w b23 31 g.2
  ch : Chg [] w0 w

theorem Sift_spec (v : Value) (l : List Nat) (pn pi : Int) (w : World) (hv : NF w v l) : Ret Tryz.prog 105 [v, .agg [.int .i64 pn, .int .i64 pi].toArray] w fun u w' => (siftE l pn pi ≠ 0 ∧ u = .tuple [.slice none 0 0, .agg SP.zero.cells.toArray, .int .i64 (siftE l pn pi)].toArray ∧ Chg [] w w') ∨ (siftE l pn pi = 0 ∧ ∃ v2, NF w' v2 (filP l) ∧ u = .tuple [v2, .agg (cntP l).cells.toArray, .int .i64 0].toArray ∧ Chg [] w w') := by
 obtain ⟨⟨al, cl, rfl, hcapl, hrl⟩, hWl, hll⟩ := hv;have hch := crf w;refine zE2 Tryz.func105 rfl ?_;refine Sr fun _ kh1 => ?_;refine zBh rfl rfl rfl hch fun b3 wm3 hb3 hcm3 hge3 hgehch3 hch => ?_;refine za rfl ?_;refine WL.allocB (l := [.int .i64 0, .int .i64 0, .int .i64 0, .int .i64 0, .int .i64 0, .int .i64 0]) rfl rfl fun b5 wm5 hb5 hcm5 hge5 => ?_;have hgehch5 := Nat.le_trans hch.size hge5;have hch := hch.ta hcm5;have hneb35 := zdd hb3.lt hge5;have hb3 := hb3.k0 hcm5;refine za rfl (zz (kh1 (Sr fun _ kh3 => ?_)));refine WL.allocB (l := [.int .i64 0, .int .i64 0, .int .i64 0, .int .i64 0, .int .i64 0, .int .i64 0]) rfl rfl fun b7 wm7 hb7 hcm7 hge7 => ?_;have hgehch7 := Nat.le_trans hch.size hge7;have hch := hch.ta hcm7;have hneb37 := zdd hb3.lt hge7;have hb3 := hb3.k0 hcm7;have hneb57 := zdd hb5.lt hge7;have hb5 := hb5.k0 hcm7;refine zz (kh3 (zc fun _ kh5 => CW.block (Sr fun _ kh6 => zg hb3 rfl ?_)));refine WL.call hasF99 rfl rfl (May_spec pn pi _) fun v w1 h' => ?_;obtain ⟨rfl, hC13⟩ := h';have hch := hch.ta hC13;have hb3 := hb3.k0 hC13;have hb5 := hb5.k0 hC13;have hb7 := hb7.k0 hC13;refine zT rfl (za rfl (zz (kh6 ?_)));refine zy rfl ?_ ?_<;>intro hc1<;>try simp only [qs] at hc1
 ·have hM : ¬ mayQ pn pi := hc1
  refine zc fun _ kh8 => ?_;refine CW.regionKC 2 4 rfl hmix fun kR9 kr9 hS hdr => ?_;have hch := hch.ta hdr;have hb5 := hb5.k0 hdr;have hb7 := hb7.k0 hdr;have hb7_r := hb7;refine wk 0 rfl hS (fun _ hw' => Ev.loadA rfl rfl (hb7_r.keep0 hw') rfl) (wk 1 rfl hS (eA rfl) ?_);refine WK.storeB 2 rfl (by kernel_rfl) (by kernel_rfl) rfl rfl rfl ao hb5 (by simp) rfl fun ws16 hb5_ hcs16 => ?_;(try simp only [Sx.splice, qt] at hb5_);have hch := hch.s1 hcs16;have hb5 := hb5_;refine WK.after 3 rfl (by kernel_rfl) (by kernel_rfl) (Ev.assign rfl) rfl ?_;refine WK.done (by kernel_rfl) (kr9 _ _ _ ?_);refine kh8 ?_;refine zr (bodyA.retR3 rfl (RVal.tmp rfl) (RVal.cell rfl (hb5.varA rfl rfl)) (RVal.tmp rfl) ?_);exact .inl ⟨by unfold siftE; rw [if_pos hM]; decide, by unfold siftE; rw [if_pos hM]; rfl, hch⟩
 have hM : ¬ ¬ mayQ pn pi := fun q => q hc1;refine Sr fun _ kh10 => zm rfl (zn rfl (zG rfl rfl (za rfl (zz (kh10 ?_)))));refine zy rfl ?_ ?_<;>intro hc2<;>try simp only [qs] at hc2
 ·have hL : 65536 < l.length := by omega
  refine zc fun _ kh12 => ?_;refine CW.regionKC 2 4 rfl hmix fun kR13 kr13 hS hdr => ?_;have hch := hch.ta hdr;have hb5 := hb5.k0 hdr;have hb7 := hb7.k0 hdr;have hb7_r := hb7;refine wk 0 rfl hS (fun _ hw' => Ev.loadA rfl rfl (hb7_r.keep0 hw') rfl) (wk 1 rfl hS (eA rfl) ?_);refine WK.storeB 2 rfl (by kernel_rfl) (by kernel_rfl) rfl rfl rfl ao hb5 (by simp) rfl fun ws17 hb5_ hcs17 => ?_;(try simp only [Sx.splice, qt] at hb5_);have hch := hch.s1 hcs17;have hb5 := hb5_;refine WK.after 3 rfl (by kernel_rfl) (by kernel_rfl) (Ev.assign rfl) rfl ?_;refine WK.done (by kernel_rfl) (kr13 _ _ _ ?_);refine kh12 ?_;refine zr (bodyA.retR3 rfl (RVal.tmp rfl) (RVal.cell rfl (hb5.varA rfl rfl)) (RVal.tmp rfl) ?_);exact .inl ⟨by unfold siftE; rw [if_neg hM, if_pos hL]; decide, by unfold siftE; rw [if_neg hM, if_pos hL]; rfl, hch⟩
 have hL : ¬ 65536 < l.length := by omega
 refine zkk (kh5 (Sr fun _ kh14 => zm rfl (zn rfl ?_)));refine WL.makeF (0) ((l).length) rfl rfl (by omega) (by omega) (by omega) (by omega) (by omega) rfl fun b23 wm23 hb23 hcm23 hge23 => ?_;have hgehch23 := Nat.le_trans hch.size hge23;have hch := hch.ta hcm23;have hneb323 := zdd hb3.lt hge23;have hb3 := hb3.k0 hcm23;have hneb523 := zdd hb5.lt hge23;have hb5 := hb5.k0 hcm23;have hneb723 := zdd hb7.lt hge23;have hb7 := hb7.k0 hcm23;refine za rfl (zz (kh14 (zc fun _ kh16 => Sr fun _ kh17 => zm rfl (zn rfl (zm rfl (zz (kh17 (CW.block ?_))))))));refine CW.loop (S := fun g : Nat × List Nat => [(0, .slice al l.length cl), (3, .pointer (some ⟨b3, 0, none⟩)), (4, .slice none 0 0), (5, .pointer (some ⟨b5, 0, none⟩)), (6, .int .i64 0), (7, .pointer (some ⟨b7, 0, none⟩)), (8, .slice (some ⟨b23, 0, none⟩) (filP (l.take g.1)).length l.length), (25, .int .i64 (l.length : Int)), (26, .int .i64 (g.1 : Int))]) (Inv := KSift l pn pi w b3 b5 b7 b23) (mu := fun g => l.length - g.1) ((0, List.replicate l.length 0)) ?_ ?_ ?_
 ·exact ⟨Nat.zero_le _, by simp, by simp [filP], hb3, hb5, hb7, hb23, hch⟩
 ·exact SLp
 rintro ⟨i, L⟩ wr ⟨hi1, hLl, htk, hb3, hb5, hb7, hb23, hch⟩;dsimp only at hi1 hLl htk hb3 hb5 hb7 hb23 hch;dsimp only;have hfl := filP_len l i;have hx64 := D_getD hWl i;have hcle := (cnt_le (l.take i)).mono (m := 65536) (by rw [List.length_take]; omega);refine Sr fun _ kh19 => zL rfl rfl (zz (kh19 (zc fun _ kh21 => ?_)));refine zy rfl ?_ ?_<;>intro hc3<;>try simp only [qs] at hc3
 ·refine zkk (kh21 (zc fun _ kh22 => CW.block (Sr fun _ kh23 => zm rfl (za rfl (zz (kh23 (Sr fun _ kh25 => zm rfl (zm rfl ?_))))))));refine WL.ev (Ev.ixR (i) rfl rfl (hrl.keep0 hch) (by omega) (by omega) (by simp; omega)) rfl ?_
  refine WL.ev (Ev.load rfl rfl ((hrl.keep0 hch).f64 (by first | omega | (simp; omega)))) rfl ?_;refine WL.call hasF195 rfl rfl (kind_spec (l.getD i 0) _ hx64) fun v w2 h' => ?_;obtain ⟨rfl, hC33⟩ := h';have hch := hch.ta hC33;have hb3 := hb3.k0 hC33;have hb5 := hb5.k0 hC33;have hb7 := hb7.k0 hC33;have hb23 := hb23.k0 hC33;refine za rfl (zz (kh25 (Sr fun _ kh27 => zm rfl ?_)));refine WL.call hasF196 rfl rfl (count_spec b7 (kindP (l.getD i 0)) (cntP (l.take i)) _ hb7 (hcle.mono (by decide))) fun v w3 h' => ?_;obtain ⟨hb7_, hC35⟩ := h';have hch := hch.step hC35 (fun y hy => by simp only [List.mem_singleton] at hy; subst hy; exact .inr (by omega));have hb3 := hb3.keep hC35 (by simp; try omega);have hb5 := hb5.keep hC35 (by simp; try omega);have hb23 := hb23.keep hC35 (by simp; try omega);have hb7 := hb7_;rw [← cntP_step (by omega)] at hb7;refine zz (kh27 (Sr fun _ kh29 => zm rfl (zQ rfl rfl (zz (kh29 ?_)))));refine zy rfl ?_ ?_<;>intro hc4<;>try simp only [qs] at hc4
  ·have hk2 : kindP (l.getD i 0) ≤ 2 := by omega
   refine zR fun _ kr31 => ?_;refine zm rfl (zm rfl (zm rfl ?_));refine WL.ev (Ev.ixR (i) rfl rfl (hrl.keep0 hch) (by omega) (by omega) (by simp; omega)) rfl ?_;refine WL.ev (Ev.load rfl rfl ((hrl.keep0 hch).f64 (by first | omega | (simp; omega)))) rfl ?_;refine WL.buildSlice (m := 1) (cs := [f64v (l.getD i 0)]) (by decide) (by decide) rfl (by kernel_rfl) rfl fun b43 w43 hn43 => ?_;have hcm43 := hn43.chg;have hb43 : BK w43 b43 31 [f64v (l.getD i 0)] := hn43.at_;have hch := hch.ta hcm43;have hb3 := hb3.keep hcm43 (by simp; try omega);have hb5 := hb5.keep hcm43 (by simp; try omega);have hb7 := hb7.keep hcm43 (by simp; try omega);have hb23 := hb23.keep hcm43 (by simp; try omega);refine WL.appendF (v := l.getD i 0) rfl rfl hb23 (hb43.at_ rfl) (by omega) (by omega) rfl fun w44 hb23_ hcs44 => ?_;have hch := hch.step hcs44 (fun y hy => by simp only [List.mem_singleton] at hy; subst hy; exact .inr (by omega));have hb3 := hb3.keep hcs44 (by simp; try omega);have hb5 := hb5.keep hcs44 (by simp; try omega);have hb7 := hb7.keep hcs44 (by simp; try omega);have hb23 := hb23_;rw [show (filP (l.take i)).length + 1 = (filP (l.take (i + 1))).length by rw [filP_step (by omega), if_pos hk2]; simp];refine za rfl ?_;refine WL.nil (kr31 _ _ _ (kh22 ?_));refine zS fun _ kr32 => ?_;(first | refine zi rfl rfl ?_ | refine zo rfl rfl ?_);refine zm rfl (zz (kr32 ?_));refine ⟨rfl, (i + 1, L.set (filP (l.take i)).length (l.getD i 0)), ?_, ?_, ?_⟩
   ·exact SLp
   ·exact ⟨by dsimp only; omega, by simpa using hLl, by dsimp only; rw [filP_step (by omega), if_pos hk2, List.length_append]; show List.take _ _ = _; rw [show [l.getD i 0].length = 1 from rfl, set_take (by omega), htk], hb3, hb5, hb7, hb23, hch⟩
   show l.length - (i + 1) < l.length - i; omega
  have hk2 : ¬ kindP (l.getD i 0) ≤ 2 := by omega
  have hfs : filP (l.take (i + 1)) = filP (l.take i) := by rw [filP_step (by omega), if_neg hk2]
  refine zkk (kh22 (zS fun _ kr33 => ?_));(first | refine zi rfl rfl ?_ | refine zo rfl rfl ?_);refine zm rfl (zz (kr33 ?_));refine ⟨rfl, (i + 1, L), ?_, ?_, ?_⟩
  ·rw [← hfs]; repeat (first | exact Subs.nil | refine Subs.cons rfl ?_ | refine Subs.consI rfl (by omega) ?_)
  ·exact ⟨by dsimp only; omega, hLl, by dsimp only; rw [hfs]; exact htk, hb3, hb5, hb7, hb23, hch⟩
  show l.length - (i + 1) < l.length - i; omega
 have hiX : i = l.length := by omega
 subst hiX;rw [List.take_length] at hb7 hcle htk hfl;rw [List.take_length];unfold SP.cells at hb7;obtain ⟨hcl1, hcl2, hcl3, hcl4, hcl5, hcl6⟩ := hcle;refine CW.exit ?_;refine kh16 (zc fun _ kh34 => CW.block ?_);refine CW.seqM 46 (decide (0 < (cntP l).na ∧ pn = 2)) ?_ ?_
 ·refine zS fun _ kr35 => zf rfl (zl hb7 rfl rfl (zG rfl rfl (zm rfl ?_)));refine zb ?_ ?_<;>intro hg5<;>try simp only [qs] at hg5
  ·refine zw rfl (zf rfl (zw rfl (zl hb3 rfl rfl (zw rfl (zq rfl rfl (zt rfl rfl (za rfl (zz (kr35 ?_)))))))));refine ⟨rfl, rfl, Subs.consB rfl ?_ ?_⟩
   ·first | (simp; omega) | (refine decide_eq_decide.2 ?_; omega)
   exact SMg
  refine zv rfl (zv rfl (zv rfl (ze rfl rfl (za rfl (zz (kr35 ?_))))));refine ⟨rfl, rfl, Subs.consB rfl ?_ ?_⟩
  ·first | (simp; omega) | (refine decide_eq_decide.2 ?_; omega)
  exact SMg
 refine zy rfl ?_ ?_<;>intro hc6<;>try simp only [qs] at hc6
 ·have hA : 0 < (cntP l).na ∧ pn = 2 := hc6
  refine Sr fun _ kh36 => ?_;refine WL.ev (Ev.build (vs := _) (cs := [_, _, _, _, _, _]) rfl rfl) rfl ?_;refine za rfl ?_;refine zss rfl rfl ao hb5 rfl fun ws18 hb5_ hcs18 => ?_;(try simp only [Sx.splice, qt] at hb5_);have hch := hch.s1 hcs18;have hb5 := hb5_;refine za rfl (zz (kh36 ?_));refine zr (bodyA.retR3 rfl (RVal.tmp rfl) (RVal.cell rfl (hb5.varA rfl rfl)) (RVal.tmp rfl) ?_);exact .inl ⟨by unfold siftE; rw [if_neg hM, if_neg hL, if_pos hA]; decide, by unfold siftE; rw [if_neg hM, if_neg hL, if_pos hA]; rfl, hch⟩
 have hA : ¬ (0 < (cntP l).na ∧ pn = 2) := hc6;refine CW.seqM 56 (decide (0 < (cntP l).up + (cntP l).dn ∧ pi = 2)) ?_ ?_
 ·refine zS fun _ kr38 => zf rfl (zl hb7 rfl rfl (zf rfl (zl hb7 rfl rfl ?_)));(first | refine zi rfl rfl ?_ | refine zo rfl rfl ?_);refine zG rfl rfl (zm rfl ?_);refine zb ?_ ?_<;>intro hg7<;>try simp only [qs] at hg7
  ·refine zw rfl (zf rfl (zw rfl (zl hb3 rfl rfl (zw rfl (zq rfl rfl (zt rfl rfl (za rfl (zz (kr38 ?_)))))))));refine ⟨rfl, rfl, Subs.consB rfl ?_ ?_⟩
   ·first | (simp; omega) | (refine decide_eq_decide.2 ?_; omega)
   exact SMg
  refine zv rfl (zv rfl (zv rfl (ze rfl rfl (za rfl (zz (kr38 ?_))))));refine ⟨rfl, rfl, Subs.consB rfl ?_ ?_⟩
  ·first | (simp; omega) | (refine decide_eq_decide.2 ?_; omega)
  exact SMg
 refine zy rfl ?_ ?_<;>intro hc8<;>try simp only [qs] at hc8
 ·have hB : 0 < (cntP l).up + (cntP l).dn ∧ pi = 2 := hc8
  refine Sr fun _ kh39 => ?_;refine WL.ev (Ev.build (vs := _) (cs := [_, _, _, _, _, _]) rfl rfl) rfl ?_;refine za rfl ?_;refine zss rfl rfl ao hb5 rfl fun ws19 hb5_ hcs19 => ?_;(try simp only [Sx.splice, qt] at hb5_);have hch := hch.s1 hcs19;have hb5 := hb5_;refine za rfl (zz (kh39 ?_));refine zr (bodyA.retR3 rfl (RVal.tmp rfl) (RVal.cell rfl (hb5.varA rfl rfl)) (RVal.tmp rfl) ?_);exact .inl ⟨by unfold siftE; rw [if_neg hM, if_neg hL, if_neg hA, if_pos hB]; decide, by unfold siftE; rw [if_neg hM, if_neg hL, if_neg hA, if_pos hB]; rfl, hch⟩
 have hB : ¬ (0 < (cntP l).up + (cntP l).dn ∧ pi = 2) := hc8;refine zkk (kh34 (zc fun _ kh41 => ?_));refine CW.regionKC 3 5 rfl hmix fun kR42 kr42 hS hdr => ?_;have hch := hch.ta hdr;have hb5 := hb5.k0 hdr;have hb7 := hb7.k0 hdr;have hb23 := hb23.k0 hdr;have hb7_r := hb7;refine wk 0 rfl hS (eM rfl) (wk 1 rfl hS (fun _ hw' => Ev.loadA rfl rfl (hb7_r.keep0 hw') rfl) (wk 2 rfl hS (eA rfl) ?_));refine WK.storeB 3 rfl (by kernel_rfl) (by kernel_rfl) rfl rfl rfl ao hb5 (by simp) rfl fun ws20 hb5_ hcs20 => ?_;(try simp only [Sx.splice, qt] at hb5_);have hch := hch.s1 hcs20;have hb23 := hb23.kq hcs20;have hb5 := hb5_;refine WK.after 4 rfl (by kernel_rfl) (by kernel_rfl) (Ev.assign rfl) rfl ?_;refine WK.done (by kernel_rfl) (kr42 _ _ _ ?_);refine kh41 ?_;refine zr (bodyA.retR3 rfl (RVal.tmp rfl) (RVal.cell rfl (hb5.varA rfl rfl)) (RVal.tmp rfl) ?_);refine .inr ⟨by unfold siftE; rw [if_neg hM, if_neg hL, if_neg hA, if_neg hB], _, ?_, rfl, hch⟩;have := NF.part hb23.row (by rw [htk]; exact fun x hx => hWl x (List.mem_filter.1 hx).1) (by omega) (k := (filP l).length) (by omega) (c := l.length) (by omega);rw [htk] at this;exact this

end

/- Deferred calls of named functions; calls through function values. No condition. -/
namespace Sx
open Go

def RetD (P : Program) (f : FuncId) (args : List Value) (w : World) (R : Value → World → Prop) : Prop :=
  ∀ u, CallsD P f args.toArray u w fun e u' w' => u' = u ∧ ∃ v, e = .returned v ∧ R v w'
theorem RetD.mono {P : Program} {f : FuncId} {args : List Value} {w : World} {R R' : Value → World → Prop} (h : RetD P f args w R) (hr : ∀ v w', R v w' → R' v w') : RetD P f args w R' := fun u =>
  CallsD.mono (h u) fun _ _ _ ⟨hu, v, he, hR⟩ => ⟨hu, v, he, hr _ _ hR⟩
def bodyD (P : Program) (fn : Func) (n : Nat) (g : FuncId) (R : Value → World → Prop) : AQ
  | .normal, D, s, w | .ret, D, s, w => ∃ vs : List Value, D = [⟨.fn (.func g) #[], vs.toArray⟩] ∧ RetD P g vs w fun _ w' => ∃ v, ResS P fn n D s w' v ∧ R v w'
  | _, _, _, _ => False
section
variable {P : Program} {n : Nat} {D : List Deferred} {s : Sl} {w : World}
theorem frame0 {fn : Func} {args : List Value} (hn : Nat.ble args.length fn.ntmps = true) : Fr fn.ntmps [] (args0 0 args) { tmps := args.toArray ++ Array.replicate (fn.ntmps - args.toArray.size) undef, defers := [] } := by
  have hn' : args.length ≤ fn.ntmps := by simpa [Nat.ble_eq] using hn
  refine ⟨by simp; omega, rfl, fun t v ht => ?_⟩
  rw [look_args0] at ht
  simp only [Nat.zero_le, if_true, Nat.sub_zero] at ht
  have hlt : t < args.length := by
    by_cases hl : t < args.length
    · exact hl
    · rw [List.getElem?_eq_none (by omega)] at ht; cases ht
  rw [Array.getElem?_append_left (by simpa using hlt)]
  simpa using ht
theorem Ret.enterD {f : FuncId} {fn : Func} {c : Code} {args : List Value} {R : Value → World → Prop} (g : FuncId) (hg : HasF P g) (hf : P.funcs[f]? = some fn) (hb : fn.body = some c) (hn : Nat.ble args.length fn.ntmps = true)
    (h : CW P c (bodyD P fn fn.ntmps g R) fn.ntmps [] (args0 0 args) w) : Ret P f args w R := by
  refine calls_of_wp_defers hf hb (wp_mono (h _ (frame0 hn)) fun e a w hq => ?_)
  obtain ⟨D, s, hfr, hk⟩ := hq
  have go : (∃ vs : List Value, D = [⟨.fn (.func g) #[], vs.toArray⟩] ∧ RetD P g vs w fun _ w' => ∃ v, ResS P fn fn.ntmps D s w' v ∧ R v w') → Leaves P fn a.tmps (fun e w' => ∃ v, e = .returned v ∧ R v w') a.defers .returning w := by
    rintro ⟨vs, hd, hr⟩
    rw [hfr.defers, hd]
    refine leaves_cons (args := vs.toArray) (by simp) (by simp only [invoke, Array.append_empty]; exact hg.run _) (CallsD.mono (hr _) fun e u' w' hh => ?_)
    obtain ⟨hu, v, rfl, x, hx, hR⟩ := hh
    subst hu
    exact ⟨x, hx a hfr, x, rfl, hR⟩
  cases e with
  | normal => exact go hk
  | ret => exact go hk
  | _ => exact hk.elim
theorem RetD.enter {f : FuncId} {fn : Func} {c : Code} {args : List Value} {R : Value → World → Prop} (hf : P.funcs[f]? = some fn) (hb : fn.body = some c) (hn : Nat.ble args.length fn.ntmps = true)
    (h : CW P c (bodyA P fn fn.ntmps R) fn.ntmps [] (args0 0 args) w) : RetD P f args w R := fun u => by
  refine callsD_of_wp hf hb (wp_mono (h _ (frame0 hn)) fun e a w hq => ?_)
  obtain ⟨D, s, hfr, hk⟩ := hq
  unfold bodyA at hk
  cases e with
  | normal => obtain ⟨hd, v, hres, hR⟩ := hk; exact ⟨by rw [hfr.defers, hd], v, hres a hfr, v, rfl, hR⟩
  | ret => obtain ⟨hd, v, hres, hR⟩ := hk; exact ⟨by rw [hfr.defers, hd], v, hres a hfr, v, rfl, hR⟩
  | _ => exact hk.elim
theorem bodyD.retR2 {fn : Func} {g : FuncId} {vs : List Value} {R : Value → World → Prop} {r q : ResultVar} (hr : fn.results = #[r, q]) (hd : D = [⟨.fn (.func g) #[], vs.toArray⟩])
    (h : RetD P g vs w fun _ w' => ∃ v u, RVal P n D s w' r v ∧ RVal P n D s w' q u ∧ R (.tuple [v, u].toArray) w') : bodyD P fn n g R .ret D s w :=
  ⟨vs, hd, h.mono fun _ w' ⟨v, u, h1, h2, hR⟩ => ⟨_, fun a ha => by rw [results_rdR, hr]; simp [h1 a ha, h2 a ha], hR⟩⟩
attribute [irreducible] bodyD
variable {ops : Array Oper} {K : KK} {rest : List Oper} {ty : TypeId} {pos : String} {af : Array Edge}
theorem WL.defer {f : FuncId} {xs : List Operand} {at_ : Array TypeId} {vs : List Value} (hx : opnds s xs = some vs) (k : WL P ops K rest n (⟨.fn (.func f) #[], vs.toArray⟩ :: D) s w) :
    WL P ops K (⟨none, .defer ⟨.value (.func f), xs.toArray, at_⟩, ty, pos, af, none⟩ :: rest) n D s w := fun a ha =>
  wpList_plain rfl fun K' hK => by
    have e1 : a.eval (.func f) = .func (.func f) #[] #[] := rfl
    have e2 := opnds_map (ρ := a.eval) (fun x u hx => ha.eval hx) xs vs hx
    unfold Oper.wp execOp
    simp only [resolve, e1, Deferred.ofValue]
    simp [e2]
    exact hK _ _ (k _ ⟨ha.size, by simp [Act.put, ha.defers], ha.cell⟩)
/-! ### Calls through function values -/
theorem exec_callV {f : FuncId} {y : Operand} {xs : List Operand} {at_ : Array TypeId} {vs cap : List Value} {ρ : Operand → Value} {o : Oper} (hF : HasF P f) (ho : o.op = .call ⟨.value y, xs.toArray, at_⟩) (hy : opnd s y = some (.func (.func f) #[] cap.toArray)) (hx : opnds s xs = some vs)
    (h : ∀ x u, opnd s x = some u → ρ x = u) : (execOp ρ o).run P w = .ok (.enter f (vs ++ cap).toArray) w := by
  have e1 : ρ y = .func (.func f) #[] cap.toArray := h _ _ hy
  have e2 := opnds_map h xs vs hx
  unfold execOp
  simp [ho, resolve, e1, Deferred.ofValue, invoke, e2, HasF.run hF]
variable {d : Nat}
theorem WL.callV {f : FuncId} {y : Operand} {xs : List Operand} {at_ : Array TypeId} {vs cap : List Value} {R : Value → World → Prop} (hF : HasF P f) (hy : opnd s y = some (.func (.func f) #[] cap.toArray)) (hx : opnds s xs = some vs) (hd : Nat.blt d n = true) (h : Ret P f (vs ++ cap) w R)
  (k : ∀ v w', R v w' → WL P ops K rest n D ((d, v) :: s) w') : WL P ops K (⟨some d, .call ⟨.value y, xs.toArray, at_⟩, ty, pos, af, none⟩ :: rest) n D s w := fun a ha =>
 wpList_plain rfl fun K' hK => by
  unfold Oper.wp;rw [exec_callV hF rfl hy hx fun x u hx => ha.eval hx];exact Calls.mono h fun e w' ⟨v, he, hR⟩ => by subst he; exact hK _ _ (k v w' hR _ (ha.put hd v))
end
end Sx

/- Slices that grow: a function's own row, by its list. No condition. -/
section
open Go Sx Wd

def GR (w : World) (e : TypeId) (f : Nat → Value) (lo : Nat) (X : List Nat) (v : Value) (l : List Nat) : Prop :=
  w.ownsRow 0 e 1 v l.length (l.map f) ∧ ∀ b, v.ownBlock = some b → lo ≤ b ∧ b ∉ X
section
variable {w w' : World} {e : TypeId} {f : Nat → Value} {lo : Nat} {X : List Nat} {v : Value} {l : List Nat}
theorem GR.nil : GR w e f lo X (.slice none 0 0) [] := ⟨⟨rfl, .inl ⟨rfl, rfl⟩⟩, fun b h => by cases h⟩
theorem GR.lt (h : GR w e f lo X v l) {b : Nat} (hb : v.ownBlock = some b) : b < w.heap.size := own_lt h.1 hb
theorem GR.keep {T : List Nat} (h : GR w e f lo X v l) (hc : Chg T w w') (hT : ∀ b ∈ T, b ∈ X ∨ b < lo ∨ w.heap.size ≤ b) : GR w' e f lo X v l :=
  ⟨own_keep h.1 hc fun b hb hm => by
    obtain ⟨h1, h2⟩ := h.2 b hb
    have h3 := h.lt hb
    rcases hT b hm with q | q | q
    · exact h2 q
    · omega
    · omega, h.2⟩
theorem GR.keep0 (h : GR w e f lo X v l) (hc : Chg [] w w') : GR w' e f lo X v l := h.keep hc (by simp)
theorem GR.one (h : GR w e f lo X v l) : v.oneCell' = true := by
  obtain ⟨a, c, rfl⟩ := own_form h.1; rfl
theorem GR.row (h : GR w e f lo X v l) : ∃ a c, v = .slice a l.length c ∧ l.length ≤ c ∧ RW w a (l.map f) := by
  rcases own_cases h.1 with ⟨rfl, h0, hx⟩ | ⟨g, cap, rfl, hc, _, _⟩
  · have : l = [] := List.length_eq_zero_iff.1 h0
    subst this
    exact ⟨none, 0, rfl, Nat.le_refl _, RW.nil⟩
  · exact ⟨_, cap, rfl, hc, RW.of_own h.1⟩
theorem GR.nu (h : GR w e u32v lo X v l) (hW : W l) (hl : l.length ≤ 70368744177664) : NU w v l := NU.of_own h.1 hW hl
theorem GR.of_OB {b k : Nat} (h : OB w b e l) (hk : k ≤ l.length) (hm : l.length ≤ 281474976710656) (hlo : lo ≤ b) (hX : b ∉ X) : GR w e u32v lo X (.slice (some ⟨b, 0, none⟩) k l.length) (l.take k) :=
  ⟨by have := own_of_OB h hk hm; rwa [show (l.take k).length = k by rw [List.length_take]; omega], fun b' hb => by cases hb; exact ⟨hlo, hX⟩⟩
theorem GR.frame {T : List Nat} {w0 : World} (h : GR w e f lo X v l) (hc : Chg v.ownBlock.toList w w') (hf : Chg T w0 w) (hlo : w0.heap.size ≤ lo) : Chg T w0 w' :=
  hf.step hc fun y hy => .inr (by
    cases hv : v.ownBlock with
    | none => rw [hv] at hy; cases hy
    | some b => rw [hv] at hy; have : y = b := by simpa using hy
                subst this; have := (h.2 y hv).1; omega)
theorem GR.notin (h : GR w e f lo X v l) {b : Nat} (hb : b ∈ X ∨ b < lo) : b ∉ v.ownBlock.toList := fun hm => by
  cases hv : v.ownBlock with
  | none => rw [hv] at hm; cases hm
  | some c =>
    rw [hv] at hm
    have : b = c := by simpa using hm
    subst this
    obtain ⟨h1, h2⟩ := h.2 b hv
    rcases hb with q | q
    · exact h2 q
    · omega
end
section
variable {P : Program} {n : Nat} {D : List Deferred} {s : Sl} {w : World} {ops : Array Oper} {K : KK} {rest : List Oper} {ty : TypeId} {pos : String} {af : Array Edge} {d : Nat} {x y : Operand}
theorem Ev.append00 {t e es be : Nat} {de : TypeDesc} {ze : Value} {sz by_ : Nat} {z : Value} {v : Value} {m c : Nat} {xs : List Value} [hT : HasT P t (.slice e) sz by_ z] [hE : HasT P e de es be ze]
    (hx : opnd s x = some v) (hy : opnd s y = some (.slice none 0 c)) (hown : w.ownsRow 0 e es v m xs) :
    Ev P s (.call ⟨.builtin .append, [x, y].toArray, #[t, t]⟩) ty w v w := fun ρ d' pos af g hρ => by
  obtain ⟨i, hi, hi1, hi2, hi3⟩ := hE.inf
  have e1 := hρ x _ hx
  have e2 := hρ y _ hy
  have : (Builtin.append_ #[t, t] ty #[v, .slice none 0 c]).run P w = .ok v w := by
    rcases hown.2 with ⟨rfl, rfl⟩ | ⟨g, cap, cur, rfl, _, _, hnc, _⟩
    · simp [Builtin.append_, run_underlying hT.und, sizeOf, typeInfo, hi, Builtin.lenOf, Builtin.firstCells]
    · simp [Builtin.append_, run_underlying hT.und, sizeOf, typeInfo, hi, Builtin.lenOf, Builtin.firstCells, hnc, storeCells]
  simp [execOp, resolve, invoke, builtin, e1, e2, this]
theorem WL.growR {t e be : Nat} {de : TypeDesc} {ze : Value} {sz by_ : Nat} {z : Value} {v : Value} {f : Nat → Value} {lo : Nat} {X : List Nat} {l news : List Nat} {a : Option Addr} {mm c : Nat} [hT : HasT P t (.slice e) sz by_ z] [hE : HasT P e de 1 be ze]
    (hzs : ze.cells.size = 1) (h1 : ∀ i, (f i).oneCell' = true) (hx : opnd s x = some v) (hy : opnd s y = some (.slice a mm c)) (hg : GR w e f lo X v l) (hm : mm = news.length) (hr : RW w a (news.map f)) (hlo : lo ≤ w.heap.size) (hX : ∀ b ∈ X, b < w.heap.size)
    (hbytes : (l.length + news.length) * be ≤ 140737488355328) (h63 : l.length + news.length ≤ 70368744177664) (hd : Nat.blt d n = true)
    (k : ∀ v' w', GR w' e f lo X v' (l ++ news) → Chg v.ownBlock.toList w w' → WL P ops K rest n D ((d, v') :: s) w') :
    WL P ops K (⟨some d, .call ⟨.builtin .append, [x, y].toArray, #[t, t]⟩, ty, pos, af, none⟩ :: rest) n D s w := by
  cases a with
  | some ad =>
    refine WL.append (news := news.map f) hzs (by omega) hx hy hg.1 (by simp; omega) (fun j u hu => ?_) (fun u hu => ?_) (by unfold maxLen; omega) (by rw [hm]; exact hbytes) hd fun v' w' ho hc hl => ?_
    · obtain ⟨ad', e1, hcell⟩ := hr j u hu
      cases e1; exact hcell
    · obtain ⟨i, _, rfl⟩ := List.mem_map.1 hu
      exact h1 i
    · refine k v' w' ⟨by rw [List.length_append, List.map_append, ← hm]; exact ho, fun b hb => ?_⟩ hc
      rcases hl with q | q
      · rw [q] at hb; exact hg.2 b hb
      · rw [q] at hb; cases hb; exact ⟨hlo, fun hm => Nat.lt_irrefl _ (hX _ hm)⟩
  | none =>
    have hn : news = [] := by
      cases news with
      | nil => rfl
      | cons u r => obtain ⟨ad, e1, _⟩ := hr 0 (f u) rfl; cases e1
    subst hn
    have hm0 : mm = 0 := hm
    subst hm0
    refine WL.ev (Ev.append00 hx hy hg.1) hd (k v w ?_ (Chg.refl _ _))
    rw [List.append_nil]; exact hg
end
def GRc (w : World) (e : TypeId) (es : Nat) (lo : Nat) (X : List Nat) (v : Value) (m : Nat) (l : List Value) : Prop :=
  w.ownsRow 0 e es v m l ∧ ∀ b, v.ownBlock = some b → lo ≤ b ∧ b ∉ X
end

/- Package root: words. No condition. -/
section
open Go Sx Wd
set_option exponentiation.threshold 5000

structure LiftI (l : List Nat) (q s i : Nat) (L : List Nat) (c : Nat) : Prop where
  le : i ≤ l.length
  len : L.length = q + i
  w : W L
  cl : c < 2 ^ s
  eq : val L + 2 ^ (32 * (q + i)) * c = 2 ^ (32 * q) * (val (l.take i) * 2 ^ s)
theorem LiftI.zero (l : List Nat) (q s : Nat) : LiftI l q s 0 (List.replicate q 0) 0 := ⟨Nat.zero_le _, by simp, W_replicate _, Nat.two_pow_pos _, by rw [val_replicate]; simp [val]⟩
theorem lift_or {c x s : Nat} (hc : c < 2 ^ s) (hx : x < 4294967296) (hs : s < 32) : c ||| (x * 2 ^ s % 18446744073709551616) = c + x * 2 ^ s ∧ c + x * 2 ^ s < 4294967296 * 2 ^ s ∧ c + x * 2 ^ s < 18446744073709551616 := by
  have h1 : (x + 1) * 2 ^ s ≤ 4294967296 * 2 ^ s := Nat.mul_le_mul_right _ hx
  have h2 : 2 ^ s ≤ 2 ^ 31 := Nat.pow_le_pow_right (by decide) (by omega)
  rw [Nat.add_mul, Nat.one_mul] at h1
  rw [Nat.mod_eq_of_lt (by omega), or_of_mul hc]
  omega
theorem LiftI.step {l L : List Nat} {q s i c t : Nat} (h : LiftI l q s i L c) (hl : W l) (hi : i < l.length) (hs : s < 32) (ht : t = c + l.getD i 0 * 2 ^ s) : LiftI l q s (i + 1) (L ++ [t % 4294967296]) (t / 2 ^ 32) := by
  obtain ⟨h1, h2, h3, h4, h5⟩ := h
  have hx := hl.getD i
  obtain ⟨_, h7, _⟩ := lift_or h4 hx hs
  rw [← ht] at h7
  refine ⟨hi, by simp [h2]; omega, W_append.2 ⟨h3, W_cons.2 ⟨Nat.mod_lt _ (by decide), W_nil⟩⟩, by rw [show (2 : Nat) ^ 32 = 4294967296 from rfl]; exact Nat.div_lt_of_lt_mul h7, ?_⟩
  rw [val_snoc, h2, val_take_succ hi, show 32 * (q + (i + 1)) = 32 * (q + i) + 32 by omega, Nat.pow_add 2 (32 * (q + i)) 32, show (2 : Nat) ^ 32 = 4294967296 from rfl]
  have e := Nat.div_add_mod t 4294967296
  have e2 : 2 ^ (32 * (q + i)) * (t % 4294967296) + 2 ^ (32 * (q + i)) * 4294967296 * (t / 4294967296) = 2 ^ (32 * (q + i)) * t := by
    rw [Nat.mul_assoc, ← Nat.mul_add]; congr 1; omega
  have e3 : 2 ^ (32 * q) * ((val (l.take i) + 2 ^ (32 * i) * l.getD i 0) * 2 ^ s) = 2 ^ (32 * q) * (val (l.take i) * 2 ^ s) + 2 ^ (32 * (q + i)) * (l.getD i 0 * 2 ^ s) := by
    rw [Nat.add_mul, Nat.mul_add, Nat.mul_add 32, Nat.pow_add]; congr 1; ac_rfl
  rw [e3, ← h5, Nat.add_assoc, e2, ht, Nat.mul_add]
  omega
theorem LiftI.done {l L : List Nat} {q s c : Nat} (h : LiftI l q s l.length L c) (hs : s < 32) : val (L ++ [c % 4294967296]) = val l * 2 ^ (32 * q + s) ∧ W (L ++ [c % 4294967296]) := by
  obtain ⟨h1, h2, h3, h4, h5⟩ := h
  have h6 : 2 ^ s ≤ 2 ^ 31 := Nat.pow_le_pow_right (by decide) (by omega)
  rw [Nat.mod_eq_of_lt (by omega)]
  refine ⟨?_, W_append.2 ⟨h3, W_cons.2 ⟨by omega, W_nil⟩⟩⟩
  rw [List.take_length] at h5
  rw [val_snoc, h2, h5, Nat.pow_add]
  ac_rfl
structure K0r (l : List Nat) (w : World) (k : Nat) (wr : World) : Prop where
  le : k ≤ l.length
  vl : val (l.take k) = val l
  eq : w = wr

theorem trimmed_spec (v : Value) (l : List Nat) (w : World) (h : NU w v l) : Ret Tryz.prog 318 [v] w fun u w' => NU w u (wd (val l)) ∧ w = w' := by
 obtain ⟨⟨al, cl, rfl, hcapl, hrl⟩, hWl, hll⟩ := h;have hch := crf w;refine zE1 Tryz.func318 rfl ?_;refine Sr fun _ kh1 => za rfl (zz (kh1 (zc fun _ kh3 => CW.block ?_)));refine CW.loop (S := fun k : Nat => [(0, .slice al k cl)]) (Inv := K0r l w) (mu := fun k => k) (l.length) ?_ ?_ ?_
 ·exact ⟨Nat.le_refl _, by rw [List.take_length], rfl⟩
 ·exact SLp
 rintro k _ ⟨hkl, hvl, rfl⟩;refine zc fun _ kh4 => ?_;refine CW.seqM 14 (decide (0 < k ∧ l.getD (k - 1) 0 = 0)) ?_ ?_
 ·refine zS fun _ kr5 => zm rfl (zn rfl (zG rfl rfl (zm rfl ?_)));refine zb ?_ ?_<;>intro hg1<;>try simp only [qs] at hg1
  ·refine zw rfl (zm rfl (zw rfl (zm rfl (zw rfl (zn rfl (zw rfl ?_))))))
   first | refine WL.ev (Ev.subIn rfl rfl (by omega)) rfl ?_ | refine WL.ev (Ev.sub rfl rfl) rfl ?_
   refine zw rfl ?_;refine WL.ev (Ev.ixR ((k - 1)) rfl rfl (hrl.keep0 hch) (by omega) (by omega) (by simp; omega)) rfl ?_;refine zw rfl ?_;refine WL.ev (Ev.load rfl rfl ((hrl.keep0 hch).u32 (by first | omega | (simp; omega)))) rfl ?_;have hw12 := hWl.getD ((k - 1));refine zw rfl (zq rfl rfl (zt rfl rfl (zz (kr5 ?_))));refine ⟨rfl, rfl, Subs.consB rfl ?_ ?_⟩
   ·first | (simp; omega) | (refine decide_eq_decide.2 ?_; omega)
   exact SMg
  refine zv rfl (zv rfl (zv rfl (zv rfl (zv rfl (zv rfl (zv rfl (ze rfl rfl (zz (kr5 ?_)))))))));refine ⟨rfl, rfl, Subs.consB rfl ?_ ?_⟩
  ·first | (simp; omega) | (refine decide_eq_decide.2 ?_; omega)
  exact SMg
 refine zy rfl ?_ ?_<;>intro hc2<;>try simp only [qs] at hc2
 ·refine zkk (kh4 (CW.block (zS fun _ kr6 => zm rfl (zm rfl (zn rfl ?_)))))
  first | refine WL.ev (Ev.subIn rfl rfl (by omega)) rfl ?_ | refine WL.ev (Ev.sub rfl rfl) rfl ?_
  refine WL.ev (Ev.sliceHn ((k - 1)) rfl rfl (by omega) (by omega)) rfl ?_;refine za rfl (zz (kr6 ?_));refine ⟨rfl, k - 1, ?_, ?_, ?_⟩
  ·exact SLp
  ·exact ⟨by omega, by rw [take_pred hkl (by omega) (by omega)]; exact hvl, rfl⟩
  omega
 refine CW.exit ?_;refine kh3 (Sr fun _ kh7 => zm rfl (za rfl (zz (kh7 ?_))));refine zr (zr1 rfl rfl ?_);rw [cut_wd hWl hkl hvl (by omega)];exact ⟨NU.part hrl hWl hll hkl (by omega), rfl⟩

def cmpS (a b : Int) : Int := if a < b then -1 else if b < a then 1 else 0
theorem rcmp_spec (a b : Int) (w : World) : Ret Tryz.prog 355 [.int .i64 a, .int .i64 b] w fun u w' => u = .int .i64 (cmpS a b) ∧ w = w' := by
 refine zE2 Tryz.func355 rfl ?_;refine Sr fun _ kh1 => za rfl (zz (kh1 (zc fun _ kh3 => CW.block (Sr fun _ kh4 => zm rfl (zm rfl (zL rfl rfl (za rfl (zz (kh4 ?_)))))))));refine zy rfl ?_ ?_<;>intro hc1<;>try simp only [qs] at hc1
 ·have h1 : a < b := hc1
  refine Sr fun _ kh6 => za rfl (zz (kh6 ?_));refine zr (zr1 rfl rfl ?_);exact ⟨by unfold cmpS; rw [if_pos h1], rfl⟩
 have h1 : ¬ a < b := by have := hc1; omega
 refine Sr fun _ kh8 => zm rfl (zm rfl (zG rfl rfl (za rfl (zz (kh8 ?_)))));refine zy rfl ?_ ?_<;>intro hc2<;>try simp only [qs] at hc2
 ·have h2 : b < a := hc2
  refine Sr fun _ kh10 => za rfl (zz (kh10 ?_));refine zr (zr1 rfl rfl ?_);exact ⟨by unfold cmpS; rw [if_neg h1, if_pos h2], rfl⟩
 have h2 : ¬ b < a := by have := hc2; omega
 refine zkk (kh3 (Sr fun _ kh12 => za rfl (zz (kh12 ?_))));refine zr (zr1 rfl rfl ?_);exact ⟨by unfold cmpS; rw [if_neg h1, if_neg h2], rfl⟩

structure KLi (l : List Nat) (q s : Nat) (w0 : World) (g : Nat × List Nat × Nat × Value) (w : World) : Prop where
  m : LiftI l q s g.1 g.2.1 g.2.2.1
  gr : GR w 209 u32v w0.heap.size [] g.2.2.2 g.2.1
  ch : Chg [] w0 w

theorem lifted_spec (v : Value) (l : List Nat) (n : Nat) (w : World) (h : NU w v l) (hn : n < 1099511627776) (hlm : l.length ≤ 1099511627776) : Ret Tryz.prog 343 [v, .int .i64 (n : Int)] w fun u w' => NU w' u (wd (val l * 2 ^ n)) ∧ Chg [] w w' := by
 obtain ⟨⟨al, cl, rfl, hcapl, hrl⟩, hWl, hll⟩ := h;have hch := crf w;have hs32 : n % 32 < 32 := Nat.mod_lt _ (by decide);have hp : 2 ^ (n % 32) ≤ 2 ^ 31 := Nat.pow_le_pow_right (by decide) (by omega);refine zE2 Tryz.func343 rfl ?_;refine Sr fun _ kh1 => za rfl (zz (kh1 (Sr fun _ kh3 => zm rfl ?_)));refine WL.ev (Ev.quoIn (b := 32) rfl rfl (by omega) (by simp only [IntKind.max, IntKind.signed, IntKind.bits]; omega) (by omega)) rfl ?_;rw [show (n : Int) / 32 = ((n / 32 : Nat) : Int) by omega];refine zm rfl ?_;refine WL.ev (Ev.quoIn (b := 32) rfl rfl (by omega) (by simp only [IntKind.max, IntKind.signed, IntKind.bits]; omega) (by omega)) rfl ?_;rw [show (n : Int) / 32 = ((n / 32 : Nat) : Int) by omega];refine zm rfl (zn rfl ?_);(first | refine zi rfl rfl ?_ | refine zo rfl rfl ?_);(first | refine zi rfl rfl ?_ | refine zo rfl rfl ?_);refine WL.makeU (n / 32) (n / 32 + l.length + 1) rfl rfl (by omega) (by omega) (by omega) (by omega) (by omega) rfl fun b17 wm17 hb17 hcm17 hge17 => ?_;have hgehch17 := Nat.le_trans hch.size hge17;have hch := hch.ta hcm17;refine za rfl (zz (kh3 (Sr fun _ kh5 => za rfl (zz (kh5 (zc fun _ kh7 => Sr fun _ kh8 => zm rfl (zn rfl (zm rfl (zz (kh8 (CW.block ?_)))))))))));refine CW.loop (S := fun g : Nat × List Nat × Nat × Value => [(0, .slice al l.length cl), (1, .int .i64 (n : Int)), (5, g.2.2.2), (6, .int .u64 (g.2.2.1 : Int)), (18, .slice al l.length cl), (19, .int .i64 (l.length : Int)), (20, .int .i64 (g.1 : Int))]) (Inv := KLi l (n / 32) (n % 32) w) (mu := fun g => l.length - g.1) ((0, List.replicate (n / 32) 0, 0, .slice (some ⟨b17, 0, none⟩) (n / 32) (n / 32 + l.length + 1))) ?_ ?_ ?_
 ·have hGR := GR.of_OB (lo := w.heap.size) (X := []) (k := n / 32) hb17 (by simp; omega) (by simp; omega) (by first | omega | exact hgehch17 | exact hge17) (by simp);rw [List.take_replicate, show min (n / 32) (n / 32 + l.length + 1) = n / 32 by omega, List.length_replicate] at hGR;exact ⟨LiftI.zero _ _ _, hGR, hch⟩
 ·exact SLp
 rintro ⟨i, L, c, vo⟩ wr ⟨hM, hgr, hch⟩;dsimp only at hM hgr hch;dsimp only;have hi := hM.le;have hLl := hM.len;have hcl := hM.cl;have hxi := hWl.getD i;refine Sr fun _ kh10 => zL rfl rfl (zz (kh10 (zc fun _ kh12 => ?_)));refine zy rfl ?_ ?_<;>intro hc1<;>try simp only [qs] at hc1
 ·obtain ⟨hor, hb1, hb2⟩ := lift_or hcl hxi hs32
  refine zkk (kh12 (zc fun _ kh13 => CW.block (Sr fun _ kh14 => ?_)));refine WL.ev (Ev.ixR (i) rfl rfl (hrl.keep0 hch) (by omega) (by omega) (by simp; omega)) rfl ?_;refine WL.ev (Ev.load rfl rfl ((hrl.keep0 hch).u32 (by first | omega | (simp; omega)))) rfl ?_;have hw23 := hWl.getD (i);refine za rfl (zz (kh14 (Sr fun _ kh16 => zm rfl (zm rfl ?_))));refine WL.ev (Ev.convIn rfl rfl (in_u64 (by omega))) rfl ?_;refine zm rfl ?_;refine WL.ev (Ev.remIn (b := 32) rfl rfl (by omega) (by omega)) rfl ?_;rw [show (n : Int) % 32 = ((n % 32 : Nat) : Int) by omega];refine WL.ev (Ev.convIn rfl rfl (in_u64 (by omega))) rfl ?_;refine WL.ev (Ev.shlU64 rfl rfl) rfl ?_;refine WL.ev (Ev.orU rfl rfl rfl (by simp only [IntKind.bits]; omega) (by simp only [IntKind.bits]; omega)) rfl ?_;rw [hor];refine za rfl (zz (kh16 (Sr fun _ kh18 => zm rfl (zm rfl ?_))));refine WL.ev (Ev.conv32 rfl rfl) rfl ?_;refine WL.buildSlice (m := 1) (cs := [u32v (((c + l.getD i 0 * 2 ^ (n % 32)) % 4294967296))]) (by decide) (by decide) rfl (by kernel_rfl) rfl fun b35 w35 hn35 => ?_;have hcm35 := hn35.chg;have hge35 := hn35.ge;have hb35 : OB w35 b35 _ [((c + l.getD i 0 * 2 ^ (n % 32)) % 4294967296)] := hn35.at_;have hgehch35 := Nat.le_trans hch.size hge35;have hch := hch.ta hcm35;have hgr := hgr.keep0 hcm35;refine WL.growR (f := u32v) (lo := w.heap.size) (X := []) (l := L) (news := [((c + l.getD i 0 * 2 ^ (n % 32)) % 4294967296)]) (by rfl) (fun i => rfl) rfl rfl hgr (by first | rfl | (simp; done) | (simp; omega) | omega) hb35.row (by first | omega | exact hch.size | exact Nat.le_refl _) (by simp) (by simp only [List.length_append, List.length_cons, List.length_nil]; omega) (by simp only [List.length_append, List.length_cons, List.length_nil]; omega) rfl fun v36 w36 hg36 hcg36 => ?_;have hch := GR.frame hgr hcg36 hch (by first | omega | exact Nat.le_refl _);have hgr := hg36;refine za rfl (zz (kh18 ?_));refine zR fun _ kr20 => ?_;refine zm rfl ?_;refine WL.ev (Ev.shrU (b := 32) rfl rfl (by simp only [IntKind.bits]; omega)) rfl ?_;refine za rfl ?_;refine WL.nil (kr20 _ _ _ (kh13 ?_));refine zS fun _ kr21 => ?_;(first | refine zi rfl rfl ?_ | refine zo rfl rfl ?_);refine zm rfl (zz (kr21 ?_));refine ⟨rfl, (i + 1, L ++ [(c + l.getD i 0 * 2 ^ (n % 32)) % 4294967296], (c + l.getD i 0 * 2 ^ (n % 32)) / 2 ^ 32, v36), ?_, ?_, ?_⟩
  ·exact SLp
  ·exact ⟨hM.step hWl (by omega) hs32 rfl, hgr, hch⟩
  show l.length - (i + 1) < l.length - i; omega
 have hiX : i = l.length := by omega
 subst hiX;obtain ⟨hd1, hd2⟩ := hM.done hs32;rw [show 32 * (n / 32) + n % 32 = n by omega] at hd1;refine CW.exit ?_;refine kh7 (Sr fun _ kh22 => zm rfl (zm rfl ?_));refine WL.ev (Ev.conv32 rfl rfl) rfl ?_;refine WL.buildSlice (m := 1) (cs := [u32v ((c % 4294967296))]) (by decide) (by decide) rfl (by kernel_rfl) rfl fun b43 w43 hn43 => ?_;have hcm43 := hn43.chg;have hge43 := hn43.ge;have hb43 : OB w43 b43 _ [(c % 4294967296)] := hn43.at_;have hgehch43 := Nat.le_trans hch.size hge43;have hch := hch.ta hcm43;have hgr := hgr.keep0 hcm43;refine WL.growR (f := u32v) (lo := w.heap.size) (X := []) (l := L) (news := [(c % 4294967296)]) (by rfl) (fun i => rfl) rfl rfl hgr (by first | rfl | (simp; done) | (simp; omega) | omega) hb43.row (by first | omega | exact hch.size | exact Nat.le_refl _) (by simp) (by simp only [List.length_append, List.length_cons, List.length_nil]; omega) (by simp only [List.length_append, List.length_cons, List.length_nil]; omega) rfl fun v44 w44 hg44 hcg44 => ?_;have hch := GR.frame hgr hcg44 hch (by first | omega | exact Nat.le_refl _);have hgr := hg44;refine WL.call hasF318 rfl rfl (trimmed_spec _ _ _ (hgr.nu hd2 (by simp; omega))) fun v w1 h' => ?_;obtain ⟨hN, rfl⟩ := h';rw [hd1] at hN;refine za rfl (zz (kh22 ?_));refine zr (zr1 rfl rfl ?_);exact ⟨hN, hch⟩

end

/- Package root: words, compared and less. No condition. -/
section
open Go Sx Wd
set_option exponentiation.threshold 5000

structure KCr (A B : List Nat) (w : World) (k : Nat) (wr : World) : Prop where
  le : k ≤ A.length
  eq : A.drop k = B.drop k
  chg : Chg [] w wr
structure KSr (X Y : List Nat) (w : World) (b : Nat) (g : Nat × List Nat × Nat) (wr : World) : Prop where
  a : SubI X Y g.1 g.2.1 g.2.2
  ob : OB wr b 209 g.2.1
  chg : Chg [] w wr
theorem cmpS_nat (a b : Nat) : cmpS (a : Int) (b : Int) = sgn a b := by
  unfold cmpS sgn
  by_cases h : a < b
  · rw [if_pos h, if_pos (by omega)]
  · rw [if_neg h, if_neg (by omega)]
    by_cases h2 : b < a
    · rw [if_pos h2, if_pos (by omega)]
    · rw [if_neg h2, if_neg (by omega)]

theorem compared_spec (va vb : Value) (m n : Nat) (w : World) (ha : NU w va (wd m)) (hb : NU w vb (wd n)) : Ret Tryz.prog 344 [va, vb] w fun u w' => u = .int .i64 (sgn m n) ∧ Chg [] w w' := by
 have hvA := val_wd m;have hvB := val_wd n;have hslen := sgn_len (a := m) (b := n);obtain ⟨A, hA⟩ : ∃ A, A = wd m := ⟨_, rfl⟩;obtain ⟨B, hB⟩ : ∃ B, B = wd n := ⟨_, rfl⟩;rw [← hA] at ha hvA hslen;rw [← hB] at hb hvB hslen;obtain ⟨⟨a1, c1, rfl, hcap1, hr1⟩, hW1, hl1⟩ := ha;obtain ⟨⟨a2, c2, rfl, hcap2, hr2⟩, hW2, hl2⟩ := hb;have hch := crf w;refine zE2 Tryz.func344 rfl ?_;refine Sr fun _ kh1 => za rfl (zz (kh1 (zc fun _ kh3 => Sr fun _ kh4 => zm rfl (zn rfl (zm rfl (zn rfl (zN rfl rfl (zz (kh4 ?_)))))))));refine zy rfl ?_ ?_<;>intro hc1<;>try simp only [qs] at hc1
 ·refine Sr fun _ kh6 => zm rfl (zn rfl (zm rfl (zn rfl ?_)));refine WL.call hasF355 rfl rfl (rcmp_spec _ _ _) fun v w1 h' => ?_
  obtain ⟨rfl, rfl⟩ := h';rw [cmpS_nat];refine za rfl (zz (kh6 ?_));refine zr (zr1 rfl rfl ?_);refine ⟨?_, hch⟩;have e : sgn A.length B.length = sgn m n := by
   rcases Nat.lt_or_gt_of_ne (show A.length ≠ B.length by omega) with q | q
   · rw [hslen.1 q]; unfold sgn; rw [if_pos q]
   rw [hslen.2 q]; unfold sgn; rw [if_neg (by omega), if_pos q]
  rw [e]
 have hAB : A.length = B.length := by omega
 refine zkk (kh3 (zc fun _ kh8 => Sr fun _ kh9 => zm rfl (zn rfl ?_)))
 first | refine WL.ev (Ev.subIn rfl rfl (by omega)) rfl ?_ | refine WL.ev (Ev.sub rfl rfl) rfl ?_
 refine za rfl (zz (kh9 (CW.block ?_)));refine CW.loop (S := fun k : Nat => [(0, .slice a1 A.length c1), (1, .slice a2 B.length c2), (5, .int .i64 ((k : Int) - 1))]) (Inv := KCr A B w) (mu := fun k => k) (A.length) ?_ ?_ ?_
 ·exact ⟨Nat.le_refl _, by rw [List.drop_length, hAB, List.drop_length], hch⟩
 ·exact SLp
 rintro k wr ⟨hkl, hkd, hch⟩;refine zc fun _ kh11 => Sr fun _ kh12 => zm rfl ?_;refine WL.ev (Ev.geq rfl rfl) rfl ?_;refine zz (kh12 ?_);refine zy rfl ?_ ?_<;>intro hc2<;>try simp only [qs] at hc2
 ·have hk1 : k - 1 + 1 = k := by omega
  have hsd := sgn_drop hW1 hW2 hAB (k := k - 1) (by omega) (by rw [hk1]; exact hkd);rw [hvA, hvB] at hsd;refine zkk (kh11 (zc fun _ kh14 => CW.block (zc fun _ kh15 => ?_)));refine CW.regionSC hmix (by kernel_rfl) fun kR16 kr16 hdr => ?_;have hch := hch.ta hdr;refine ym rfl (ym rfl ?_);refine WS.ev (Ev.ixR ((k - 1)) rfl rfl (hr1.keep0 hch) (by omega) (by omega) (by simp; omega)) rfl ?_;refine WS.ev (Ev.load rfl rfl ((hr1.keep0 hch).u32 (by first | omega | (simp; omega)))) rfl ?_;have hw26 := hW1.getD ((k - 1));refine ym rfl (ym rfl ?_);refine WS.ev (Ev.ixR ((k - 1)) rfl rfl (hr2.keep0 hch) (by omega) (by omega) (by simp; omega)) rfl ?_;refine WS.ev (Ev.load rfl rfl ((hr2.keep0 hch).u32 (by first | omega | (simp; omega)))) rfl ?_;have hw30 := hW2.getD ((k - 1));refine WS.ev (Ev.neq rfl rfl) rfl ?_;refine WS.nil (kr16 _ _ ?_);refine kh15 ?_;refine zy rfl ?_ ?_<;>intro hc3<;>try simp only [qs] at hc3
  ·refine zc fun _ kh17 => ?_
   refine CW.regionHC 12 rfl hmix fun kR18 kr18 hS hdr => ?_;have hch := hch.ta hdr;have hch_r := hch;refine wh 0 rfl hS (eM rfl) (wh 1 rfl hS (eM rfl) (wh 2 rfl hS (fun _ hw' => Ev.ixR ((k - 1)) rfl rfl (hr1.keep0 (hch_r.trans hw')) (by omega) (by omega) (by simp; omega)) (wh 3 rfl hS (fun _ hw' => Ev.load rfl rfl ((hr1.keep0 (hch_r.trans hw')).u32 (by first | omega | (simp; omega)))) ?_)));have hw35 := hW1.getD ((k - 1));refine wh 4 rfl hS (fun _ _ => Ev.convIn rfl rfl (in_i64 (by omega))) (wh 5 rfl hS (eM rfl) (wh 6 rfl hS (eM rfl) (wh 7 rfl hS (fun _ hw' => Ev.ixR ((k - 1)) rfl rfl (hr2.keep0 (hch_r.trans hw')) (by omega) (by omega) (by simp; omega)) (wh 8 rfl hS (fun _ hw' => Ev.load rfl rfl ((hr2.keep0 (hch_r.trans hw')).u32 (by first | omega | (simp; omega)))) ?_))));have hw40 := hW2.getD ((k - 1));refine wh 9 rfl hS (fun _ _ => Ev.convIn rfl rfl (in_i64 (by omega))) ?_;refine WH.oneCall 10 rfl (by kernel_rfl) hasF355 rfl rfl (rcmp_spec _ _ _) fun v w2 h' => ?_;obtain ⟨rfl, rfl⟩ := h';rw [cmpS_nat];refine ⟨hS, ?_⟩;refine wh 11 rfl hS (eA rfl) ?_;refine WH.done (by kernel_rfl) (kr18 _ _ _ ?_);refine kh17 ?_;refine zr (zr1 rfl rfl ?_);refine ⟨?_, hch⟩;have e : sgn (A.getD (k - 1) 0) (B.getD (k - 1) 0) = sgn m n := by
    rcases Nat.lt_or_gt_of_ne (show A.getD (k - 1) 0 ≠ B.getD (k - 1) 0 by omega) with q | q
    · rw [hsd.1 q]; unfold sgn; rw [if_pos q]
    rw [hsd.2.1 q]; unfold sgn; rw [if_neg (by omega), if_pos q]
   rw [e]
  refine zkk (kh14 (zS fun _ kr19 => zm rfl ?_))
  first | refine WL.ev (Ev.subIn rfl rfl (by omega)) rfl ?_ | refine WL.ev (Ev.sub rfl rfl) rfl ?_
  refine za rfl (zz (kr19 ?_));refine ⟨rfl, k - 1, ?_, ?_, ?_⟩
  ·exact SLp
  ·exact ⟨by omega, hsd.2.2 (by omega), hch⟩
  omega
 refine CW.exit ?_;refine kh8 (Sr fun _ kh20 => za rfl (zz (kh20 ?_)));refine zr (zr1 rfl rfl ?_);have hk0 : k = 0 := by omega
 subst hk0;rw [List.drop_zero, List.drop_zero] at hkd;rw [← hvA, ← hvB, hkd, sgn_self];exact ⟨rfl, hch⟩

theorem rless_spec (va vb : Value) (la lb : List Nat) (w : World) (ha : NU w va la) (hb : NU w vb lb) (hle : val lb ≤ val la) : Ret Tryz.prog 345 [va, vb] w fun u w' => NU w' u (wd (val la - val lb)) ∧ Chg [] w w' := by
 obtain ⟨⟨ala, cla, rfl, hcapla, hrla⟩, hWla, hlla⟩ := ha;obtain ⟨⟨alb, clb, rfl, hcaplb, hrlb⟩, hWlb, hllb⟩ := hb;have hch := crf w;refine zE2 Tryz.func345 rfl ?_;refine Sr fun _ kh1 => za rfl (zz (kh1 (Sr fun _ kh3 => zm rfl (zn rfl ?_))));refine WL.makeU ((la).length) ((la).length) rfl rfl (by omega) (by omega) (by omega) (by omega) (by omega) rfl fun b13 wm13 hb13 hcm13 hge13 => ?_;have hgehch13 := Nat.le_trans hch.size hge13;have hch := hch.ta hcm13;refine za rfl (zz (kh3 (Sr fun _ kh5 => za rfl (zz (kh5 (zc fun _ kh7 => Sr fun _ kh8 => zm rfl (zn rfl (zm rfl (zz (kh8 (CW.block ?_)))))))))));refine CW.loop (S := fun g : Nat × List Nat × Nat => [(0, .slice ala la.length cla), (1, .slice alb lb.length clb), (5, .slice (some ⟨b13, 0, none⟩) la.length la.length), (6, .int .u64 (g.2.2 : Int)), (14, .slice ala la.length cla), (15, .int .i64 (la.length : Int)), (16, .int .i64 (g.1 : Int))]) (Inv := KSr la lb w b13) (mu := fun g => la.length - g.1) ((0, List.replicate la.length 0, 0)) ?_ ?_ ?_
 ·exact ⟨SubI.zero (by simp) (W_replicate _), hb13, hch⟩
 ·exact SLp
 rintro ⟨i, L, c⟩ wr ⟨hAd, hb13, hch⟩;dsimp only at hAd hb13 hch;dsimp only;have hiX := hAd.le;have hLl := hAd.len;have hcc := hAd.c1;have hxi := hWla.getD i;have hyi := hWlb.getD i;refine Sr fun _ kh10 => zL rfl rfl (zz (kh10 (zc fun _ kh12 => ?_)));refine zy rfl ?_ ?_<;>intro hc1<;>try simp only [qs] at hc1
 ·refine zkk (kh12 (zc fun _ kh13 => CW.block (Sr fun _ kh14 => zm rfl ?_)));refine WL.ev (Ev.ixR (i) rfl rfl (hrla.keep0 hch) (by omega) (by omega) (by simp; omega)) rfl ?_
  refine WL.ev (Ev.load rfl rfl ((hrla.keep0 hch).u32 (by first | omega | (simp; omega)))) rfl ?_;have hw20 := hWla.getD (i);refine za rfl (za rfl (zz (kh14 (Sr fun _ kh16 => zm rfl (za rfl (zz (kh16 (zc fun _ kh18 => Sr fun _ kh19 => zm rfl (zm rfl (zn rfl (zL rfl rfl (zz (kh19 ?_)))))))))))));refine zy rfl ?_ ?_<;>intro hc2<;>try simp only [qs] at hc2
  ·refine zR fun _ kr21 => ?_
   refine zm rfl (zm rfl (zm rfl ?_));refine WL.ev (Ev.ixR (i) rfl rfl (hrlb.keep0 hch) (by omega) (by omega) (by simp; omega)) rfl ?_;refine WL.ev (Ev.load rfl rfl ((hrlb.keep0 hch).u32 (by first | omega | (simp; omega)))) rfl ?_;have hw30 := hWlb.getD (i);refine WL.ev (Ev.convIn rfl rfl (in_u64 (by omega))) rfl ?_
   first | refine WL.ev (Ev.add64In rfl rfl (by omega)) rfl ?_ | refine WL.ev (Ev.add64 rfl rfl) rfl ?_
   refine za rfl ?_;refine WL.nil (kr21 _ _ _ (kh18 ?_));refine Sr fun _ kh22 => zm rfl ?_;refine WL.ev (Ev.convIn rfl rfl (in_u64 (by omega))) rfl ?_;refine zm rfl ?_;refine WL.ev (Ev.sub64 (a := la.getD i 0) (b := c + lb.getD i 0) rfl rfl (by omega)) rfl ?_;refine za rfl (zz (kh22 ?_));refine zR fun _ kr24 => ?_;refine zm rfl (zm rfl (zm rfl ?_));refine WL.ev (Ev.conv32 (a := (la.getD i 0 + (18446744073709551616 - (c + lb.getD i 0))) % 18446744073709551616) rfl rfl) rfl ?_;rw [show (la.getD i 0 + (18446744073709551616 - (c + lb.getD i 0))) % 18446744073709551616 % 4294967296 = (la.getD i 0 + 8589934592 - lb.getD i 0 - c) % 4294967296 by omega];refine zm rfl ?_;refine WL.ev (Ev.shrU (a := (la.getD i 0 + (18446744073709551616 - (c + lb.getD i 0))) % 18446744073709551616) (b := 63) rfl rfl (by simp only [IntKind.bits]; omega)) rfl ?_;rw [show (la.getD i 0 + (18446744073709551616 - (c + lb.getD i 0))) % 18446744073709551616 / 2 ^ 63 = (if la.getD i 0 < lb.getD i 0 + c then 1 else 0) by split <;> omega];refine WL.ev (Ev.ixB (i) rfl rfl (by omega) (by omega)) rfl ?_;refine WL.storeU rfl rfl hb13 (by first | omega | (simp; omega)) fun ws3 hb13_ hcs3 => ?_;have hch := hch.s1 hcs3;have hb13 := hb13_;refine za rfl ?_;refine WL.nil (kr24 _ _ _ (kh13 ?_));refine zS fun _ kr25 => ?_;(first | refine zi rfl rfl ?_ | refine zo rfl rfl ?_);refine zm rfl (zz (kr25 ?_));refine ⟨rfl, (i + 1, L.set i ((la.getD i 0 + 8589934592 - lb.getD i 0 - c) % 4294967296), (if la.getD i 0 < lb.getD i 0 + c then 1 else 0)), ?_, ?_, ?_⟩
   ·exact SLp
   ·exact ⟨hAd.step hWla hWlb (by omega), hb13, hch⟩
   show la.length - (i + 1) < la.length - i; omega
  have e0 : Value.int IntKind.u64 (c : Int) = Value.int IntKind.u64 ((c + lb.getD i 0 : Nat) : Int) := by rw [getD_out (by omega)]; rfl
  rw [e0];refine zkk (kh18 (Sr fun _ kh26 => zm rfl ?_));refine WL.ev (Ev.convIn rfl rfl (in_u64 (by omega))) rfl ?_;refine zm rfl ?_;refine WL.ev (Ev.sub64 (a := la.getD i 0) (b := c + lb.getD i 0) rfl rfl (by omega)) rfl ?_;refine za rfl (zz (kh26 ?_));refine zR fun _ kr28 => ?_;refine zm rfl (zm rfl (zm rfl ?_));refine WL.ev (Ev.conv32 (a := (la.getD i 0 + (18446744073709551616 - (c + lb.getD i 0))) % 18446744073709551616) rfl rfl) rfl ?_;rw [show (la.getD i 0 + (18446744073709551616 - (c + lb.getD i 0))) % 18446744073709551616 % 4294967296 = (la.getD i 0 + 8589934592 - lb.getD i 0 - c) % 4294967296 by omega];refine zm rfl ?_;refine WL.ev (Ev.shrU (a := (la.getD i 0 + (18446744073709551616 - (c + lb.getD i 0))) % 18446744073709551616) (b := 63) rfl rfl (by simp only [IntKind.bits]; omega)) rfl ?_;rw [show (la.getD i 0 + (18446744073709551616 - (c + lb.getD i 0))) % 18446744073709551616 / 2 ^ 63 = (if la.getD i 0 < lb.getD i 0 + c then 1 else 0) by split <;> omega];refine WL.ev (Ev.ixB (i) rfl rfl (by omega) (by omega)) rfl ?_;refine WL.storeU rfl rfl hb13 (by first | omega | (simp; omega)) fun ws4 hb13_ hcs4 => ?_;have hch := hch.s1 hcs4;have hb13 := hb13_;refine za rfl ?_;refine WL.nil (kr28 _ _ _ (kh13 ?_));refine zS fun _ kr29 => ?_;(first | refine zi rfl rfl ?_ | refine zo rfl rfl ?_);refine zm rfl (zz (kr29 ?_));refine ⟨rfl, (i + 1, L.set i ((la.getD i 0 + 8589934592 - lb.getD i 0 - c) % 4294967296), (if la.getD i 0 < lb.getD i 0 + c then 1 else 0)), ?_, ?_, ?_⟩
  ·exact SLp
  ·exact ⟨hAd.step hWla hWlb (by omega), hb13, hch⟩
  show la.length - (i + 1) < la.length - i; omega
 have hiX2 : i = la.length := by omega
 subst hiX2;have hNL := NU.of_block hb13 hAd.w (by omega) hLl.symm (Nat.le_refl _);refine CW.exit ?_;refine kh7 (Sr fun _ kh30 => zm rfl ?_);refine WL.call hasF318 rfl rfl (trimmed_spec _ _ _ hNL) fun v w1 h' => ?_;obtain ⟨hN, rfl⟩ := h';rw [hAd.done hWla hWlb hle] at hN;refine za rfl (zz (kh30 ?_));refine zr (zr1 rfl rfl ?_);exact ⟨hN, hch⟩

end

/- Ratios: their digits, and that a sticky bit rounds them. No condition. -/
namespace Wd
set_option exponentiation.threshold 5000

def Few (c : Nat) : Prop := ∃ n x, c = n * 2 ^ x ∧ n ≤ 2 ^ 55
theorem few_twice (k : Nat) : Few (2 * nz k) := by
  obtain ⟨n, x, rfl, h1, h2⟩ := nz_split k
  rw [nz_form (by omega) h2]
  exact ⟨2 * n, x, by rw [Nat.mul_assoc], by omega⟩
theorem few_mid (k : Nat) : Few (nz k + nz (k + 1)) := by
  obtain ⟨n, x, rfl, h1, h2⟩ := nz_split k
  rw [nz_form (by omega) h2, nz_succ h1 h2]
  exact ⟨n + (n + 1), x, by rw [← Nat.add_mul], by omega⟩
theorem few_grid {c sz : Nat} {e : Int} (h : Few c) (hs : 2 ^ 60 ≤ sz) : c * dyB e < 2 * sz * 2 ^ (e + 1075).toNat ∨ ∃ t, c * dyB e = 2 * t * 2 ^ (e + 1075).toNat := by
  obtain ⟨n, x, rfl, hn⟩ := h
  unfold dyB
  by_cases he : e + 1075 ≤ 0
  · rw [show (e + 1075).toNat = 0 by omega]
    generalize (-(e + 1075)).toNat = h
    rw [Nat.mul_assoc, ← Nat.pow_add]
    by_cases hx : x + h = 0
    · rw [hx]; left; simp; omega
    · right
      refine ⟨n * 2 ^ (x + h - 1), ?_⟩
      obtain ⟨y, hy⟩ : ∃ y, x + h = y + 1 := ⟨x + h - 1, by omega⟩
      rw [hy, Nat.add_sub_cancel, Nat.pow_succ]
      simp only [Nat.pow_zero, Nat.mul_one]
      ac_rfl
  · rw [show (-(e + 1075)).toNat = 0 by omega]
    generalize (e + 1075).toNat = h
    rw [Nat.pow_zero, Nat.mul_one]
    by_cases hx : h + 1 ≤ x
    · right
      obtain ⟨y, rfl⟩ : ∃ y, x = y + 1 + h := ⟨x - 1 - h, by omega⟩
      refine ⟨n * 2 ^ y, ?_⟩
      rw [Nat.pow_add, Nat.pow_succ]
      ac_rfl
    · left
      have h1 : 2 ^ x ≤ 2 ^ h := Nat.pow_le_pow_right (by decide) (by omega)
      have h2 := Nat.two_pow_pos h
      calc n * 2 ^ x ≤ 2 ^ 55 * 2 ^ h := Nat.mul_le_mul hn h1
        _ < 2 * sz * 2 ^ h := Nat.mul_lt_mul_of_pos_right (by omega) h2
theorem sticky_cmp {c sz rem q s : Nat} {e : Int} (h : Few c) (hs : 2 ^ 60 ≤ sz) (hr : rem < q) (hst : s = if rem = 0 then 0 else 1) :
    (c * (q * dyB e) ≤ dyA (2 * (sz * q + rem)) e ↔ c * dyB e ≤ dyA (2 * sz + s) e) ∧ (dyA (2 * (sz * q + rem)) e ≤ c * (q * dyB e) ↔ dyA (2 * sz + s) e ≤ c * dyB e) := by
  have hg := few_grid (e := e) h hs
  have hH := Nat.two_pow_pos (e + 1075).toNat
  unfold dyA
  have e1 : c * (q * dyB e) = c * dyB e * q := by ac_rfl
  rw [e1]
  generalize c * dyB e = X at hg ⊢
  generalize 2 ^ (e + 1075).toNat = H at hg hH ⊢
  rcases hg with hg | ⟨t, rfl⟩
  · have h1 : X * q < 2 * sz * H * q := Nat.mul_lt_mul_of_pos_right hg (by omega)
    have h2 : 2 * (sz * q + rem) * H = 2 * sz * H * q + 2 * rem * H := by
      rw [Nat.mul_add, Nat.add_mul]; congr 1; ac_rfl
    have h3 : (2 * sz + s) * H = 2 * sz * H + s * H := Nat.add_mul ..
    rw [h2, h3]
    constructor <;> constructor <;> intro h <;> omega
  · have key : ∀ a b : Nat, (2 * a * H ≤ 2 * b * H ↔ a ≤ b) := fun a b => by
      constructor
      · intro h
        have := Nat.le_of_mul_le_mul_right h hH
        omega
      · intro h; exact Nat.mul_le_mul_right _ (by omega)
    have e2 : 2 * t * H * q = 2 * (t * q) * H := by ac_rfl
    rw [e2, key, key]
    have h4 : t * q ≤ sz * q + rem ↔ t ≤ sz := by
      constructor
      · intro h
        apply Nat.le_of_not_lt
        intro hlt
        have := Nat.mul_le_mul_right q (show sz + 1 ≤ t from hlt)
        rw [Nat.add_mul, Nat.one_mul] at this
        omega
      · intro h
        have := Nat.mul_le_mul_right q h
        omega
    have h5 : sz * q + rem ≤ t * q ↔ (sz < t ∨ (sz = t ∧ rem = 0)) := by
      constructor
      · intro h
        rcases Nat.lt_trichotomy sz t with h6 | h6 | h6
        · exact .inl h6
        · subst h6; exact .inr ⟨rfl, by omega⟩
        · have := Nat.mul_le_mul_right q (show t + 1 ≤ sz from h6)
          rw [Nat.add_mul, Nat.one_mul] at this
          omega
      · rintro (h6 | ⟨rfl, h6⟩)
        · have := Nat.mul_le_mul_right q (show sz + 1 ≤ t from h6)
          rw [Nat.add_mul, Nat.one_mul] at this
          omega
        · omega
    rw [h4, h5]
    have h6 : 2 * t * H ≤ (2 * sz + s) * H ↔ 2 * t ≤ 2 * sz + s := ⟨fun h => Nat.le_of_mul_le_mul_right h hH, fun h => Nat.mul_le_mul_right _ h⟩
    have h7 : (2 * sz + s) * H ≤ 2 * t * H ↔ 2 * sz + s ≤ 2 * t := ⟨fun h => Nat.le_of_mul_le_mul_right h hH, fun h => Nat.mul_le_mul_right _ h⟩
    rw [h6, h7, hst]
    split <;> omega
theorem IsNear.alike {A B A' B' : Nat} {neg : Bool} {mode : Int} {r : Nat} (cmp : ∀ c, Few c → (c * B ≤ A ↔ c * B' ≤ A') ∧ (A ≤ c * B ↔ A' ≤ c * B')) (h : IsNear A B neg mode r) : IsNear A' B' neg mode r := by
  obtain ⟨k, h1, h2, h3, rfl⟩ := h
  have c1 := cmp _ (few_twice k)
  have c2 := cmp _ (few_twice (k + 1))
  have c3 := cmp _ (few_mid k)
  have q1 : 2 * nz k * B = A ↔ 2 * nz k * B' = A' := by omega
  have u : upM mode neg k A ((nz k + nz (k + 1)) * B) = upM mode neg k A' ((nz k + nz (k + 1)) * B') := by
    unfold upM
    generalize (nz k + nz (k + 1)) * B = M at *
    generalize (nz k + nz (k + 1)) * B' = M' at *
    have d1 : decide (M < A) = decide (M' < A') := decide_eq_decide.2 (by omega)
    have d2 : decide (M = A) = decide (M' = A') := decide_eq_decide.2 (by omega)
    have d3 : decide (M ≤ A) = decide (M' ≤ A') := decide_eq_decide.2 (by omega)
    rw [d1, d2, d3]
  refine ⟨k, h1, c1.1.1 h2, h3.imp (fun h => by omega) id, ?_⟩
  rw [u]
  by_cases hq : 2 * nz k * B = A
  · rw [if_pos hq, if_pos (q1.1 hq)]
  · rw [if_neg hq, if_neg (fun hh => hq (q1.2 hh))]
theorem near_sticky {sz rem q : Nat} {e : Int} {neg : Bool} {mode : Int} {r : Nat} (hs : 2 ^ 60 ≤ sz) (hr : rem < q) (h : IsNear (dyA (2 * sz + if rem = 0 then 0 else 1) e) (dyB e) neg mode r) :
    IsNear (dyA (2 * (sz * q + rem)) e) (q * dyB e) neg mode r :=
  h.alike fun c hc => by
    have := sticky_cmp (c := c) (e := e) hc hs hr rfl
    exact ⟨this.1.symm, this.2.symm⟩
theorem near_great {A B : Nat} {neg : Bool} {mode : Int} (hB : 0 < B) (hA : 2 * nz 9218868437227405312 * B ≤ A) (hm : 0 ≤ mode ∧ mode ≤ 4) :
    IsNear A B neg mode (if mode = 1 ∨ (mode = 2 ∧ neg = true) ∨ (mode = 3 ∧ neg = false) then 9218868437227405311 else 9218868437227405312) := by
  have hk : 9218868437227405311 + 1 = 9218868437227405312 := by omega
  have hlt : nz 9218868437227405311 < nz 9218868437227405312 := nz_mono (by omega)
  have h1 : 2 * nz 9218868437227405311 * B < A := Nat.lt_of_lt_of_le (Nat.mul_lt_mul_of_pos_right (by omega) hB) hA
  have h2 : (nz 9218868437227405311 + nz (9218868437227405311 + 1)) * B < A := Nat.lt_of_lt_of_le (Nat.mul_lt_mul_of_pos_right (by rw [hk]; omega) hB) hA
  refine ⟨9218868437227405311, by omega, Nat.le_of_lt h1, .inr hk, ?_⟩
  rw [if_neg (Nat.ne_of_lt h1)]
  generalize (nz 9218868437227405311 + nz (9218868437227405311 + 1)) * B = M at *
  unfold upM
  rcases (by omega : mode = 0 ∨ mode = 1 ∨ mode = 2 ∨ mode = 3 ∨ mode = 4) with rfl | rfl | rfl | rfl | rfl
  · simp [h2]
  · simp
  · cases neg <;> simp
  · cases neg <;> simp
  · simp [Nat.le_of_lt h2]
theorem near_tiny {A B A' B' : Nat} {neg : Bool} {mode : Int} {r : Nat} (hA : 0 < A) (h : A < B) (hA' : 0 < A') (h' : A' < B') (hn : IsNear A B neg mode r) : IsNear A' B' neg mode r := by
  have key : ∀ {A B : Nat}, 0 < A → A < B → IsNear A B neg mode (if mode = 2 ∧ neg = false ∨ mode = 3 ∧ neg = true then 1 else 0) := by
    intro A B hA h
    have z0 : nz 0 = 0 := by decide
    have z1 : nz (0 + 1) = 1 := by decide
    refine ⟨0, by omega, by rw [z0]; omega, .inl (by rw [z1]; omega), ?_⟩
    rw [z0, z1, if_neg (show ¬ 2 * 0 * B = A by omega)]
    unfold upM
    by_cases m0 : mode = 0
    · subst m0; simp; omega
    by_cases m2 : mode = 2
    · subst m2; cases neg <;> simp
    by_cases m3 : mode = 3
    · subst m3; cases neg <;> simp
    by_cases m4 : mode = 4
    · subst m4; simp; omega
    · rw [if_neg m0, if_neg m2, if_neg m3, if_neg m4, if_neg (by omega)]; simp
  rw [hn.unique (by omega) (key hA h)]
  exact key hA' h'
theorem nz_end : 2 * nz 9218868437227405312 = 2 ^ 2099 := by
  have := nz_form (n := 4503599627370496) (x := 2046) (by omega) (.inr (by omega))
  rw [show 4503599627370496 + 2046 * 4503599627370496 = 9218868437227405312 by omega] at this
  rw [this, show (4503599627370496 : Nat) = 2 ^ 52 by decide, ← Nat.pow_add, ← Nat.pow_succ']
structure DigI (A0 B i size a : Nat) : Prop where
  z : i = 0 → size = 0 ∧ a = A0
  s : 0 < i → A0 * 2 ^ (i - 1) = size * B + a ∧ a < B
  w : size < 2 ^ i
theorem DigI.zero (A0 B : Nat) : DigI A0 B 0 0 A0 := ⟨fun _ => ⟨rfl, rfl⟩, fun h => absurd h (by omega), by simp⟩
theorem DigI.step {A0 B i size a a' : Nat} (h : DigI A0 B i size a) (h2 : A0 < 2 * B) (ha : a' = if 0 < i then a * 2 ^ 1 else a) : (B ≤ a' → DigI A0 B (i + 1) (size * 2 ^ 1 + 1) (a' - B)) ∧ (a' < B → DigI A0 B (i + 1) (size * 2 ^ 1) a') := by
  obtain ⟨hz, hs, hw⟩ := h
  have hlin : A0 * 2 ^ (i + 1 - 1) = size * 2 ^ 1 * B + a' ∧ a' < 2 * B := by
    by_cases h0 : i = 0
    · subst h0
      obtain ⟨rfl, rfl⟩ := hz rfl
      rw [if_neg (by omega)] at ha
      subst ha
      simp
      omega
    · obtain ⟨h3, h4⟩ := hs (by omega)
      rw [if_pos (by omega)] at ha
      obtain ⟨j, rfl⟩ : ∃ j, i = j + 1 := ⟨i - 1, by omega⟩
      simp only [Nat.add_sub_cancel] at h3 ⊢
      rw [Nat.pow_succ, ← Nat.mul_assoc, h3, ha, Nat.add_mul]
      refine ⟨by simp only [Nat.pow_one]; rw [Nat.mul_right_comm], by omega⟩
  have hp : 2 ^ (i + 1) = 2 ^ i * 2 := Nat.pow_succ ..
  refine ⟨fun hb => ⟨fun h => by omega, fun _ => ⟨?_, by omega⟩, by omega⟩, fun hb => ⟨fun h => by omega, fun _ => ⟨hlin.1, hb⟩, by omega⟩⟩
  rw [hlin.1, Nat.add_mul, Nat.one_mul]
  omega
theorem digits_low {m q : Nat} (hm : m ≠ 0) (hq : q ≠ 0) {by_ : Int} (hb : by_ = (bl m : Int) - (bl q : Int)) :
    m * 2 ^ (max 0 (-by_)).toNat < 2 * (q * 2 ^ (max 0 by_).toNat) ∧ q * 2 ^ (max 0 by_).toNat < 2 * (m * 2 ^ (max 0 (-by_)).toNat) := by
  have h1 := bl_mul_pow hm (max 0 (-by_)).toNat
  have h2 := bl_mul_pow hq (max 0 by_).toNat
  have h3 : bl (m * 2 ^ (max 0 (-by_)).toNat) = bl (q * 2 ^ (max 0 by_).toNat) := by
    rw [h1, h2]
    have := bl_pos hm; have := bl_pos hq
    omega
  have n1 : m * 2 ^ (max 0 (-by_)).toNat ≠ 0 := Nat.pos_iff_ne_zero.1 (Nat.mul_pos (by omega) (Nat.two_pow_pos _))
  have n2 : q * 2 ^ (max 0 by_).toNat ≠ 0 := Nat.pos_iff_ne_zero.1 (Nat.mul_pos (by omega) (Nat.two_pow_pos _))
  generalize m * 2 ^ (max 0 (-by_)).toNat = x at *
  generalize q * 2 ^ (max 0 by_).toNat = y at *
  have l1 := bl_low n1
  have l2 := bl_low n2
  have u1 := bl_lt x
  have u2 := bl_lt y
  have p1 := bl_pos n1
  rw [← h3] at u2 l2
  have : 2 ^ bl x = 2 ^ (bl x - 1) * 2 := by rw [← Nat.pow_succ]; congr 1; omega
  omega
theorem toNat_max_sub (b : Int) : ((max 0 b).toNat : Int) - ((max 0 (-b)).toNat : Int) = b := by omega
theorem dig_size {A0 B i size a : Nat} (h : DigI A0 B i size a) (hi : 2 ≤ i) (hl : B < 2 * A0) : 2 ^ (i - 2) ≤ size := by
  obtain ⟨h3, h4⟩ := h.s (by omega)
  apply Nat.le_of_not_lt
  intro hlt
  obtain ⟨j, rfl⟩ : ∃ j, i = j + 2 := ⟨i - 2, by omega⟩
  simp only [Nat.add_sub_cancel] at hlt
  rw [show j + 2 - 1 = j + 1 by omega, Nat.pow_succ] at h3
  have h5 : (size + 1) * B ≤ 2 ^ j * B := Nat.mul_le_mul_right _ hlt
  rw [Nat.add_mul, Nat.one_mul] at h5
  have h6 : B * 2 ^ j < 2 * A0 * 2 ^ j := Nat.mul_lt_mul_of_pos_right hl (Nat.two_pow_pos j)
  have h7 : A0 * (2 ^ j * 2) = 2 * A0 * 2 ^ j := by ac_rfl
  have h8 : 2 ^ j * B = B * 2 ^ j := Nat.mul_comm ..
  omega
theorem near_quot {m q size a : Nat} {E by_ e : Int} {neg : Bool} {mode : Int} {r : Nat} (hm : m ≠ 0) (hq : q ≠ 0) (hb : by_ = (bl m : Int) - (bl q : Int)) (hmode : 0 ≤ mode ∧ mode ≤ 4)
    (hd : DigI (m * 2 ^ (max 0 (-by_)).toNat) (q * 2 ^ (max 0 by_).toNat) 82 size a) (he : e = max (-3000) (min 3000 (by_ - 81 + E - 1)))
    (h : IsNear (dyA (2 * size + if a = 0 then 0 else 1) e) (dyB e) neg mode r) : IsNear (dyA m E) (q * dyB E) neg mode r := by
  obtain ⟨l1, l2⟩ := digits_low hm hq hb
  have hsz := dig_size hd (by omega) l2
  have hw := hd.w
  obtain ⟨h3, h4⟩ := hd.s (by omega)
  have hts := toNat_max_sub by_
  generalize hx : (max 0 (-by_)).toNat = x at *
  generalize hy : (max 0 by_).toNat = y at *
  rw [show 82 - 1 = 81 by omega] at h3
  have hqp : 0 < q := by omega
  -- the ratio, by its digits
  obtain ⟨e0, he0⟩ : ∃ e0 : Int, e0 = by_ - 81 + E - 1 := ⟨_, rfl⟩
  have hval : dyA m E * (q * 2 ^ y * dyB e0) = dyA (2 * (size * (q * 2 ^ y) + a)) e0 * (q * dyB E) := by
    rw [← h3]
    unfold dyA dyB
    have hexp : y + (E + 1075).toNat + (-(e0 + 1075)).toNat = x + 82 + (e0 + 1075).toNat + (-(E + 1075)).toNat := by omega
    calc m * 2 ^ (E + 1075).toNat * (q * 2 ^ y * 2 ^ (-(e0 + 1075)).toNat) = m * q * (2 ^ y * 2 ^ (E + 1075).toNat * 2 ^ (-(e0 + 1075)).toNat) := by ac_rfl
      _ = m * q * (2 ^ x * 2 ^ 82 * 2 ^ (e0 + 1075).toNat * 2 ^ (-(E + 1075)).toNat) := by rw [← Nat.pow_add, ← Nat.pow_add, hexp, Nat.pow_add, Nat.pow_add, Nat.pow_add]
      _ = _ := by rw [show (2 : Nat) ^ 82 = 2 * 2 ^ 81 by rw [← Nat.pow_succ']]; ac_rfl
  have hB0 : 0 < q * 2 ^ y * dyB e0 := Nat.mul_pos (Nat.mul_pos hqp (Nat.two_pow_pos _)) (dyB_pos _)
  have hBE : 0 < q * dyB E := Nat.mul_pos hqp (dyB_pos _)
  by_cases c1 : e = e0
  · subst c1
    have h5 := near_sticky (q := q * 2 ^ y) (rem := a) (Nat.le_trans (Nat.pow_le_pow_right (by decide) (by decide)) hsz) h4 h
    exact h5.congr hB0 hBE hval.symm
  by_cases c2 : 3000 < e0
  · -- too great, both
    have e3 : e = 3000 := by omega
    subst e3
    have hbig : ∀ {M : Nat}, 2 ^ 80 ≤ M → 2 * nz 9218868437227405312 * dyB 3000 ≤ dyA M 3000 := by
      intro M hM
      rw [nz_end]
      unfold dyA dyB
      rw [show ((3000 : Int) + 1075).toNat = 4075 by decide, show (-((3000 : Int) + 1075)).toNat = 0 by decide, Nat.pow_zero, Nat.mul_one]
      exact Nat.le_trans (Nat.pow_le_pow_right (by decide) (by omega : 2099 ≤ 80 + 4075)) (by rw [Nat.pow_add]; exact Nat.mul_le_mul_right _ hM)
    have h5 := near_great (neg := neg) (dyB_pos 3000) (hbig (M := 2 * size + if a = 0 then 0 else 1) (by omega)) hmode
    rw [h.unique (dyB_pos _) h5]
    refine near_great hBE ?_ hmode
    -- the ratio itself
    have h6 : 2 * nz 9218868437227405312 * (q * 2 ^ y * dyB e0) ≤ dyA (2 * (size * (q * 2 ^ y) + a)) e0 := by
      rw [nz_end]
      unfold dyA dyB
      rw [show (-(e0 + 1075)).toNat = 0 by omega, Nat.pow_zero, Nat.mul_one]
      have h7 : 2 ^ 2099 ≤ 2 * 2 ^ 80 * 2 ^ (e0 + 1075).toNat := by
        rw [← Nat.pow_succ', ← Nat.pow_add]; exact Nat.pow_le_pow_right (by decide) (by omega)
      calc 2 ^ 2099 * (q * 2 ^ y) ≤ 2 * 2 ^ 80 * 2 ^ (e0 + 1075).toNat * (q * 2 ^ y) := Nat.mul_le_mul_right _ h7
        _ = 2 * (2 ^ 80 * (q * 2 ^ y)) * 2 ^ (e0 + 1075).toNat := by ac_rfl
        _ ≤ 2 * (size * (q * 2 ^ y) + a) * 2 ^ (e0 + 1075).toNat := by
          refine Nat.mul_le_mul_right _ (Nat.mul_le_mul_left _ ?_)
          exact Nat.le_trans (Nat.mul_le_mul_right _ hsz) (Nat.le_add_right _ _)
    have h8 := Nat.mul_le_mul_right (q * dyB E) h6
    rw [← hval] at h8
    have h9 : 2 * nz 9218868437227405312 * (q * dyB E) * (q * 2 ^ y * dyB e0) ≤ dyA m E * (q * 2 ^ y * dyB e0) := by
      refine Nat.le_trans (Nat.le_of_eq ?_) h8
      ac_rfl
    exact Nat.le_of_mul_le_mul_right h9 hB0
  · -- tiny, both
    have e3 : e = -3000 := by omega
    subst e3
    have hb1 : (dyB (-3000)) = 2 ^ 1925 := by unfold dyB; rw [show (-((-3000 : Int) + 1075)).toNat = 1925 by decide]
    have ha1 : ∀ M, dyA M (-3000) = M := fun M => by unfold dyA; rw [show ((-3000 : Int) + 1075).toNat = 0 by decide]; simp
    rw [ha1] at h
    have hlt : 2 * size + (if a = 0 then 0 else 1) < 2 ^ 84 := by split <;> omega
    refine near_tiny (by omega) (Nat.lt_of_lt_of_le hlt (by rw [hb1]; exact Nat.pow_le_pow_right (by decide) (by decide))) (Nat.mul_pos (by omega) (Nat.two_pow_pos _)) ?_ h
    have h6 : dyA (2 * (size * (q * 2 ^ y) + a)) e0 < q * 2 ^ y * dyB e0 := by
      unfold dyA dyB
      rw [show (e0 + 1075).toNat = 0 by omega, Nat.pow_zero, Nat.mul_one]
      have h7 : 2 ^ 84 ≤ 2 ^ (-(e0 + 1075)).toNat := Nat.pow_le_pow_right (by decide) (by omega)
      have hQ : 0 < q * 2 ^ y := Nat.mul_pos hqp (Nat.two_pow_pos _)
      generalize q * 2 ^ y = Q at *
      have h8 : (size + 1) * Q ≤ 2 ^ 82 * Q := Nat.mul_le_mul_right _ hw
      rw [Nat.add_mul, Nat.one_mul] at h8
      have h9 : Q * 2 ^ 84 ≤ Q * 2 ^ (-(e0 + 1075)).toNat := Nat.mul_le_mul_left _ h7
      have h10 : Q * 2 ^ 84 = 4 * (2 ^ 82 * Q) := by rw [show (2 : Nat) ^ 84 = 4 * 2 ^ 82 by rw [show (4 : Nat) = 2 ^ 2 from rfl, ← Nat.pow_add]]; ac_rfl
      omega
    have h8 := Nat.mul_lt_mul_of_pos_right h6 hBE
    rw [← hval] at h8
    have h9 : dyA m E * (q * 2 ^ y * dyB e0) < q * dyB E * (q * 2 ^ y * dyB e0) := by
      refine Nat.lt_of_lt_of_eq h8 ?_
      ac_rfl
    exact Nat.lt_of_mul_lt_mul_right h9
end Wd

/- Whole numbers in words of 64 bits: two's complement. No condition. -/
section
open Wd
set_option exponentiation.threshold 5000

def tv : List Nat → Nat
  | [] => 0
  | a :: l => a + 18446744073709551616 * tv l
def W64 (l : List Nat) : Prop := ∀ x ∈ l, x < 18446744073709551616
theorem W64.getD {l : List Nat} (h : W64 l) (i : Nat) : l.getD i 0 < 18446744073709551616 := by
  rw [List.getD_eq_getElem?_getD]
  cases q : l[i]? with
  | none => simp
  | some x => exact h x (List.mem_of_getElem? q)
theorem W64.set {l : List Nat} (h : W64 l) {i v : Nat} (hv : v < 18446744073709551616) : W64 (l.set i v) := fun x hx => by
  rcases List.mem_or_eq_of_mem_set hx with q | q
  · exact h x q
  · exact q ▸ hv
theorem tv_set : ∀ {l : List Nat} {i v : Nat}, i < l.length → tv (l.set i v) + l.getD i 0 * 18446744073709551616 ^ i = tv l + v * 18446744073709551616 ^ i
  | a :: l, 0, v, h => by simp [tv]; omega
  | a :: l, i + 1, v, h => by
    have := tv_set (l := l) (i := i) (v := v) (by simpa using h)
    simp only [List.set_cons_succ, tv, List.getD_cons_succ, Nat.pow_succ]
    generalize 18446744073709551616 ^ i = B at this ⊢
    rw [show l.getD i 0 * (B * 18446744073709551616) = 18446744073709551616 * (l.getD i 0 * B) by ac_rfl, show v * (B * 18446744073709551616) = 18446744073709551616 * (v * B) by ac_rfl]
    omega
theorem tv_lt : ∀ {l : List Nat}, W64 l → tv l < 18446744073709551616 ^ l.length
  | [], h => by simp [tv]
  | a :: l, h => by
    have h1 := tv_lt (l := l) (fun x hx => h x (List.mem_cons_of_mem _ hx))
    have h2 := h a (List.mem_cons_self ..)
    simp only [tv, List.length_cons, Nat.pow_succ]
    generalize 18446744073709551616 ^ l.length = B at h1 ⊢
    omega
theorem tv_append (a b : List Nat) : tv (a ++ b) = tv a + 18446744073709551616 ^ a.length * tv b := by
  induction a with
  | nil => simp [tv]
  | cons x a ih =>
    simp only [List.cons_append, tv, ih, List.length_cons, Nat.pow_succ]
    rw [Nat.mul_add, Nat.add_assoc]
    congr 2
    ac_rfl
theorem tv_take {l : List Nat} {i : Nat} (h : i < l.length) : tv (l.take (i + 1)) = tv (l.take i) + l.getD i 0 * 18446744073709551616 ^ i := by
  have : l.take (i + 1) = l.take i ++ [l.getD i 0] := by
    rw [List.take_add_one, List.getD_eq_getElem?_getD, List.getElem?_eq_getElem h]; rfl
  rw [this, tv_append, List.length_take, Nat.min_eq_left (by omega)]
  simp [tv, Nat.mul_comm]
theorem tv_zero (n : Nat) : tv (List.replicate n 0) = 0 := by
  induction n with
  | zero => rfl
  | succ n ih => simp [List.replicate_succ, tv, ih]

/-! ### Adding and taking a term -/
def trm (W : List Nat) (at_ : Nat) : Nat → Nat
  | 0 => 0
  | k + 1 => trm W at_ k + W.getD k 0 * 18446744073709551616 ^ (at_ + k)
theorem trm3 {W : List Nat} {at_ : Nat} (h : W.length = 3) : ∀ k, trm W at_ (3 + k) = tv W * 18446744073709551616 ^ at_
  | 0 => by
    match W, h with
    | [a, b, c], _ =>
      simp only [trm, tv, List.getD_cons_zero, List.getD_cons_succ, Nat.pow_add]
      generalize 18446744073709551616 ^ at_ = B
      simp only [Nat.pow_zero, Nat.pow_one, Nat.add_zero, Nat.mul_zero, Nat.mul_one, Nat.zero_add]
      rw [Nat.add_mul, Nat.mul_add, Nat.add_mul]
      have e1 : b * (B * 18446744073709551616) = 18446744073709551616 * b * B := by ac_rfl
      have e2 : c * (B * 18446744073709551616 ^ 2) = 18446744073709551616 * (18446744073709551616 * c) * B := by
        rw [show (18446744073709551616 : Nat) ^ 2 = 18446744073709551616 * 18446744073709551616 from rfl]; ac_rfl
      rw [e1, e2]; omega
  | k + 1 => by
    rw [show 3 + (k + 1) = (3 + k) + 1 by omega, trm, trm3 h k]
    have : W.getD (3 + k) 0 = 0 := by rw [List.getD_eq_getElem?_getD, List.getElem?_eq_none (by omega)]; rfl
    rw [this]; omega
structure MvA (L W : List Nat) (at_ : Nat) (C : List Nat) (c i : Nat) : Prop where
  len : C.length = L.length
  w : W64 C
  lo : at_ ≤ i
  hi : i ≤ L.length
  c1 : c ≤ 1
  eq : tv C + c * 18446744073709551616 ^ i = tv L + trm W at_ (i - at_)
theorem MvA.zero {L W : List Nat} {at_ : Nat} (h : W64 L) (ha : at_ ≤ L.length) : MvA L W at_ L 0 at_ := ⟨rfl, h, Nat.le_refl _, ha, by omega, by rw [Nat.sub_self]; simp [trm]⟩
theorem MvA.step {L W C : List Nat} {at_ c i : Nat} (h : MvA L W at_ C c i) (hi : i < L.length) (hw : W.getD (i - at_) 0 < 18446744073709551616) :
    MvA L W at_ (C.set i ((C.getD i 0 + W.getD (i - at_) 0 + c) % 18446744073709551616)) ((C.getD i 0 + W.getD (i - at_) 0 + c) / 18446744073709551616) (i + 1) := by
  obtain ⟨h1, h2, h3, h4, h5, h6⟩ := h
  have hc := h2.getD i
  refine ⟨by simpa using h1, h2.set (Nat.mod_lt _ (by decide)), by omega, by omega, by omega, ?_⟩
  have hs := tv_set (l := C) (i := i) (v := (C.getD i 0 + W.getD (i - at_) 0 + c) % 18446744073709551616) (by omega)
  rw [show i + 1 - at_ = (i - at_) + 1 by omega, trm, show at_ + (i - at_) = i by omega, Nat.pow_succ]
  generalize C.getD i 0 = x at hs hc ⊢
  generalize W.getD (i - at_) 0 = y at hw hs ⊢
  have e : (x + y + c) / 18446744073709551616 * 18446744073709551616 + (x + y + c) % 18446744073709551616 = x + y + c := Nat.div_add_mod' _ _
  generalize (x + y + c) / 18446744073709551616 = q at e ⊢
  generalize (x + y + c) % 18446744073709551616 = r at e hs ⊢
  generalize trm W at_ (i - at_) = z at h6 ⊢
  generalize 18446744073709551616 ^ i = B at h6 hs ⊢
  have e2 : q * (B * 18446744073709551616) = q * 18446744073709551616 * B := by ac_rfl
  have e3 : (q * 18446744073709551616 + r) * B = (x + y + c) * B := by rw [e]
  rw [Nat.add_mul] at e3
  rw [Nat.add_mul, Nat.add_mul] at e3
  omega
structure MvS (L W : List Nat) (at_ : Nat) (C : List Nat) (c i : Nat) : Prop where
  len : C.length = L.length
  w : W64 C
  lo : at_ ≤ i
  hi : i ≤ L.length
  c1 : c ≤ 1
  eq : tv C + trm W at_ (i - at_) = tv L + c * 18446744073709551616 ^ i
theorem MvS.zero {L W : List Nat} {at_ : Nat} (h : W64 L) (ha : at_ ≤ L.length) : MvS L W at_ L 0 at_ := ⟨rfl, h, Nat.le_refl _, ha, by omega, by rw [Nat.sub_self]; simp [trm]⟩
theorem MvS.step {L W C : List Nat} {at_ c i : Nat} (h : MvS L W at_ C c i) (hi : i < L.length) (hw : W.getD (i - at_) 0 < 18446744073709551616) {d b : Nat} (hd : d < 18446744073709551616) (hb : b ≤ 1)
    (e : C.getD i 0 + b * 18446744073709551616 = d + W.getD (i - at_) 0 + c) : MvS L W at_ (C.set i d) b (i + 1) := by
  obtain ⟨h1, h2, h3, h4, h5, h6⟩ := h
  have hc := h2.getD i
  refine ⟨by simpa using h1, h2.set hd, by omega, by omega, hb, ?_⟩
  have hs := tv_set (l := C) (i := i) (v := d) (by omega)
  rw [show i + 1 - at_ = (i - at_) + 1 by omega, trm, show at_ + (i - at_) = i by omega, Nat.pow_succ]
  generalize C.getD i 0 = x at hs hc e ⊢
  generalize W.getD (i - at_) 0 = y at hw e ⊢
  generalize trm W at_ (i - at_) = z at h6 ⊢
  generalize 18446744073709551616 ^ i = B at h6 hs ⊢
  have e2 : b * (B * 18446744073709551616) = b * 18446744073709551616 * B := by ac_rfl
  have e3 : (x + b * 18446744073709551616) * B = (d + y + c) * B := by rw [e]
  rw [Nat.add_mul, Nat.add_mul, Nat.add_mul] at e3
  omega

def laidW (hi lo by_ : Nat) : List Nat := [lo * 2 ^ by_ % 18446744073709551616, (hi * 2 ^ by_ % 18446744073709551616) ||| (lo / 2 ^ (64 - by_)), hi / 2 ^ (64 - by_)]
theorem laid_or {hi lo k : Nat} (h : lo < 18446744073709551616) (hk : k < 64) : (hi * 2 ^ k % 18446744073709551616) ||| (lo / 2 ^ (64 - k)) = hi * 2 ^ k % 18446744073709551616 + lo / 2 ^ (64 - k) := by
  have e : (18446744073709551616 : Nat) = 2 ^ (64 - k) * 2 ^ k := by rw [← Nat.pow_add, show 64 - k + k = 64 by omega]
  have hp := Nat.two_pow_pos k
  have hq := Nat.two_pow_pos (64 - k)
  have h1 : hi * 2 ^ k % 18446744073709551616 = hi % 2 ^ (64 - k) * 2 ^ k := by rw [e, Nat.mul_mod_mul_right]
  have h2 : lo / 2 ^ (64 - k) < 2 ^ k := by
    rw [Nat.div_lt_iff_lt_mul hq, Nat.mul_comm, ← e]; exact h
  rw [h1, Nat.or_comm, or_of_mul h2, Nat.add_comm]
theorem laidW_val {hi lo k : Nat} (h : lo < 18446744073709551616) (hk : k < 64) : tv (laidW hi lo k) = (hi * 18446744073709551616 + lo) * 2 ^ k := by
  have e : (18446744073709551616 : Nat) = 2 ^ (64 - k) * 2 ^ k := by rw [← Nat.pow_add, show 64 - k + k = 64 by omega]
  simp only [laidW, tv, laid_or h hk]
  have h1 : hi * 2 ^ k % 18446744073709551616 + 18446744073709551616 * (hi / 2 ^ (64 - k)) = hi * 2 ^ k := by
    have h1 : hi * 2 ^ k % 18446744073709551616 = hi % 2 ^ (64 - k) * 2 ^ k := by rw [e, Nat.mul_mod_mul_right]
    have := Nat.mod_add_div hi (2 ^ (64 - k))
    rw [h1]
    calc _ = (hi % 2 ^ (64 - k) + 2 ^ (64 - k) * (hi / 2 ^ (64 - k))) * 2 ^ k := by rw [Nat.add_mul]; congr 1; rw [e]; ac_rfl
      _ = _ := by rw [this]
  have h2 : lo * 2 ^ k % 18446744073709551616 + 18446744073709551616 * (lo / 2 ^ (64 - k)) = lo * 2 ^ k := by
    have h1 : lo * 2 ^ k % 18446744073709551616 = lo % 2 ^ (64 - k) * 2 ^ k := by rw [e, Nat.mul_mod_mul_right]
    have := Nat.mod_add_div lo (2 ^ (64 - k))
    rw [h1]
    calc _ = (lo % 2 ^ (64 - k) + 2 ^ (64 - k) * (lo / 2 ^ (64 - k))) * 2 ^ k := by rw [Nat.add_mul]; congr 1; rw [e]; ac_rfl
      _ = _ := by rw [this]
  rw [Nat.add_mul]
  generalize hi / 2 ^ (64 - k) = p at h1 ⊢
  generalize lo / 2 ^ (64 - k) = q at h2 ⊢
  generalize lo * 2 ^ k % 18446744073709551616 = r at h2 ⊢
  generalize hi * 2 ^ k % 18446744073709551616 = t at h1 ⊢
  rw [show hi * 18446744073709551616 * 2 ^ k = 18446744073709551616 * (hi * 2 ^ k) by ac_rfl]
  generalize hi * 2 ^ k = a at h1 ⊢
  generalize lo * 2 ^ k = b at h2 ⊢
  omega
theorem laidW_w {hi lo k : Nat} (h : lo < 18446744073709551616) (h2 : hi < 18446744073709551616) (hk : k < 64) : W64 (laidW hi lo k) := by
  intro x hx
  simp only [laidW, List.mem_cons, List.not_mem_nil, or_false] at hx
  rcases hx with q | q | q
  · rw [q]; exact Nat.mod_lt _ (by decide)
  · rw [q]
    exact Nat.or_lt_two_pow (n := 64) (Nat.mod_lt _ (by decide)) (Nat.lt_of_le_of_lt (Nat.div_le_self _ _) h)
  · rw [q]; exact Nat.lt_of_le_of_lt (Nat.div_le_self _ _) h2

/-! ### Turning the sign -/
structure MinI (L C : List Nat) (c i : Nat) : Prop where
  len : C.length = L.length
  w : W64 C
  hi : i ≤ L.length
  c1 : c ≤ 1
  same : ∀ j, i ≤ j → C.getD j 0 = L.getD j 0
  eq : tv C + c * 18446744073709551616 ^ i + 2 * tv (L.take i) = tv L + 18446744073709551616 ^ i
theorem MinI.zero {L : List Nat} (h : W64 L) : MinI L L 1 0 := ⟨rfl, h, Nat.zero_le _, by omega, fun _ _ => rfl, by simp [tv]⟩
theorem min_lin {a r x y c : Nat} (e : a + r = y + 0 + c) (hy : y + x = 18446744073709551615) : a + r + x + 1 = 18446744073709551616 + c := by
  rw [e]
  omega
theorem MinI.step {L C : List Nat} {c i y : Nat} (h : MinI L C c i) (hi : i < L.length) (hy : y + C.getD i 0 = 18446744073709551615) :
    MinI L (C.set i ((y + 0 + c) % 18446744073709551616)) ((y + 0 + c) / 18446744073709551616) (i + 1) := by
  obtain ⟨h1, h2, h3, h4, h5, h6⟩ := h
  have hc := h2.getD i
  refine ⟨by simpa using h1, h2.set (Nat.mod_lt _ (by decide)), by omega, by omega, fun j hj => ?_, ?_⟩
  · rw [← h5 j (by omega)]; simp only [List.getD_eq_getElem?_getD, List.getElem?_set_ne (show i ≠ j by omega)]
  have hs := tv_set (l := C) (i := i) (v := (y + 0 + c) % 18446744073709551616) (by omega)
  rw [tv_take hi, ← h5 i (Nat.le_refl _), Nat.pow_succ]
  generalize C.getD i 0 = x at hs hc hy ⊢
  have e : (y + 0 + c) / 18446744073709551616 * 18446744073709551616 + (y + 0 + c) % 18446744073709551616 = y + 0 + c := Nat.div_add_mod' _ _
  generalize (y + 0 + c) / 18446744073709551616 = q at e ⊢
  generalize (y + 0 + c) % 18446744073709551616 = r at e hs ⊢
  generalize tv (L.take i) = z at h6 ⊢
  generalize 18446744073709551616 ^ i = B at h6 hs ⊢
  have e2 : q * (B * 18446744073709551616) = q * 18446744073709551616 * B := by ac_rfl
  have e4 : q * 18446744073709551616 + r + x + 1 = 18446744073709551616 + c := min_lin e hy
  have e3 : (q * 18446744073709551616 + r + x + 1) * B = (18446744073709551616 + c) * B := congrArg (fun t => t * B) e4
  have e5 : (q * 18446744073709551616 + r + x + 1) * B = q * 18446744073709551616 * B + r * B + x * B + B := by simp only [Nat.add_mul, Nat.one_mul]
  have e6 : (18446744073709551616 + c) * B = 18446744073709551616 * B + c * B := Nat.add_mul _ _ _
  omega
theorem MinI.done {L C : List Nat} {c : Nat} (h : MinI L C c L.length) (hL : W64 L) : tv C = (18446744073709551616 ^ L.length - tv L) % 18446744073709551616 ^ L.length := by
  obtain ⟨h1, h2, h3, h4, h5, h6⟩ := h
  rw [List.take_length] at h6
  have hl := tv_lt hL
  have hc := tv_lt h2
  rw [h1] at hc
  generalize 18446744073709551616 ^ L.length = B at h6 hl hc ⊢
  rcases (show c = 0 ∨ c = 1 by omega) with q | q
  · subst q
    rw [Nat.mod_eq_of_lt (by omega)]; omega
  · subst q
    have : tv L = 0 := by omega
    rw [this, Nat.sub_zero, Nat.mod_self]; omega
end

/- Package super: New, laid, one. No condition. -/
section
open Go Sx Wd
set_option exponentiation.threshold 5000

theorem splitP_fin {x : Nat} (h : (splitP x).cls = 1 ∨ (splitP x).cls = 2) : -1074 ≤ (splitP x).exp ∧ (splitP x).exp ≤ 971 ∧ 0 < (splitP x).frac ∧ (splitP x).frac < 9007199254740992 := by
  revert h
  unfold splitP
  split
  · intro h; simp at h
  split
  · intro h; simp at h
  split
  · intro h; dsimp only; omega
  split
  · intro h; dsimp only; omega
  · intro h; simp at h
theorem splitP_cls (x : Nat) : (splitP x).cls ≤ 4 := by
  unfold splitP
  split
  · simp
  split
  · simp
  split
  · simp
  split <;> simp
def termV (neg : Bool) (at_ : Nat) (W : List Nat) : List Value := .bool neg :: .int .i64 (at_ : Int) :: W.map u64v
structure TH where
  cls : Nat
  neg : Bool
  tn : Bool
  at_ : Nat
  W : List Nat
def thingV (t : TH) : List Value := .int .i64 (t.cls : Int) :: .bool t.neg :: termV t.tn t.at_ t.W
def oneP (x : Nat) : TH :=
  if (splitP x).cls = 1 ∨ (splitP x).cls = 2 then ⟨(splitP x).cls, (splitP x).neg, (splitP x).neg, ((splitP x).exp + 2148).toNat / 64, laidW 0 (splitP x).frac (((splitP x).exp + 2148).toNat % 64)⟩
  else ⟨(splitP x).cls, (splitP x).neg, false, 0, [0, 0, 0]⟩

theorem laid_spec (neg : Bool) (hi lo e : Nat) (exp : Int) (w : World) (he : exp = (e : Int) - 2148) (he2 : e < 9000) (hhi : hi < 18446744073709551616) (hlo : lo < 18446744073709551616) : Ret Tryz.prog 275 [.bool neg, .int .u64 (hi : Int), .int .u64 (lo : Int), .int .i64 exp] w fun u w' => u = .agg (termV neg (e / 64) (laidW hi lo (e % 64))).toArray ∧ Chg [] w w' := by
 have hA : hi * 2 ^ (e % 64) % 18446744073709551616 < 2 ^ IntKind.u64.bits := Nat.mod_lt _ (by decide);have hB : lo / 2 ^ (64 - e % 64) < 2 ^ IntKind.u64.bits := Nat.lt_of_le_of_lt (Nat.div_le_self _ _) hlo;have hch := crf w;refine zE4 Tryz.func275 rfl ?_;refine Sr fun _ kh1 => ?_;refine WL.allocB (l := [.bool false, .int .i64 0, .int .u64 0, .int .u64 0, .int .u64 0]) rfl rfl fun b8 wm8 hb8 hcm8 hge8 => ?_;have hgehch8 := Nat.le_trans hch.size hge8;have hch := hch.ta hcm8;refine zz (kh1 (Sr fun _ kh3 => zm rfl ?_));refine WL.ev (Ev.subIn rfl rfl (by omega)) rfl ?_;rw [show exp - -2148 = (e : Int) by omega];refine WL.ev (Ev.convIn rfl rfl (in_u64 (by omega))) rfl ?_;refine WL.ev (Ev.remU (b := 64) rfl rfl (by omega)) rfl ?_;refine za rfl (zz (kh3 (Sr fun _ kh5 => zm rfl (zm rfl ?_))));refine WL.ev (Ev.subIn rfl rfl (by omega)) rfl ?_;rw [show exp - -2148 = (e : Int) by omega]
 first | refine WL.ev (Ev.quoIn rfl rfl (by omega) (by simp only [IntKind.max, IntKind.signed, IntKind.bits]; omega) (by omega)) rfl ?_ | refine WL.ev (Ev.quo rfl rfl (by omega)) rfl ?_
 refine zm rfl (zm rfl ?_);refine WL.ev (Ev.shlU64 rfl rfl) rfl ?_;refine zm rfl (zm rfl ?_);refine WL.ev (Ev.shlU64 rfl rfl) rfl ?_;refine zm rfl (zm rfl ?_)
 first | refine WL.ev (Ev.sub64In (a := 64) rfl rfl (by omega) (by omega)) rfl ?_ | refine WL.ev (Ev.sub64 (a := 64) rfl rfl (by omega)) rfl ?_
 refine WL.ev (Ev.shrU rfl rfl (by simp only [IntKind.bits]; omega)) rfl ?_;refine WL.ev (Ev.orU rfl rfl rfl hA hB) rfl ?_;refine zm rfl (zm rfl ?_)
 first | refine WL.ev (Ev.sub64In (a := 64) rfl rfl (by omega) (by omega)) rfl ?_ | refine WL.ev (Ev.sub64 (a := 64) rfl rfl (by omega)) rfl ?_
 refine WL.ev (Ev.shrU rfl rfl (by simp only [IntKind.bits]; omega)) rfl ?_;refine WL.ev (Ev.buildA (vs := _) (cs := [_, _, _]) rfl rfl) rfl ?_;refine WL.ev (Ev.build (vs := _) (cs := [_, _, _, _, _]) rfl rfl) rfl ?_;refine zss rfl rfl ao hb8 rfl fun ws1 hb8_ hcs1 => ?_;(try simp only [Sx.splice, qt] at hb8_);have hch := hch.s1 hcs1;have hb8 := hb8_;refine zz (kh5 ?_);refine zr (bodyA.retR1 rfl (RVal.cell rfl (hb8.varA rfl rfl)) ?_);exact ⟨rfl, hch⟩

theorem New_spec (w : World) : Ret Tryz.prog 100 [] w fun u w' => ∃ b, u = .pointer (some ⟨b, 0, none⟩) ∧ BK w' b 251 ((List.replicate 67 0).map u64v ++ SP.zero.cells) ∧ w.heap.size ≤ b ∧ Chg [] w w' := by
 have hch := crf w;refine zE0 Tryz.func100 rfl ?_;refine Sr fun _ kh1 => za rfl (zz (kh1 (Sr fun _ kh3 => ?_)));refine WL.ev (Ev.build (vs := _) (cs := [_, _, _, _, _, _, _, _, _, _, _, _, _, _, _, _, _, _, _, _, _, _, _, _, _, _, _, _, _, _, _, _, _, _, _, _, _, _, _, _, _, _, _, _, _, _, _, _, _, _, _, _, _, _, _, _, _, _, _, _, _, _, _, _, _, _, _, _, _, _, _, _, _]) rfl rfl) rfl ?_;refine zBh rfl rfl rfl hch fun b2 wm2 hb2 hcm2 hge2 hgehch2 hch => ?_;refine za rfl (zz (kh3 ?_));refine zr (zr1 rfl rfl ?_);exact ⟨_, rfl, hb2, hge2, hch⟩

theorem one_spec (x : Nat) (w : World) (hx : x < 18446744073709551616) : Ret Tryz.prog 193 [.float .f64 x] w fun u w' => u = .agg (thingV (oneP x)).toArray ∧ Chg [] w w' := by
 have hch := crf w;have hsf := @splitP_fin x;refine zE1 Tryz.func193 rfl ?_;refine Sr fun _ kh1 => ?_;refine WL.allocB (l := [.int .i64 0, .bool false, .bool false, .int .i64 0, .int .u64 0, .int .u64 0, .int .u64 0]) rfl rfl fun b2 wm2 hb2 hcm2 hge2 => ?_;have hgehch2 := Nat.le_trans hch.size hge2;have hch := hch.ta hcm2;refine zz (kh1 (Sr fun _ kh3 => zm rfl ?_));refine WL.call hasF212 rfl rfl (Split_spec x _ hx) fun v w1 h' => ?_;obtain ⟨rfl, hC6⟩ := h';have hch := hch.ta hC6;have hb2 := hb2.k0 hC6;refine WL.allocB (l := [.bool false, .int .i64 0, .int .i64 0, .int .u64 0]) rfl rfl fun b3 wm3 hb3 hcm3 hge3 => ?_;have hgehch3 := Nat.le_trans hch.size hge3;have hch := hch.ta hcm3;have hneb23 := zdd hb2.lt hge3;have hb2 := hb2.k0 hcm3;refine zss rfl rfl ao hb3 rfl fun ws2 hb3_ hcs2 => ?_;(try simp only [Sx.splice, qt] at hb3_);have hch := hch.s1 hcs2;have hb2 := hb2.kq hcs2;have hb3 := hb3_;refine zz (kh3 (Sr fun _ kh5 => zf rfl (zl hb3 rfl rfl (zf rfl (zl hb3 rfl rfl ?_)))));refine WL.ev (Ev.build (vs := _) (cs := [_, _, _, _, _, _, _]) rfl rfl) rfl ?_;refine WL.allocB (l := [.int .i64 0, .bool false, .bool false, .int .i64 0, .int .u64 0, .int .u64 0, .int .u64 0]) rfl rfl fun b4 wm4 hb4 hcm4 hge4 => ?_;have hgehch4 := Nat.le_trans hch.size hge4;have hch := hch.ta hcm4;have hneb24 := zdd hb2.lt hge4;have hb2 := hb2.k0 hcm4;have hneb34 := zdd hb3.lt hge4;have hb3 := hb3.k0 hcm4;refine zss rfl rfl ao hb4 rfl fun ws3 hb4_ hcs3 => ?_;(try simp only [Sx.splice, qt] at hb4_);have hch := hch.s1 hcs3;have hb2 := hb2.kq hcs3;have hb3 := hb3.kq hcs3;have hb4 := hb4_;refine zz (kh5 (zc fun _ kh7 => ?_));refine CW.seqM 19 (decide ((splitP x).cls = 1 ∨ (splitP x).cls = 2)) ?_ ?_
 ·refine zS fun _ kr8 => zf rfl (zl hb3 rfl rfl (zq rfl rfl (zm rfl ?_)));refine zb ?_ ?_<;>intro hg1<;>try simp only [qs] at hg1
  ·refine zv rfl (zv rfl (zv rfl (zt rfl rfl (zz (kr8 ?_)))));refine ⟨rfl, rfl, Subs.consB rfl ?_ ?_⟩
   ·first | (simp; omega) | (refine decide_eq_decide.2 ?_; omega)
   exact SMg
  refine zw rfl (zf rfl (zw rfl (zl hb3 rfl rfl (zw rfl (zq rfl rfl (ze rfl rfl (zz (kr8 ?_))))))));refine ⟨rfl, rfl, Subs.consB rfl ?_ ?_⟩
  ·first | (simp; omega) | (refine decide_eq_decide.2 ?_; omega)
  exact SMg
 refine zy rfl ?_ ?_<;>intro hc2<;>try simp only [qs] at hc2
 ·have hcl : (splitP x).cls = 1 ∨ (splitP x).cls = 2 := hc2
  have hsf2 := hsf hcl;refine zR fun _ kr9 => ?_;refine zf rfl (zl hb3 rfl rfl (zf rfl (zl hb3 rfl rfl (zf rfl (zl hb3 rfl rfl ?_)))));refine WL.call hasF275 rfl rfl (laid_spec (splitP x).neg 0 (splitP x).frac ((splitP x).exp + 2148).toNat (splitP x).exp _ (by omega) (by omega) (by decide) (by omega)) fun v w2 h' => ?_;obtain ⟨rfl, hC26⟩ := h'
  show WL _ _ _ _ _ _ ((26, Value.agg [_, _, _, _, _].toArray) :: _) _
  have hch := hch.ta hC26;have hb2 := hb2.k0 hC26;have hb4 := hb4.k0 hC26;refine zf rfl ?_;refine zss rfl rfl ao hb4 rfl fun ws4 hb4_ hcs4 => ?_;(try simp only [Sx.splice, qt] at hb4_);have hch := hch.s1 hcs4;have hb2 := hb2.kq hcs4;have hb4 := hb4_;refine WL.nil (kr9 _ _ _ (kh7 ?_));refine Sr fun _ kh10 => zg hb4 rfl ?_;refine zss rfl rfl ao hb2 rfl fun ws5 hb2_ hcs5 => ?_;(try simp only [Sx.splice, qt] at hb2_);have hch := hch.s1 hcs5;have hb2 := hb2_;refine zz (kh10 ?_);refine zr (bodyA.retR1 rfl (RVal.cell rfl (hb2.varA rfl rfl)) ?_);refine ⟨?_, hch⟩;unfold oneP; rw [if_pos hcl]; rfl
 have hcl : ¬ ((splitP x).cls = 1 ∨ (splitP x).cls = 2) := fun q => by have q2 := hc2; omega
 refine zkk (kh7 (Sr fun _ kh12 => zg hb4 rfl ?_));refine zss rfl rfl ao hb2 rfl fun ws6 hb2_ hcs6 => ?_;(try simp only [Sx.splice, qt] at hb2_);have hch := hch.s1 hcs6;have hb2 := hb2_;refine zz (kh12 ?_);refine zr (bodyA.retR1 rfl (RVal.cell rfl (hb2.varA rfl rfl)) ?_);refine ⟨?_, hch⟩;unfold oneP; rw [if_neg hcl]; rfl

end

/- Package super: neg, minus, move. No condition. -/
section
open Go Sx Wd
set_option exponentiation.threshold 5000

theorem neg_spec {T : TypeId} {R : List Value} (b : Nat) (L : List Nat) (w : World) (hB : TB w b T L R) (hL : L.length = 67) (hW : W64 L) : Ret Tryz.prog 198 [.pointer (some ⟨b, 0, none⟩)] w fun u w' => u = .bool (decide (9223372036854775808 ≤ L.getD 66 0)) ∧ w = w' := by
 have h66 := hW.getD 66;refine zE1 Tryz.func198 rfl ?_;refine Sr fun _ kh1 => za rfl (zz (kh1 (Sr fun _ kh3 => zm rfl (zP rfl ?_))));refine WL.ev (Ev.ixT (66) rfl rfl (by omega) (by omega)) rfl ?_;refine WL.ev (Ev.load rfl rfl (hB.t64 (by first | omega | (simp; omega)))) rfl ?_;refine WL.ev (Ev.shrU (b := 63) rfl rfl (by simp only [IntKind.bits]; omega)) rfl ?_;rw [show L.getD 66 0 / 2 ^ 63 = L.getD 66 0 / 9223372036854775808 by omega];refine zq rfl rfl (za rfl (zz (kh3 ?_)));refine zr (zr1 rfl rfl ?_);refine ⟨congrArg Value.bool (decide_eq_decide.2 (by omega)), rfl⟩

structure KMin (L : List Nat) (R : List Value) (T : TypeId) (b : Nat) (w0 : World) (g : Nat × Nat × List Nat) (w : World) : Prop where
  m : MinI L g.2.2 g.2.1 g.1
  hB : TB w b T g.2.2 R
  ch : Chg [b] w0 w

theorem minus_spec {T : TypeId} {R : List Value} (b : Nat) (L : List Nat) (w : World) (hB : TB w b T L R) (hL : L.length = 67) (hW : W64 L) : Ret Tryz.prog 276 [.pointer (some ⟨b, 0, none⟩)] w fun u w' => ∃ C, TB w' b T C R ∧ C.length = 67 ∧ W64 C ∧ tv C = (18446744073709551616 ^ 67 - tv L) % 18446744073709551616 ^ 67 ∧ Chg [b] w w' := by
 have hch : Chg [b] w w := Chg.refl _ _;refine zE1 Tryz.func276 rfl ?_;refine Sr fun _ kh1 => za rfl (zz (kh1 (Sr fun _ kh3 => zm rfl (zz (kh3 (CW.block ?_))))));refine CW.loop (S := fun g : Nat × Nat × List Nat => [(0, .pointer (some ⟨b, 0, none⟩)), (2, .int .u64 (g.2.1 : Int)), (4, .int .i64 (g.1 : Int))]) (Inv := KMin L R T b w) (mu := fun g => 67 - g.1) ((0, 1, L)) ?_ ?_ ?_
 ·exact ⟨MinI.zero hW, hB, hch⟩
 ·exact SLp
 rintro ⟨i, c, C⟩ wr ⟨hM, hB, hch⟩;dsimp only at hM hB hch;dsimp only;have hi67 := hM.hi;have hCl := hM.len;have hcc := hM.c1;have hCi := hM.w.getD i;refine Sr fun _ kh5 => zL rfl rfl (zz (kh5 (zc fun _ kh7 => ?_)));refine zy rfl ?_ ?_<;>intro hc1<;>try simp only [qs] at hc1
 ·refine zkk (kh7 (zc fun _ kh8 => CW.block (Sr fun _ kh9 => zm rfl (za rfl (zz (kh9 ?_))))));refine CW.regionKC 15 17 rfl hmix fun kR11 kr11 hS hdr => ?_
  have hch := hch.ta hdr;have hB := hB.keep0 hdr;have hB_r := hB;refine wk 0 rfl hS (eM rfl) (wk 1 rfl hS (eM rfl) (wk 2 rfl hS (eM rfl) (wk 3 rfl hS (eM rfl) (wk 4 rfl hS (eP rfl) (wk 5 rfl hS (fun _ _ => Ev.ixT (i) rfl rfl (by omega) (by omega)) (wk 6 rfl hS (fun _ hw' => Ev.load rfl rfl ((hB_r.keep0 hw').t64 (by first | omega | (simp; omega)))) (wk 7 rfl hS (fun _ _ => Ev.complU rfl rfl (by simp only [IntKind.bits]; omega)) (wk 8 rfl hS (eM rfl) (wk 9 rfl hS (fun _ _ => Ev.ext rfl (ext317 (18446744073709551615 - C.getD i 0) 0 c hcc _)) (wk 10 rfl hS (eM rfl) (wk 11 rfl hS (eX rfl rfl) (wt 12 rfl (fun _ => hS) (fun _ => Ev.extract rfl rfl) (wt 13 rfl (fun _ => hS) (fun _ => Ev.nilPtr rfl) (wk 14 rfl hS (fun _ _ => Ev.ixT (i) rfl rfl (by omega) (by omega)) ?_))))))))))))));refine WK.storeT 15 rfl (by kernel_rfl) (by kernel_rfl) rfl rfl hB (by first | omega | (simp; omega)) fun ws7 hB_ hcs7 => ?_;have hch := hch.s1 hcs7;have hB := hB_;refine WK.after 16 rfl (by kernel_rfl) (by kernel_rfl) (Ev.assign rfl) rfl ?_;refine WK.done (by kernel_rfl) (kr11 _ _ _ ?_);refine kh8 (zS fun _ kr12 => ?_);(first | refine zi rfl rfl ?_ | refine zo rfl rfl ?_);refine zm rfl (zz (kr12 ?_));refine ⟨rfl, (i + 1, ((18446744073709551615 - C.getD i 0) + 0 + c) / 18446744073709551616, C.set i (((18446744073709551615 - C.getD i 0) + 0 + c) % 18446744073709551616)), ?_, ?_, ?_⟩
  ·exact SLp
  ·exact ⟨hM.step (by omega) (by omega), hB, hch⟩
  show 67 - (i + 1) < 67 - i; omega
 have hiX : i = L.length := by omega
 subst hiX;have hfin := hM.done hW;rw [hL] at hfin;refine CW.exit ?_;refine bodyA.norm0 rfl ?_;exact ⟨C, hB, by omega, hM.w, hfin, hch⟩

end

/- Package super: move. No condition. -/
section
open Go Sx Wd
set_option exponentiation.threshold 5000

theorem term_at {n : Bool} {a_ w0 w1 w2 : Nat} : ∀ {j : Nat}, j < 3 → (termV n a_ [w0, w1, w2])[2 + j]? = some (.int .u64 (([w0, w1, w2].getD j 0 : Nat) : Int))
  | 0, _ => rfl
  | 1, _ => rfl
  | 2, _ => rfl
def MvR (sub : Bool) (L W : List Nat) (a_ : Nat) (C : List Nat) : Prop :=
  (sub = false → ∃ c, c ≤ 1 ∧ tv C + c * 18446744073709551616 ^ 67 = tv L + tv W * 18446744073709551616 ^ a_) ∧ (sub = true → ∃ c, c ≤ 1 ∧ tv C + tv W * 18446744073709551616 ^ a_ = tv L + c * 18446744073709551616 ^ 67)
structure MvI (sub : Bool) (L W : List Nat) (a_ : Nat) (C : List Nat) (c i : Nat) : Prop where
  a : sub = false → MvA L W a_ C c i
  s : sub = true → MvS L W a_ C c i
theorem MvI.all {sub : Bool} {L W C : List Nat} {a_ c i : Nat} (h : MvI sub L W a_ C c i) : C.length = L.length ∧ W64 C ∧ a_ ≤ i ∧ i ≤ L.length ∧ c ≤ 1 := by
  cases sub
  · have := h.a rfl; exact ⟨this.len, this.w, this.lo, this.hi, this.c1⟩
  · have := h.s rfl; exact ⟨this.len, this.w, this.lo, this.hi, this.c1⟩
theorem MvI.done {sub : Bool} {L W C : List Nat} {a_ c i : Nat} (h : MvI sub L W a_ C c i) (hW : W.length = 3) (hL : L.length = 67) (ha : a_ ≤ 64) (hx : ¬ (i < 67 ∧ (i < a_ + 3 ∨ 0 < c))) : MvR sub L W a_ C := by
  obtain ⟨h1, h2, h3, h4, h5⟩ := h.all
  have e1 : i - a_ = 3 + (i - a_ - 3) := by omega
  have e2 : c * 18446744073709551616 ^ i = c * 18446744073709551616 ^ 67 := by
    by_cases q : i = 67
    · rw [q]
    · have : c = 0 := by omega
      rw [this, Nat.zero_mul, Nat.zero_mul]
  refine ⟨fun q => ⟨c, h5, ?_⟩, fun q => ⟨c, h5, ?_⟩⟩
  · have := (h.a q).eq
    rw [e1, trm3 hW, e2] at this; exact this
  · have := (h.s q).eq
    rw [e1, trm3 hW, e2] at this; exact this
theorem sub_step {x y c : Nat} (hx : x < 18446744073709551616) (hy : y < 18446744073709551616) (hc : c ≤ 1) : x + (if x < y + c then 1 else 0) * 18446744073709551616 = (x + 18446744073709551616 - y - c) % 18446744073709551616 + y + c := by
  split <;> omega
structure KMv (sub : Bool) (L W : List Nat) (a_ : Nat) (tn : Bool) (R : List Value) (T : TypeId) (b b4 : Nat) (w0 : World) (g : Nat × Nat × List Nat) (w : World) : Prop where
  m : MvI sub L W a_ g.2.2 g.2.1 g.1
  hB : TB w b T g.2.2 R
  h4 : BK w b4 255 (termV tn a_ W)
  ch : Chg [b] w0 w

theorem move_spec {T : TypeId} {R : List Value} (b : Nat) (L W : List Nat) (a_ : Nat) (tn less : Bool) (w : World) (hB : TB w b T L R) (hL : L.length = 67) (hW : W64 L) (hW3 : W.length = 3) (hWW : W64 W) (ha : a_ ≤ 64) : Ret Tryz.prog 315 [.pointer (some ⟨b, 0, none⟩), .agg (termV tn a_ W).toArray, .bool less] w fun u w' => ∃ C, TB w' b T C R ∧ C.length = 67 ∧ W64 C ∧ MvR (tn != less) L W a_ C ∧ Chg [b] w w' := by
 obtain ⟨w0, w1, w2, rfl⟩ : ∃ w0 w1 w2, W = [w0, w1, w2] := by match W, hW3 with | [x, y, z], _ => exact ⟨_, _, _, rfl⟩
 have hch : Chg [b] w w := Chg.refl _ _;refine zE3 Tryz.func315 rfl ?_;refine Sr fun _ kh1 => ?_;refine zBh rfl rfl rfl hch fun b4 wm4 hb4 hcm4 hge4 hgehch4 hch => ?_;have hneb4 : b ≠ b4 := by have := hB.lt; omega
 have hB := hB.keep0 hcm4;refine zz (kh1 (Sr fun _ kh3 => za rfl (zz (kh3 (Sr fun _ kh5 => zf rfl (zl hb4 rfl rfl (za rfl (zz (kh5 (CW.block ?_))))))))));refine CW.loop (S := fun g : Nat × Nat × List Nat => [(0, .pointer (some ⟨b, 0, none⟩)), (2, .bool less), (4, .pointer (some ⟨b4, 0, none⟩)), (6, .int .u64 (g.2.1 : Int)), (7, .int .i64 (g.1 : Int))]) (Inv := KMv (tn != less) L [w0, w1, w2] a_ tn R T b b4 w) (mu := fun g => 67 - g.1) ((a_, 0, L)) ?_ ?_ ?_
 ·exact ⟨⟨fun _ => MvA.zero hW (by omega), fun _ => MvS.zero hW (by omega)⟩, hB, hb4, hch⟩
 ·exact SLp
 rintro ⟨i, c, C⟩ wr ⟨hM, hB, hb4, hch⟩;dsimp only at hM hB hb4 hch;dsimp only;obtain ⟨hCl, hCw, hia, hi67, hcc⟩ := hM.all;have hCi := hCw.getD i;have hwv := hWW.getD (i - a_);unfold termV at hb4;refine zc fun _ kh7 => ?_;refine CW.seqM 23 (decide (i < 67 ∧ (i < a_ + 3 ∨ 0 < c))) ?_ ?_
 ·refine zS fun _ kr8 => zm rfl (zL rfl rfl (zm rfl ?_));refine zb ?_ ?_<;>intro hg1<;>try simp only [qs] at hg1
  ·refine zw rfl (zm rfl (zw rfl (zf rfl (zw rfl (zl hb4 rfl rfl (zw rfl ?_))))));(first | refine zi rfl rfl ?_ | refine zo rfl rfl ?_);refine zw rfl (zL rfl rfl (zw rfl (zm rfl ?_)));refine zb ?_ ?_<;>intro hg2<;>try simp only [qs] at hg2
   ·refine zv rfl (zv rfl (zw rfl (zt rfl rfl (zt rfl rfl (zz (kr8 ?_))))));refine ⟨rfl, rfl, Subs.consB rfl ?_ ?_⟩
    ·first | (simp; omega) | (refine decide_eq_decide.2 ?_; omega)
    exact SMg
   refine zw rfl (zm rfl (zw rfl (zG rfl rfl (zw rfl (ze rfl rfl (zt rfl rfl (zz (kr8 ?_))))))));refine ⟨rfl, rfl, Subs.consB rfl ?_ ?_⟩
   ·first | (simp; omega) | (refine decide_eq_decide.2 ?_; omega)
   exact SMg
  refine zv rfl (zv rfl (zv rfl (zv rfl (zv rfl (zv rfl (zu rfl (zu rfl (zv rfl (ze rfl rfl (zz (kr8 ?_)))))))))));refine ⟨rfl, rfl, Subs.consB rfl ?_ ?_⟩
  ·first | (simp; omega) | (refine decide_eq_decide.2 ?_; omega)
  exact SMg
 refine zy rfl ?_ ?_<;>intro hc3<;>try simp only [qs] at hc3
 ·have hgo := hc3
  refine zkk (kh7 (zc fun _ kh9 => CW.block (Sr fun _ kh10 => za rfl (zz (kh10 (zc fun _ kh12 => Sr fun _ kh13 => zm rfl (zf rfl (zl hb4 rfl rfl ?_))))))));(first | refine zi rfl rfl ?_ | refine zo rfl rfl ?_);refine zL rfl rfl (zz (kh13 ?_));refine zy rfl ?_ ?_<;>intro hc4<;>try simp only [qs] at hc4
  ·refine zR fun _ kr15 => ?_
   refine zm rfl (zf rfl (zl hb4 rfl rfl ?_))
   first | refine WL.ev (Ev.subIn rfl rfl (by omega)) rfl ?_ | refine WL.ev (Ev.sub rfl rfl) rfl ?_
   refine zf rfl ?_;refine WL.ev (Ev.indexAddrArr rfl rfl (by omega) (by omega)) rfl ?_;rw [show 2 + ((i : Int) - (a_ : Int)).toNat * 1 = 2 + (i - a_) by omega];refine WL.ev (Ev.load rfl rfl (hb4.at_ (term_at (n := tn) (by omega)))) rfl ?_;refine za rfl ?_;refine WL.nil (kr15 _ _ _ (kh12 ?_));refine Sr fun _ kh16 => zf rfl (zl hb4 rfl rfl (zm rfl ?_));refine WL.ev (Ev.neq_bool rfl rfl) rfl ?_;refine zz (kh16 ?_);refine zy rfl ?_ ?_<;>intro hc5<;>try simp only [qs] at hc5
   ·have hneq := hc5
    refine CW.regionKC 15 17 rfl hmix fun kR18 kr18 hS hdr => ?_;have hch := hch.ta hdr;have hB := hB.keep0 hdr;have hb4 := hb4.k0 hdr;have hB_r := hB;refine wk 0 rfl hS (eM rfl) (wk 1 rfl hS (eM rfl) (wk 2 rfl hS (eM rfl) (wk 3 rfl hS (eM rfl) (wk 4 rfl hS (eP rfl) (wk 5 rfl hS (fun _ _ => Ev.ixT (i) rfl rfl (by omega) (by omega)) (wk 6 rfl hS (fun _ hw' => Ev.load rfl rfl ((hB_r.keep0 hw').t64 (by first | omega | (simp; omega)))) (wk 7 rfl hS (eM rfl) (wk 8 rfl hS (eM rfl) (wk 9 rfl hS (fun _ _ => Ev.ext rfl (ext342 (C.getD i 0) ([w0, w1, w2].getD (i - a_) 0) c hcc _)) (wk 10 rfl hS (eM rfl) (wk 11 rfl hS (eX rfl rfl) (wt 12 rfl (fun _ => hS) (fun _ => Ev.extract rfl rfl) (wt 13 rfl (fun _ => hS) (fun _ => Ev.nilPtr rfl) (wk 14 rfl hS (fun _ _ => Ev.ixT (i) rfl rfl (by omega) (by omega)) ?_))))))))))))));refine WK.storeT 15 rfl (by kernel_rfl) (by kernel_rfl) rfl rfl hB (by first | omega | (simp; omega)) fun ws8 hB_ hcs8 => ?_;have hch := hch.s1 hcs8;have hb4 := hb4.kq hcs8;have hB := hB_;refine WK.after 16 rfl (by kernel_rfl) (by kernel_rfl) (Ev.assign rfl) rfl ?_;refine WK.done (by kernel_rfl) (kr18 _ _ _ ?_);refine kh9 (zS fun _ kr19 => zm rfl ?_);(first | refine zi rfl rfl ?_ | refine zo rfl rfl ?_);refine za rfl (zz (kr19 ?_));refine ⟨rfl, (i + 1, (if C.getD i 0 < ([w0, w1, w2].getD (i - a_) 0) + c then 1 else 0), C.set i ((C.getD i 0 + 18446744073709551616 - ([w0, w1, w2].getD (i - a_) 0) - c) % 18446744073709551616)), ?_, ?_, ?_⟩
    ·exact SLp
    ·have hsub : (tn != less) = true := by simpa using hneq
     refine ⟨⟨fun q => (by rw [hsub] at q; cases q), fun q => ?_⟩, hB, hb4, hch⟩;exact (hM.s q).step (by omega) hwv (Nat.mod_lt _ (by decide)) (by show (if C.getD i 0 < ([w0, w1, w2].getD (i - a_) 0) + c then 1 else 0) ≤ 1; split <;> omega) (by rw [show [w0, w1, w2].getD (i - a_) 0 = ([w0, w1, w2].getD (i - a_) 0) from rfl]; exact sub_step hCi hwv hcc)
    show 67 - (i + 1) < 67 - i; omega
   have hneq := hc5;refine CW.regionKC 15 17 rfl hmix fun kR20 kr20 hS hdr => ?_;have hch := hch.ta hdr;have hB := hB.keep0 hdr;have hb4 := hb4.k0 hdr;have hB_r := hB;refine wk 0 rfl hS (eM rfl) (wk 1 rfl hS (eM rfl) (wk 2 rfl hS (eM rfl) (wk 3 rfl hS (eM rfl) (wk 4 rfl hS (eP rfl) (wk 5 rfl hS (fun _ _ => Ev.ixT (i) rfl rfl (by omega) (by omega)) (wk 6 rfl hS (fun _ hw' => Ev.load rfl rfl ((hB_r.keep0 hw').t64 (by first | omega | (simp; omega)))) (wk 7 rfl hS (eM rfl) (wk 8 rfl hS (eM rfl) (wk 9 rfl hS (fun _ _ => Ev.ext rfl (ext317 (C.getD i 0) ([w0, w1, w2].getD (i - a_) 0) c hcc _)) (wk 10 rfl hS (eM rfl) (wk 11 rfl hS (eX rfl rfl) (wt 12 rfl (fun _ => hS) (fun _ => Ev.extract rfl rfl) (wt 13 rfl (fun _ => hS) (fun _ => Ev.nilPtr rfl) (wk 14 rfl hS (fun _ _ => Ev.ixT (i) rfl rfl (by omega) (by omega)) ?_))))))))))))));refine WK.storeT 15 rfl (by kernel_rfl) (by kernel_rfl) rfl rfl hB (by first | omega | (simp; omega)) fun ws9 hB_ hcs9 => ?_;have hch := hch.s1 hcs9;have hb4 := hb4.kq hcs9;have hB := hB_;refine WK.after 16 rfl (by kernel_rfl) (by kernel_rfl) (Ev.assign rfl) rfl ?_;refine WK.done (by kernel_rfl) (kr20 _ _ _ ?_);refine kh9 (zS fun _ kr21 => zm rfl ?_);(first | refine zi rfl rfl ?_ | refine zo rfl rfl ?_);refine za rfl (zz (kr21 ?_));refine ⟨rfl, (i + 1, ((C.getD i 0 + ([w0, w1, w2].getD (i - a_) 0) + c) / 18446744073709551616), C.set i ((C.getD i 0 + ([w0, w1, w2].getD (i - a_) 0) + c) % 18446744073709551616)), ?_, ?_, ?_⟩
   ·exact SLp
   ·have hsub : (tn != less) = false := by simpa using hneq
    refine ⟨⟨fun q => ?_, fun q => (by rw [hsub] at q; cases q)⟩, hB, hb4, hch⟩;have hst := (hM.a q).step (by omega) hwv;exact hst
   show 67 - (i + 1) < 67 - i; omega
  have hz : [w0, w1, w2].getD (i - a_) 0 = 0 := by rw [List.getD_eq_getElem?_getD, List.getElem?_eq_none (by simp; omega)]; rfl
  refine zkk (kh12 (Sr fun _ kh22 => zf rfl (zl hb4 rfl rfl (zm rfl ?_))));refine WL.ev (Ev.neq_bool rfl rfl) rfl ?_;refine zz (kh22 ?_);refine zy rfl ?_ ?_<;>intro hc6<;>try simp only [qs] at hc6
  ·have hneq := hc6
   refine CW.regionKC 15 17 rfl hmix fun kR24 kr24 hS hdr => ?_;have hch := hch.ta hdr;have hB := hB.keep0 hdr;have hb4 := hb4.k0 hdr;have hB_r := hB;refine wk 0 rfl hS (eM rfl) (wk 1 rfl hS (eM rfl) (wk 2 rfl hS (eM rfl) (wk 3 rfl hS (eM rfl) (wk 4 rfl hS (eP rfl) (wk 5 rfl hS (fun _ _ => Ev.ixT (i) rfl rfl (by omega) (by omega)) (wk 6 rfl hS (fun _ hw' => Ev.load rfl rfl ((hB_r.keep0 hw').t64 (by first | omega | (simp; omega)))) (wk 7 rfl hS (eM rfl) (wk 8 rfl hS (eM rfl) (wk 9 rfl hS (fun _ _ => Ev.ext rfl (ext342 (C.getD i 0) 0 c hcc _)) (wk 10 rfl hS (eM rfl) (wk 11 rfl hS (eX rfl rfl) (wt 12 rfl (fun _ => hS) (fun _ => Ev.extract rfl rfl) (wt 13 rfl (fun _ => hS) (fun _ => Ev.nilPtr rfl) (wk 14 rfl hS (fun _ _ => Ev.ixT (i) rfl rfl (by omega) (by omega)) ?_))))))))))))));refine WK.storeT 15 rfl (by kernel_rfl) (by kernel_rfl) rfl rfl hB (by first | omega | (simp; omega)) fun ws10 hB_ hcs10 => ?_;have hch := hch.s1 hcs10;have hb4 := hb4.kq hcs10;have hB := hB_;refine WK.after 16 rfl (by kernel_rfl) (by kernel_rfl) (Ev.assign rfl) rfl ?_;refine WK.done (by kernel_rfl) (kr24 _ _ _ ?_);refine kh9 (zS fun _ kr25 => zm rfl ?_);(first | refine zi rfl rfl ?_ | refine zo rfl rfl ?_);refine za rfl (zz (kr25 ?_));refine ⟨rfl, (i + 1, (if C.getD i 0 < 0 + c then 1 else 0), C.set i ((C.getD i 0 + 18446744073709551616 - 0 - c) % 18446744073709551616)), ?_, ?_, ?_⟩
   ·exact SLp
   ·have hsub : (tn != less) = true := by simpa using hneq
    refine ⟨⟨fun q => (by rw [hsub] at q; cases q), fun q => ?_⟩, hB, hb4, hch⟩;exact (hM.s q).step (by omega) hwv (Nat.mod_lt _ (by decide)) (by show (if C.getD i 0 < 0 + c then 1 else 0) ≤ 1; split <;> omega) (by rw [show [w0, w1, w2].getD (i - a_) 0 = 0 from hz]; exact sub_step hCi (by decide) hcc)
   show 67 - (i + 1) < 67 - i; omega
  have hneq := hc6;refine CW.regionKC 15 17 rfl hmix fun kR26 kr26 hS hdr => ?_;have hch := hch.ta hdr;have hB := hB.keep0 hdr;have hb4 := hb4.k0 hdr;have hB_r := hB;refine wk 0 rfl hS (eM rfl) (wk 1 rfl hS (eM rfl) (wk 2 rfl hS (eM rfl) (wk 3 rfl hS (eM rfl) (wk 4 rfl hS (eP rfl) (wk 5 rfl hS (fun _ _ => Ev.ixT (i) rfl rfl (by omega) (by omega)) (wk 6 rfl hS (fun _ hw' => Ev.load rfl rfl ((hB_r.keep0 hw').t64 (by first | omega | (simp; omega)))) (wk 7 rfl hS (eM rfl) (wk 8 rfl hS (eM rfl) (wk 9 rfl hS (fun _ _ => Ev.ext rfl (ext317 (C.getD i 0) 0 c hcc _)) (wk 10 rfl hS (eM rfl) (wk 11 rfl hS (eX rfl rfl) (wt 12 rfl (fun _ => hS) (fun _ => Ev.extract rfl rfl) (wt 13 rfl (fun _ => hS) (fun _ => Ev.nilPtr rfl) (wk 14 rfl hS (fun _ _ => Ev.ixT (i) rfl rfl (by omega) (by omega)) ?_))))))))))))));refine WK.storeT 15 rfl (by kernel_rfl) (by kernel_rfl) rfl rfl hB (by first | omega | (simp; omega)) fun ws11 hB_ hcs11 => ?_;have hch := hch.s1 hcs11;have hb4 := hb4.kq hcs11;have hB := hB_;refine WK.after 16 rfl (by kernel_rfl) (by kernel_rfl) (Ev.assign rfl) rfl ?_;refine WK.done (by kernel_rfl) (kr26 _ _ _ ?_);refine kh9 (zS fun _ kr27 => zm rfl ?_);(first | refine zi rfl rfl ?_ | refine zo rfl rfl ?_);refine za rfl (zz (kr27 ?_));refine ⟨rfl, (i + 1, ((C.getD i 0 + 0 + c) / 18446744073709551616), C.set i ((C.getD i 0 + 0 + c) % 18446744073709551616)), ?_, ?_, ?_⟩
  ·exact SLp
  ·have hsub : (tn != less) = false := by simpa using hneq
   refine ⟨⟨fun q => ?_, fun q => (by rw [hsub] at q; cases q)⟩, hB, hb4, hch⟩;have hst := (hM.a q).step (by omega) hwv;rw [hz] at hst;exact hst
  show 67 - (i + 1) < 67 - i; omega
 have hstop := hc3;refine CW.exit ?_;refine bodyA.norm0 rfl ?_;exact ⟨C, hB, by omega, hCw, hM.done rfl hL ha hstop, hch⟩

end

/- Two's complement: what a whole sum is. No condition. -/
section
open Go Sx Wd
set_option exponentiation.threshold 5000

def BB : Nat := 18446744073709551616 ^ 66
def MM : Nat := 18446744073709551616 ^ 67
theorem MM_eq : MM = BB * 18446744073709551616 := Nat.pow_succ ..
structure Rep (L : List Nat) (S : Int) : Prop where
  len : L.length = 67
  w : W64 L
  eq : (tv L : Int) = S % (MM : Int)
theorem Rep.zero : Rep (List.replicate 67 0) 0 := ⟨by simp, fun x hx => by rw [List.mem_replicate] at hx; rw [hx.2]; decide, by rw [tv_zero]; simp⟩
theorem emod_of {a S M c : Int} (h0 : 0 ≤ a) (h1 : a < M) (h : a = S + c * M) : a = S % M := by
  have := Int.emod_eq_of_lt h0 h1
  rw [← this, h]
  exact Int.add_mul_emod_self_right ..
theorem MvR.rep {sub : Bool} {L W C : List Nat} {a_ : Nat} {S : Int} (h : MvR sub L W a_ C) (hr : Rep L S) (hC : C.length = 67) (hw : W64 C) :
    Rep C (if sub = true then S - ((tv W * 18446744073709551616 ^ a_ : Nat) : Int) else S + ((tv W * 18446744073709551616 ^ a_ : Nat) : Int)) := by
  have h1 : tv C < MM := by have := tv_lt hw; rw [hC] at this; exact this
  obtain ⟨_, _, he⟩ := hr
  have hd := Int.emod_add_mul_ediv S (MM : Int)
  refine ⟨hC, hw, ?_⟩
  generalize hX : tv W * 18446744073709551616 ^ a_ = X at h ⊢
  cases sub
  · obtain ⟨c, hc, e⟩ := h.1 rfl
    rw [hX, show (18446744073709551616 : Nat) ^ 67 = MM from rfl] at e
    rw [if_neg (by simp)]
    refine emod_of (c := -(S / (MM : Int)) - (c : Int)) (by omega) (by omega) ?_
    have e' : (tv C : Int) + (c : Int) * (MM : Int) = (tv L : Int) + (X : Int) := by exact_mod_cast e
    rw [Int.sub_mul, Int.neg_mul, Int.mul_comm (S / (MM : Int))]
    omega
  · obtain ⟨c, hc, e⟩ := h.2 rfl
    rw [hX, show (18446744073709551616 : Nat) ^ 67 = MM from rfl] at e
    rw [if_pos rfl]
    refine emod_of (c := -(S / (MM : Int)) + (c : Int)) (by omega) (by omega) ?_
    have e' : (tv C : Int) + (X : Int) = (tv L : Int) + (c : Int) * (MM : Int) := by exact_mod_cast e
    rw [Int.add_mul, Int.neg_mul, Int.mul_comm (S / (MM : Int))]
    omega
theorem Rep.split {L : List Nat} {S : Int} (hr : Rep L S) : tv L = tv (L.take 66) + L.getD 66 0 * BB ∧ tv (L.take 66) < BB := by
  have h1 := tv_take (l := L) (i := 66) (by rw [hr.len]; decide)
  rw [show L.take (66 + 1) = L from List.take_of_length_le (by rw [hr.len]; decide)] at h1
  refine ⟨h1, ?_⟩
  have := tv_lt (l := L.take 66) (fun x hx => hr.w x (List.mem_of_mem_take hx))
  rwa [List.length_take, hr.len] at this
theorem Rep.pos {L : List Nat} {S : Int} (hr : Rep L S) (h0 : 0 ≤ S) (h1 : S < (16384 * BB : Nat)) : L.getD 66 0 < 16384 ∧ (tv L : Int) = S := by
  obtain ⟨h2, h3⟩ := hr.split
  have hM := MM_eq
  have he := hr.eq
  rw [Int.emod_eq_of_lt h0 (by omega)] at he
  refine ⟨?_, he⟩
  generalize L.getD 66 0 = x at h2 ⊢
  have h4 : x * BB < 16384 * BB := by omega
  exact Nat.lt_of_mul_lt_mul_right h4
theorem Rep.neg {L : List Nat} {S : Int} (hr : Rep L S) (h0 : S < 0) (h1 : -((16384 * BB : Nat) : Int) < S) : 18446744073709535232 ≤ L.getD 66 0 ∧ (L.getD 66 0 = 18446744073709535232 → 0 < tv (L.take 66)) ∧ (tv L : Int) = S + (MM : Int) := by
  obtain ⟨h2, h3⟩ := hr.split
  have hM := MM_eq
  have he := hr.eq
  have e : S % (MM : Int) = S + (MM : Int) := (emod_of (c := 1) (by omega) (by omega) (by omega)).symm
  rw [e] at he
  refine ⟨?_, fun q => ?_, he⟩
  · generalize L.getD 66 0 = x at h2 ⊢
    have h4 : 18446744073709551616 * BB < (x + 16385) * BB := by rw [Nat.add_mul]; omega
    have := Nat.lt_of_mul_lt_mul_right h4
    omega
  · rw [q] at h2; omega
theorem i64shr14 {x : Nat} (hx : x < 18446744073709551616) : (IntKind.i64.wrap (x : Int)).fdiv (2 ^ (min (14 : Int).toNat IntKind.i64.bits)) = if x < 9223372036854775808 then ((x / 16384 : Nat) : Int) else ((x : Int) - 18446744073709551616) / 16384 := by
  show (IntKind.i64.wrap (x : Int)).fdiv 16384 = _
  rw [Int.fdiv_eq_ediv_of_nonneg _ (by omega), IntKind.wrap_i64]
  split <;> omega
end

/- Package super: great. No condition. -/
section
open Go Sx Wd
set_option exponentiation.threshold 5000

theorem tv_take0 {L : List Nat} : ∀ {i : Nat}, i ≤ L.length → (∀ j, j < i → L.getD j 0 = 0) → tv (L.take i) = 0
  | 0, _, _ => by simp [tv]
  | i + 1, h, hz => by rw [tv_take (by omega), tv_take0 (by omega) (fun j hj => hz j (by omega)), hz i (by omega)]; simp
section
variable {P : Program} {s : Sl} {w : World} {ty : TypeId} {x q : Operand}
theorem Sx.Ev.sliceAH (j : Nat) {t b m e : Nat} {es be : Nat} {k' : IntKind} {hi : Int} {de : TypeDesc} {ze : Value} {sz by_ : Nat} {z : Value} [hT : HasT P t (.array m e) sz by_ z] [hE : HasT P e de es be ze]
    (hx : opnd s x = some (.pointer (some ⟨b, 0, none⟩))) (hq : opnd s q = some (.int k' hi)) (hj : hi = (j : Int)) (h2 : j ≤ m) : Ev P s (.slice t x none (some q) none) ty w (.slice (some ⟨b, 0, none⟩) j m) w := fun ρ d' pos af g hρ => by
  have e1 := hρ x _ hx
  have e3 := hρ q _ hq
  subst hj
  have h1 : (0 : Int) ≤ (j : Int) := by omega
  have h3 : (j : Int) ≤ (m : Int) := by omega
  simp [execOp, e1, e3, Instr.sliceAt, Instr.slice, hT.underlying, Instr.sliceBounds, Instr.sliceBound, asIntOf, Instr.sureAddr, h1, h2, h3, hE.sizeOf]
  try (intro _; simp [Addr.add])
end
structure KGr (L : List Nat) (R : List Value) (T : TypeId) (b : Nat) (w0 : World) (i : Nat) (w : World) : Prop where
  le : i ≤ 66
  z : ∀ j, j < i → L.getD j 0 = 0
  hB : TB w b T L R
  ch : Chg [] w0 w

theorem great_spec {T : TypeId} {R : List Value} (b : Nat) (L : List Nat) (S : Int) (w : World) (hB : TB w b T L R) (hr : Rep L S) (h1 : -((16384 * BB : Nat) : Int) < S) (h2 : S < (16384 * BB : Nat)) : Ret Tryz.prog 316 [.pointer (some ⟨b, 0, none⟩)] w fun u w' => u = .bool false ∧ Chg [] w w' := by
 have hL := hr.len;have h66 := hr.w.getD 66;have hch := crf w;refine zE1 Tryz.func316 rfl ?_;refine Sr fun _ kh1 => za rfl (zz (kh1 (Sr fun _ kh3 => za rfl (zz (kh3 (Sr fun _ kh5 => zm rfl (zm rfl ?_)))))));refine WL.ev (Ev.quoIn rfl rfl (by decide) (by decide) (by decide)) rfl ?_;rw [show (4238 : Int) / 64 = ((66 : Nat) : Int) by decide];refine zP rfl ?_;refine WL.ev (Ev.ixT (66) rfl rfl (by omega) (by omega)) rfl ?_;refine WL.ev (Ev.load rfl rfl (hB.t64 (by first | omega | (simp; omega)))) rfl ?_;refine WL.ev (Ev.conv rfl rfl) rfl ?_;refine zm rfl ?_;refine WL.ev (Ev.remIn rfl rfl (by decide) (by decide)) rfl ?_;rw [show (4238 : Int) % 64 = 14 by decide];refine WL.ev (Ev.shr rfl rfl (by decide)) rfl ?_;rw [i64shr14 h66];rcases Int.lt_or_le S 0 with hS | hS
 ·have hn := hr.neg hS h1;rw [if_neg (by omega), show ((L.getD 66 0 : Nat) : Int) - 18446744073709551616 = -16384 + (((L.getD 66 0 : Nat) : Int) - 18446744073709535232) by omega, show (-16384 + (((L.getD 66 0 : Nat) : Int) - 18446744073709535232)) / 16384 = -1 by omega];refine za rfl (zz (kh5 (zc fun _ kh7 => Sr fun _ kh8 => zm rfl (zN rfl rfl (zz (kh8 ?_))))));refine zy rfl ?_ ?_<;>intro hc1<;>try simp only [qs] at hc1
  ·simp at hc1
  refine zkk (kh7 (zc fun _ kh10 => Sr fun _ kh11 => zm rfl (zm rfl ?_)));refine WL.ev (Ev.quoIn rfl rfl (by decide) (by decide) (by decide)) rfl ?_;rw [show (4238 : Int) / 64 = ((66 : Nat) : Int) by decide];refine zP rfl ?_;refine WL.ev (Ev.ixT (66) rfl rfl (by omega) (by omega)) rfl ?_;refine WL.ev (Ev.load rfl rfl (hB.t64 (by first | omega | (simp; omega)))) rfl ?_;refine zm rfl ?_;refine WL.ev (Ev.remIn rfl rfl (by decide) (by decide)) rfl ?_;rw [show (4238 : Int) % 64 = 14 by decide];refine WL.ev (Ev.subIn rfl rfl (by decide)) rfl ?_;rw [show (64 : Int) - 14 = ((50 : Nat) : Int) by decide];refine WL.ev (Ev.shlU64 rfl rfl) rfl ?_;refine zN rfl rfl (zz (kh11 ?_));refine zy rfl ?_ ?_<;>intro hc2<;>try simp only [qs] at hc2
  ·refine Sr fun _ kh13 => za rfl (zz (kh13 ?_));refine zr (zr1 rfl rfl ?_);exact ⟨rfl, hch⟩
  have hx50 := hc2;refine zkk (kh10 (zc fun _ kh15 => Sr fun _ kh16 => zm rfl (zP rfl (zm rfl ?_))));refine WL.ev (Ev.quoIn rfl rfl (by decide) (by decide) (by decide)) rfl ?_;rw [show (4238 : Int) / 64 = ((66 : Nat) : Int) by decide];refine WL.ev (Ev.sliceAH 66 rfl rfl rfl (by decide)) rfl ?_;refine zn rfl (zm rfl (zz (kh16 (CW.block ?_))));refine CW.loop (S := fun i : Nat => [(36, .slice (some ⟨b, 0, none⟩) 66 67), (37, .int .i64 66), (38, .int .i64 (i : Int))]) (Inv := KGr L R T b w) (mu := fun i => 66 - i) (0) ?_ ?_ ?_
  ·exact ⟨by omega, fun j hj => by omega, hB, hch⟩
  ·exact SLp
  rintro i wr ⟨hi66, hz, hB, hch⟩;have hCi := hr.w.getD i;refine Sr fun _ kh18 => zL rfl rfl (zz (kh18 (zc fun _ kh20 => ?_)));refine zy rfl ?_ ?_<;>intro hc3<;>try simp only [qs] at hc3
  ·refine zkk (kh20 (zc fun _ kh21 => CW.block (Sr fun _ kh22 => ?_)));refine WL.ev (Ev.ixB (i) rfl rfl (by omega) (by omega)) rfl ?_
   refine WL.ev (Ev.load rfl rfl (hB.t64 (by first | omega | (simp; omega)))) rfl ?_;refine za rfl (zz (kh22 (Sr fun _ kh24 => zm rfl (zN rfl rfl (zz (kh24 ?_))))));refine zy rfl ?_ ?_<;>intro hc4<;>try simp only [qs] at hc4
   ·refine Sr fun _ kh26 => za rfl (zz (kh26 ?_));refine zr (zr1 rfl rfl ?_);exact ⟨rfl, hch⟩
   refine zkk (kh21 (zS fun _ kr28 => ?_));(first | refine zi rfl rfl ?_ | refine zo rfl rfl ?_);refine zm rfl (zz (kr28 ?_));refine ⟨rfl, i + 1, ?_, ?_, ?_⟩
   ·exact SLp
   ·exact ⟨by omega, fun j hj => by rcases Nat.lt_or_ge j i with q | q; exact hz j q; rw [show j = i by omega]; omega, hB, hch⟩
   omega
  exfalso
  have h0 := tv_take0 (L := L) (i := 66) (by omega) (fun j hj => hz j (by omega));have := hn.2.1 (by omega);omega
 have hp := hr.pos hS h2;rw [if_pos (by omega), show L.getD 66 0 / 16384 = 0 by omega];refine za rfl (zz (kh5 (zc fun _ kh29 => Sr fun _ kh30 => zm rfl (zN rfl rfl (zz (kh30 ?_))))));refine zy rfl ?_ ?_<;>intro hc5<;>try simp only [qs] at hc5
 ·refine Sr fun _ kh32 => zm rfl (zN rfl rfl (za rfl (zz (kh32 ?_))));refine zr (zr1 rfl rfl ?_);exact ⟨rfl, hch⟩
 simp at hc5

end

/- Package super: size. No condition. -/
section
open Go Sx Wd
set_option exponentiation.threshold 5000

theorem splice_all : ∀ (vs pre l : List Value), l.length = vs.length → Sx.splice (pre ++ l) pre.length vs = pre ++ vs
  | [], pre, l, h => by
    have : l = [] := List.length_eq_zero_iff.1 (by simpa using h)
    subst this; simp [Sx.splice]
  | v :: vs, pre, [], h => by simp at h
  | v :: vs, pre, x :: l, h => by
    have := splice_all vs (pre ++ [v]) l (by simpa using h)
    simp only [Sx.splice]
    rw [show (pre ++ x :: l).set pre.length v = pre ++ [v] ++ l by simp]
    simpa using this
theorem TB.nil {w : World} {b : Nat} {T : TypeId} {L : List Nat} (h : TB w b T L []) : BK w b T (L.map u64v) := by
  unfold TB at h; rwa [List.append_nil] at h
theorem TB.of {w : World} {b : Nat} {T : TypeId} {L : List Nat} (h : BK w b T (L.map u64v)) : TB w b T L [] := by
  unfold TB; rwa [List.append_nil]

theorem size_spec (L : List Nat) (w : World) (hL : L.length = 67) (hW : W64 L) : Ret Tryz.prog 197 [.agg (L.map u64v).toArray] w fun u w' => ∃ C, u = .agg (C.map u64v).toArray ∧ C.length = 67 ∧ W64 C ∧ tv C = (if 9223372036854775808 ≤ L.getD 66 0 then (MM - tv L) % MM else tv L) ∧ Chg [] w w' := by
 have hch := crf w;refine zE1 Tryz.func197 rfl ?_;refine Sr fun _ kh1 => ?_;refine WL.boxB (l := L.map u64v) rfl rfl rfl fun b1 wm1 hb1 hcm1 hge1 => ?_;have hB1 : TB wm1 b1 249 L [] := TB.of hb1;have hch := hch.trans hcm1;refine WL.allocB (l := (List.replicate 67 0).map u64v) rfl rfl fun b2 wm2 hb2 hcm2 hge2 => ?_;have hne := zdd hB1.lt hge2;have hB1 := hB1.keep0 hcm2;have hch := hch.trans hcm2;have hw2 := hcm1.size;have hw3 := hcm2.size;refine zz (kh1 (zc fun _ kh3 => Sr fun _ kh4 => ?_));refine WL.call hasF198 rfl rfl (neg_spec b1 L _ hB1 hL hW) fun v w1 h' => ?_;obtain ⟨rfl, rfl⟩ := h';refine zz (kh4 ?_);refine zy rfl ?_ ?_<;>intro hc1<;>try simp only [qs] at hc1
 ·have hc63 : 9223372036854775808 ≤ L.getD 66 0 := by simpa using hc1
  refine zR fun _ kr6 => ?_;refine WL.call hasF276 rfl rfl (minus_spec b1 L _ hB1 hL hW) fun v w2 h' => ?_;obtain ⟨C, hB1, hC67, hCW, hCt, hC4⟩ := h';have hb2 := hb2.kq hC4;have hch := hch.step hC4 (fun y hy => by simp only [List.mem_singleton] at hy; subst hy; exact .inr (by omega));refine WL.nil (kr6 _ _ _ (kh3 ?_));refine Sr fun _ kh7 => ?_;refine WL.ev (Ev.loadA rfl rfl (TB.nil hB1) (by simp [hC67])) rfl ?_;refine WL.storeB (l' := C.map u64v) rfl rfl (by simp [hC67]) (by intro v hv; obtain ⟨x, _, rfl⟩ := List.mem_map.1 hv; rfl) hb2 (by simp [hC67]) (splice_all (C.map u64v) [] ((List.replicate 67 0).map u64v) (by simp [hC67])) fun ws hb2_ hcs => ?_;have hch := hch.step hcs (fun y hy => by simp only [List.mem_singleton] at hy; subst hy; exact .inr (by omega));refine zz (kh7 ?_);refine zr (bodyA.retR1 rfl (RVal.cell rfl (BK.varA hb2_ rfl (by simp [hC67]))) ?_);exact ⟨C, rfl, hC67, hCW, by rw [if_pos hc63]; exact hCt, hch⟩
 have hc63 : ¬ 9223372036854775808 ≤ L.getD 66 0 := by simpa using hc1
 refine zkk (kh3 (Sr fun _ kh9 => ?_));refine WL.ev (Ev.loadA rfl rfl (TB.nil hB1) (by simp [hL])) rfl ?_;refine WL.storeB (l' := L.map u64v) rfl rfl (by simp [hL]) (by intro v hv; obtain ⟨x, _, rfl⟩ := List.mem_map.1 hv; rfl) hb2 (by simp [hL]) (splice_all (L.map u64v) [] ((List.replicate 67 0).map u64v) (by simp [hL])) fun ws hb2_ hcs => ?_;have hch := hch.step hcs (fun y hy => by simp only [List.mem_singleton] at hy; subst hy; exact .inr (by omega));refine zz (kh9 ?_);refine zr (bodyA.retR1 rfl (RVal.cell rfl (BK.varA hb2_ rfl (by simp [hL]))) ?_);exact ⟨L, rfl, hL, hW, by rw [if_neg hc63], hch⟩

end

/- Package super: count, put. No condition. -/
section
open Go Sx Wd
set_option exponentiation.threshold 5000

def countA (cls : Nat) (neg : Bool) (b : Nat) : Option Addr :=
  if cls = 4 then some ⟨b, 67, none⟩ else if cls = 3 ∧ neg = true then some ⟨b, 69, none⟩ else if cls = 3 then some ⟨b, 68, none⟩
  else if cls = 0 ∧ neg = true then some ⟨b, 70, none⟩ else if cls = 0 then some ⟨b, 71, none⟩ else none

theorem acount_spec (b : Nat) (t : TH) (w : World) (hW3 : t.W.length = 3) : Ret Tryz.prog 273 [.pointer (some ⟨b, 0, none⟩), .agg (thingV t).toArray] w fun u w' => u = .pointer (countA t.cls t.neg b) ∧ Chg [] w w' := by
 obtain ⟨cls, neg, tn, a_, W⟩ := t;dsimp only at hW3;obtain ⟨w0, w1, w2, rfl⟩ : ∃ w0 w1 w2, W = [w0, w1, w2] := by match W, hW3 with | [x, y, z], _ => exact ⟨_, _, _, rfl⟩
 dsimp only;have hch := crf w;refine zE2 Tryz.func273 rfl ?_;refine Sr fun _ kh1 => ?_;refine zBh rfl rfl rfl hch fun b3 wm3 hb3 hcm3 hge3 hgehch3 hch => ?_;refine za rfl (zz (kh1 (zc fun _ kh3 => CW.block (Sr fun _ kh4 => zf rfl (zl hb3 rfl rfl (zq rfl rfl (za rfl (zz (kh4 ?_)))))))));refine zy rfl ?_ ?_<;>intro hc1<;>try simp only [qs] at hc1
 ·refine Sr fun _ kh6 => zm rfl (zP rfl (zf rfl (zf rfl (za rfl (zz (kh6 ?_))))));refine zr (zr1 rfl rfl ?_);refine ⟨?_, hch⟩;unfold countA;rw [if_pos (by omega)]
 refine CW.seqM 13 (decide (cls = 3 ∧ neg = true)) ?_ ?_
 ·refine zS fun _ kr8 => zf rfl (zl hb3 rfl rfl (zq rfl rfl (zm rfl ?_)));refine zb ?_ ?_<;>intro hg2<;>try simp only [qs] at hg2
  ·refine zw rfl (zf rfl (zw rfl (zl hb3 rfl rfl (zt rfl rfl (za rfl (zz (kr8 ?_)))))));refine ⟨rfl, rfl, Subs.consB rfl ?_ ?_⟩
   ·first | (simp_all; done) | (simp; omega) | (cases neg <;> simp_all <;> omega)
   exact SMg
  refine zv rfl (zv rfl (ze rfl rfl (za rfl (zz (kr8 ?_)))));refine ⟨rfl, rfl, Subs.consB rfl ?_ ?_⟩
  ·first | (simp_all; done) | (simp; omega) | (cases neg <;> simp_all <;> omega)
  exact SMg
 refine zy rfl ?_ ?_<;>intro hc3<;>try simp only [qs] at hc3
 ·have hk3n := hc3
  refine Sr fun _ kh9 => zm rfl (zP rfl (zf rfl (zf rfl (za rfl (zz (kh9 ?_))))));refine zr (zr1 rfl rfl ?_);refine ⟨?_, hch⟩;unfold countA;rw [if_neg (by omega), if_pos hk3n]
 have hk3n := hc3;refine Sr fun _ kh11 => zf rfl (zl hb3 rfl rfl (zq rfl rfl (za rfl (zz (kh11 ?_)))));refine zy rfl ?_ ?_<;>intro hc4<;>try simp only [qs] at hc4
 ·refine Sr fun _ kh13 => zm rfl (zP rfl (zf rfl (zf rfl (za rfl (zz (kh13 ?_))))));refine zr (zr1 rfl rfl ?_);refine ⟨?_, hch⟩;unfold countA;rw [if_neg (by omega), if_neg hk3n, if_pos (by omega)]
 refine CW.seqM 33 (decide (cls = 0 ∧ neg = true)) ?_ ?_
 ·refine zS fun _ kr15 => zf rfl (zl hb3 rfl rfl (zq rfl rfl (zm rfl ?_)));refine zb ?_ ?_<;>intro hg5<;>try simp only [qs] at hg5
  ·refine zw rfl (zf rfl (zw rfl (zl hb3 rfl rfl (zt rfl rfl (za rfl (zz (kr15 ?_)))))));refine ⟨rfl, rfl, Subs.consB rfl ?_ ?_⟩
   ·first | (simp_all; done) | (simp; omega) | (cases neg <;> simp_all <;> omega)
   exact SMg
  refine zv rfl (zv rfl (ze rfl rfl (za rfl (zz (kr15 ?_)))));refine ⟨rfl, rfl, Subs.consB rfl ?_ ?_⟩
  ·first | (simp_all; done) | (simp; omega) | (cases neg <;> simp_all <;> omega)
  exact SMg
 refine zy rfl ?_ ?_<;>intro hc6<;>try simp only [qs] at hc6
 ·have hk0n := hc6
  refine Sr fun _ kh16 => zm rfl (zP rfl (zf rfl (zf rfl (za rfl (zz (kh16 ?_))))));refine zr (zr1 rfl rfl ?_);refine ⟨?_, hch⟩;unfold countA;rw [if_neg (by omega), if_neg hk3n, if_neg (by omega), if_pos hk0n]
 have hk0n := hc6;refine Sr fun _ kh18 => zf rfl (zl hb3 rfl rfl (zq rfl rfl (za rfl (zz (kh18 ?_)))));refine zy rfl ?_ ?_<;>intro hc7<;>try simp only [qs] at hc7
 ·refine Sr fun _ kh20 => zm rfl (zP rfl (zf rfl (zf rfl (za rfl (zz (kh20 ?_))))));refine zr (zr1 rfl rfl ?_);refine ⟨?_, hch⟩;unfold countA;rw [if_neg (by omega), if_neg hk3n, if_neg (by omega), if_neg hk0n, if_pos (by omega)]
 refine zkk (kh3 (Sr fun _ kh22 => za rfl (zz (kh22 ?_))));refine zr (zr1 rfl rfl ?_);refine ⟨?_, hch⟩;unfold countA;rw [if_neg (by omega), if_neg hk3n, if_neg (by omega), if_neg hk0n, if_neg (by omega)]

theorem aput_spec {R : List Value} (b : Nat) (L W : List Nat) (a_ : Nat) (tn less : Bool) (S : Int) (w : World) (hB : TB w b 251 L R) (hr : Rep L S) (hW3 : W.length = 3) (hWW : W64 W) (ha : a_ ≤ 64) (S2 : Int) (hS2 : S2 = if (tn != less) = true then S - ((tv W * 18446744073709551616 ^ a_ : Nat) : Int) else S + ((tv W * 18446744073709551616 ^ a_ : Nat) : Int)) (h1 : -((16384 * BB : Nat) : Int) < S2) (h2 : S2 < (16384 * BB : Nat)) : Ret Tryz.prog 274 [.pointer (some ⟨b, 0, none⟩), .agg (termV tn a_ W).toArray, .bool less] w fun u w' => u = .bool true ∧ ∃ C, TB w' b 251 C R ∧ Rep C S2 ∧ Chg [b] w w' := by
 obtain ⟨x0, x1, x2, rfl⟩ : ∃ x0 x1 x2, W = [x0, x1, x2] := by match W, hW3 with | [x, y, z], _ => exact ⟨_, _, _, rfl⟩
 have hch : Chg [b] w w := Chg.refl _ _;refine zE3 Tryz.func274 rfl ?_;refine Sr fun _ kh1 => ?_;refine zBh rfl rfl rfl hch fun b4 wm4 hb4 hcm4 hge4 hgehch4 hch => ?_;have hneb4 : b ≠ b4 := by have := hB.lt; omega
 have hB := hB.keep0 hcm4;refine za rfl (zz (kh1 (zc fun _ kh3 => ?_)));refine CW.regionTC 5 hmix (by kernel_rfl) fun kR4 kr4 hdr => ?_;have hch := hch.ta hdr;have hB := hB.keep0 hdr;have hb4 := hb4.k0 hdr;refine ym rfl (yP rfl (yf rfl ?_));refine WS.ev (Ev.loadA rfl rfl hb4 rfl) rfl ?_;refine ym rfl ?_;refine WS.nil ?_;refine WL.call hasF315 rfl rfl (move_spec b L [x0, x1, x2] a_ tn less _ hB hr.len hr.w rfl hWW ha) fun v w1 h' => ?_;obtain ⟨C, hB, hCl, hCw, hMv, hC12⟩ := h';have hRC := hMv.rep hr hCl hCw;rw [← hS2] at hRC;have hch := hch.step hC12 (fun y hy => by simp only [List.mem_singleton] at hy; subst hy; exact .inl (by simp));refine WL.nil (kr4 _ _ _ (kh3 ?_));refine zc fun _ kh5 => Sr fun _ kh6 => zm rfl (zP rfl (zf rfl ?_));refine WL.call hasF316 rfl rfl (great_spec b C S2 _ hB hRC h1 h2) fun v w2 h' => ?_;obtain ⟨rfl, hC16⟩ := h';have hch := hch.ta hC16;have hB := hB.keep0 hC16;refine zz (kh6 ?_);refine CW.condF rfl ?_;refine zkk (kh5 (Sr fun _ kh8 => za rfl (zz (kh8 ?_))));refine zr (zr1 rfl rfl ?_);exact ⟨rfl, C, hB, hRC, hch⟩

end

/- Package super: more, Add. No condition. -/
section
open Go Sx Wd
set_option exponentiation.threshold 5000

def cnt1 (s : SP) (cls : Nat) (neg : Bool) : SP :=
  if cls = 4 then ⟨s.na + 1, s.up, s.dn, s.mi, s.pl, s.al + 1⟩ else if cls = 3 ∧ neg = true then ⟨s.na, s.up, s.dn + 1, s.mi, s.pl, s.al + 1⟩ else if cls = 3 then ⟨s.na, s.up + 1, s.dn, s.mi, s.pl, s.al + 1⟩
  else if cls = 0 ∧ neg = true then ⟨s.na, s.up, s.dn, s.mi + 1, s.pl, s.al + 1⟩ else if cls = 0 then ⟨s.na, s.up, s.dn, s.mi, s.pl + 1, s.al + 1⟩ else ⟨s.na, s.up, s.dn, s.mi, s.pl, s.al + 1⟩
def thv (t : TH) : Int := if t.cls = 1 ∨ t.cls = 2 then (if t.tn = true then -((tv t.W * 18446744073709551616 ^ t.at_ : Nat) : Int) else ((tv t.W * 18446744073709551616 ^ t.at_ : Nat) : Int)) else 0
theorem TB.tl {w : World} {b : Nat} {T : TypeId} {L : List Nat} {R : List Value} {j : Nat} {v : Value} (h : TB w b T L R) (hL : L.length = 67) (hv : R[j]? = some v) : w.cell? ⟨b, 67 + j, none⟩ = some v := by rw [← hL]; exact h.tail_ hv
theorem TB.setr {L : List Nat} {R R' : List Value} {i j : Nat} {v : Value} (hL : L.length = 67) (hi : i = 67 + j) (hR : R.set j v = R') : (L.map u64v ++ R).set i v = L.map u64v ++ R' := by
  subst hi
  rw [List.set_append_right _ _ (by simp; omega), List.length_map, hL, Nat.add_sub_cancel_left, hR]

theorem countA_cases (s : SP) (cls : Nat) (neg : Bool) (b N : Nat) (hs : s.le N) (hc : cls ≤ 4) :
    (∃ k v : Nat, countA cls neg b = some ⟨b, 67 + k, none⟩ ∧ k < 5 ∧ s.cells[k]? = some (.int .i64 (v : Int)) ∧ v ≤ N ∧ (s.cells.set k (.int .i64 ((v : Int) + 1))).set 5 (.int .i64 ((s.al : Int) + 1)) = (cnt1 s cls neg).cells ∧ (s.cells.set k (.int .i64 ((v : Int) + 1)))[5]? = some (.int .i64 (s.al : Int)) ∧ ¬ (cls = 1 ∨ cls = 2))
    ∨ (countA cls neg b = none ∧ s.cells.set 5 (.int .i64 ((s.al : Int) + 1)) = (cnt1 s cls neg).cells ∧ (cls = 1 ∨ cls = 2)) := by
  obtain ⟨a1, a2, a3, a4, a5, a6⟩ := hs
  unfold countA cnt1
  by_cases q1 : cls = 4
  · rw [if_pos q1, if_pos q1]; exact .inl ⟨0, s.na, rfl, by decide, rfl, a1, by simp [SP.cells], rfl, by omega⟩
  rw [if_neg q1, if_neg q1]
  by_cases q2 : cls = 3 ∧ neg = true
  · rw [if_pos q2, if_pos q2]; exact .inl ⟨2, s.dn, rfl, by decide, rfl, a3, by simp [SP.cells], rfl, by omega⟩
  rw [if_neg q2, if_neg q2]
  by_cases q3 : cls = 3
  · rw [if_pos q3, if_pos q3]; exact .inl ⟨1, s.up, rfl, by decide, rfl, a2, by simp [SP.cells], rfl, by omega⟩
  rw [if_neg q3, if_neg q3]
  by_cases q4 : cls = 0 ∧ neg = true
  · rw [if_pos q4, if_pos q4]; exact .inl ⟨3, s.mi, rfl, by decide, rfl, a4, by simp [SP.cells], rfl, by omega⟩
  rw [if_neg q4, if_neg q4]
  by_cases q5 : cls = 0
  · rw [if_pos q5, if_pos q5]; exact .inl ⟨4, s.pl, rfl, by decide, rfl, a5, by simp [SP.cells], rfl, by omega⟩
  rw [if_neg q5, if_neg q5]
  exact .inr ⟨rfl, by simp [SP.cells], by omega⟩

theorem more_spec (b : Nat) (L : List Nat) (t : TH) (s : SP) (S : Int) (w : World) (hB : TB w b 251 L s.cells) (hr : Rep L S) (hW3 : t.W.length = 3) (hWW : W64 t.W) (ha : t.at_ ≤ 64) (hcl : t.cls ≤ 4) (hs : s.le 1099511627775) (h1 : -((16384 * BB : Nat) : Int) < S + thv t) (h2 : S + thv t < (16384 * BB : Nat)) : Ret Tryz.prog 192 [.pointer (some ⟨b, 0, none⟩), .agg (thingV t).toArray] w fun u w' => u = .int .i64 0 ∧ ∃ C, TB w' b 251 C (cnt1 s t.cls t.neg).cells ∧ Rep C (S + thv t) ∧ Chg [b] w w' := by
 obtain ⟨cls, neg, tn, a_, W⟩ := t;dsimp only at hW3 hWW ha hcl;obtain ⟨x0, x1, x2, rfl⟩ : ∃ x0 x1 x2, W = [x0, x1, x2] := by match W, hW3 with | [x, y, z], _ => exact ⟨_, _, _, rfl⟩
 dsimp only;have hs6 := hs.2.2.2.2.2;have hL := hr.len;have hch : Chg [b] w w := Chg.refl _ _;refine zE2 Tryz.func192 rfl ?_;refine Sr fun _ kh1 => ?_;refine zBh rfl rfl rfl hch fun b3 wm3 hb3 hcm3 hge3 hgehch3 hch => ?_;have hneb3 : b ≠ b3 := by have := hB.lt; omega
 have hB := hB.keep0 hcm3;refine za rfl (zz (kh1 (zc fun _ kh3 => Sr fun _ kh4 => zm rfl (zP rfl (zf rfl (zf rfl ?_))))));refine WL.ev (Ev.load rfl rfl (TB.tl (j := 5) hB hL rfl)) rfl ?_;refine zq rfl rfl (zz (kh4 ?_));refine zy rfl ?_ ?_<;>intro hc1<;>try simp only [qs] at hc1
 ·exfalso; omega
 refine zkk (kh3 (zc fun _ kh6 => Sr fun _ kh7 => zm rfl (zg hb3 rfl ?_)));refine WL.call hasF273 rfl rfl (acount_spec b ⟨cls, neg, tn, a_, [x0, x1, x2]⟩ _ rfl) fun v w1 h' => ?_;obtain ⟨rfl, hC14⟩ := h';have hch := hch.ta hC14;have hB := hB.keep0 hC14;have hb3 := hb3.k0 hC14;dsimp only; rcases countA_cases s cls neg b _ hs hcl with ⟨k, v, hk1, hk2, hk3, hk4, hk5, hk6, hk7⟩ | ⟨hk1, hk5, hk7⟩
 ·rw [hk1];refine za rfl (zz (kh7 (Sr fun _ kh9 => zm rfl ?_)));refine WL.ev (Ev.neqPtrNil rfl rfl) rfl ?_;refine zz (kh9 ?_);refine CW.condT rfl ?_;refine zR fun _ kr11 => ?_;refine zm rfl (zP rfl ?_);refine WL.ev (Ev.load rfl rfl (TB.tl (j := k) hB hL hk3)) rfl ?_;(first | refine zi rfl rfl ?_ | refine zo rfl rfl ?_);refine zP rfl ?_;refine WL.storeC (l' := L.map u64v ++ s.cells.set k (.int .i64 ((v : Int) + 1))) rfl rfl rfl hB (by simp [SP.cells, hL]; omega) (TB.setr (j := k) hL rfl rfl) fun ws5 hB_ hcs5 => ?_;have hch := hch.step hcs5 (fun y hy => by simp only [List.mem_singleton] at hy; subst hy; exact .inl (by simp));have hB := hB_;refine WL.nil (kr11 _ _ _ (kh6 ?_));refine Sr fun _ kh12 => zm rfl (zP rfl (zf rfl (zf rfl ?_)));refine WL.ev (Ev.load rfl rfl (TB.tl (j := 5) hB hL hk6)) rfl ?_;(first | refine zi rfl rfl ?_ | refine zo rfl rfl ?_);refine zP rfl (zf rfl (zf rfl ?_));refine WL.storeC (l' := L.map u64v ++ (cnt1 s cls neg).cells) rfl rfl rfl hB (by simp [SP.cells, hL]) (TB.setr (j := 5) hL rfl hk5) fun ws8 hB_ hcs8 => ?_;have hch := hch.step hcs8 (fun y hy => by simp only [List.mem_singleton] at hy; subst hy; exact .inl (by simp));have hB := hB_;refine zz (kh12 (Sr fun _ kh14 => za rfl (zz (kh14 ?_))));refine zr (zr1 rfl rfl ?_);have e0 : thv ⟨cls, neg, tn, a_, [x0, x1, x2]⟩ = 0 := if_neg hk7;rw [e0, Int.add_zero];exact ⟨rfl, L, hB, hr, hch⟩
 rw [hk1];have hb3 : BK _ b3 _ [.int .i64 (cls : Int), .bool neg, .bool tn, .int .i64 (a_ : Int), u64v x0, u64v x1, u64v x2] := hb3;refine za rfl (zz (kh7 (Sr fun _ kh16 => zm rfl ?_)));refine WL.ev (Ev.neqPtrNil rfl rfl) rfl ?_;refine zz (kh16 ?_);refine CW.condF rfl ?_;refine Sr fun _ kh18 => zm rfl (zf rfl ?_);refine WL.ev (Ev.loadB rfl rfl hb3 rfl rfl) rfl ?_;simp only [List.drop_succ_cons, List.drop_zero, List.take_succ_cons, List.take_zero];refine WL.call hasF274 rfl rfl (aput_spec b L [x0, x1, x2] a_ tn false S _ hB hr rfl hWW ha (S + thv ⟨cls, neg, tn, a_, [x0, x1, x2]⟩) (by show S + (if cls = 1 ∨ cls = 2 then _ else _) = _; rw [if_pos hk7]; cases tn <;> simp [Int.sub_eq_add_neg]) h1 h2) fun v w2 h' => ?_;obtain ⟨rfl, C, hB_, hRC, hC25⟩ := h';have hch := hch.step hC25 (fun y hy => by simp only [List.mem_singleton] at hy; subst hy; exact .inl (by simp));have hB := hB_;refine zT rfl (zz (kh18 ?_));refine CW.condF rfl ?_;refine zkk (kh6 (Sr fun _ kh20 => zm rfl (zP rfl (zf rfl (zf rfl ?_)))));refine WL.ev (Ev.load rfl rfl (TB.tl (j := 5) hB hRC.len rfl)) rfl ?_;(first | refine zi rfl rfl ?_ | refine zo rfl rfl ?_);refine zP rfl (zf rfl (zf rfl ?_));refine WL.storeC (l' := C.map u64v ++ (cnt1 s cls neg).cells) rfl rfl rfl hB (by simp [SP.cells, hRC.len]) (TB.setr (j := 5) hRC.len rfl hk5) fun ws8 hB_ hcs8 => ?_;have hch := hch.step hcs8 (fun y hy => by simp only [List.mem_singleton] at hy; subst hy; exact .inl (by simp));have hB := hB_;refine zz (kh20 (Sr fun _ kh22 => za rfl (zz (kh22 ?_))));refine zr (zr1 rfl rfl ?_);exact ⟨rfl, C, hB, hRC, hch⟩

end

/- Package super: Add. No condition. -/
section
open Go Sx Wd
set_option exponentiation.threshold 5000

theorem oneP_ok {x : Nat} : (oneP x).W.length = 3 ∧ W64 (oneP x).W ∧ (oneP x).at_ ≤ 64 ∧ (oneP x).cls ≤ 4 ∧ (oneP x).cls = (splitP x).cls ∧ (oneP x).neg = (splitP x).neg := by
  have hc := splitP_cls x
  unfold oneP
  split
  · rename_i h
    have hf := splitP_fin h
    exact ⟨rfl, laidW_w (by omega) (by decide) (by omega), by dsimp only; omega, hc, rfl, rfl⟩
  · exact ⟨rfl, fun y hy => by simp at hy; omega, by dsimp only; omega, hc, rfl, rfl⟩

theorem acAdd_spec (b : Nat) (L : List Nat) (x : Nat) (s : SP) (S : Int) (w : World) (hB : TB w b 251 L s.cells) (hr : Rep L S) (hx : x < 18446744073709551616) (hs : s.le 1099511627775) (h1 : -((16384 * BB : Nat) : Int) < S + thv (oneP x)) (h2 : S + thv (oneP x) < (16384 * BB : Nat)) : Ret Tryz.prog 101 [.pointer (some ⟨b, 0, none⟩), .float .f64 x] w fun u w' => u = .int .i64 0 ∧ ∃ C, TB w' b 251 C (cnt1 s (splitP x).cls (splitP x).neg).cells ∧ Rep C (S + thv (oneP x)) ∧ Chg [b] w w' := by
 have hch : Chg [b] w w := Chg.refl _ _;obtain ⟨ho1, ho2, ho3, ho4, ho5, ho6⟩ := @oneP_ok x;refine zE2 Tryz.func101 rfl ?_;refine Sr fun _ kh1 => za rfl (zz (kh1 (Sr fun _ kh3 => zm rfl (zm rfl ?_))));refine WL.call hasF193 rfl rfl (one_spec x _ hx) fun v w1 h' => ?_;obtain ⟨rfl, hC7⟩ := h';have hch := hch.ta hC7;have hB := hB.keep0 hC7;refine WL.call hasF192 rfl rfl (more_spec b L (oneP x) s S _ hB hr ho1 ho2 ho3 ho4 hs h1 h2) fun v w2 h' => ?_;obtain ⟨rfl, C, hB, hRC, hC8⟩ := h';rw [ho5, ho6] at hB;have hch := hch.step hC8 (fun y hy => by simp only [List.mem_singleton] at hy; subst hy; exact .inl (by simp));refine za rfl (zz (kh3 ?_));refine zr (zr1 rfl rfl ?_);exact ⟨rfl, C, hB, hRC, hch⟩

end

/- math/bits: Mul64. No condition. -/
section
open Go Sx Wd
set_option exponentiation.threshold 5000

end

/- Package super: product. No condition. -/
section
open Go Sx Wd
set_option exponentiation.threshold 5000

def prodP (x y : Nat) : TH :=
  if (splitP x).cls = 4 ∨ (splitP y).cls = 4 ∨ (min (splitP x).cls (splitP y).cls = 0 ∧ max (splitP x).cls (splitP y).cls = 3) then ⟨4, false, false, 0, [0, 0, 0]⟩
  else if (splitP x).cls = 3 ∨ (splitP y).cls = 3 then ⟨3, (splitP x).neg != (splitP y).neg, false, 0, [0, 0, 0]⟩
  else if (splitP x).cls = 0 ∨ (splitP y).cls = 0 then ⟨0, (splitP x).neg != (splitP y).neg, false, 0, [0, 0, 0]⟩
  else ⟨2, (splitP x).neg != (splitP y).neg, (splitP x).neg != (splitP y).neg, ((splitP x).exp + (splitP y).exp + 2148).toNat / 64, laidW ((splitP x).frac * (splitP y).frac / 18446744073709551616) ((splitP x).frac * (splitP y).frac % 18446744073709551616) (((splitP x).exp + (splitP y).exp + 2148).toNat % 64)⟩
end

/- Package super: AddProduct. No condition. -/
section
open Go Sx Wd
set_option exponentiation.threshold 5000

end

/- Package super: Exact. No condition. -/
section
open Go Sx Wd
set_option exponentiation.threshold 5000

def prs : List Nat → List Nat
  | [] => []
  | x :: l => x % 4294967296 :: x / 4294967296 :: prs l
theorem prs_len : ∀ l, (prs l).length = 2 * l.length
  | [] => rfl
  | x :: l => by simp only [prs, List.length_cons, prs_len l]; omega
theorem prs_snoc : ∀ (l : List Nat) (x : Nat), prs (l ++ [x]) = prs l ++ [x % 4294967296, x / 4294967296]
  | [], x => rfl
  | y :: l, x => by simp only [List.cons_append, prs, prs_snoc l x]
theorem prs_val : ∀ l, val (prs l) = tv l
  | [] => rfl
  | x :: l => by simp only [prs, val, tv, prs_val l]; omega
theorem prs_W : ∀ {l : List Nat}, W64 l → W (prs l)
  | [], _ => fun y hy => by cases hy
  | x :: l, h => by
    have hx := h x (List.mem_cons_self ..)
    exact W_cons.2 ⟨Nat.mod_lt _ (by decide), W_cons.2 ⟨by omega, prs_W fun y hy => h y (List.mem_cons_of_mem _ hy)⟩⟩
theorem prs_step {C : List Nat} {i : Nat} (h : i < C.length) (hW : W64 C) : prs (C.take i) ++ [C.getD i 0 % 4294967296, C.getD i 0 / 4294967296 % 4294967296] = prs (C.take (i + 1)) := by
  have hx := hW.getD i
  rw [show C.take (i + 1) = C.take i ++ [C.getD i 0] by rw [List.take_add_one, List.getD_eq_getElem?_getD, List.getElem?_eq_getElem h]; rfl, prs_snoc, Nat.mod_eq_of_lt (a := C.getD i 0 / 4294967296) (by omega)]
theorem lt_of_some {l : List Value} {j : Nat} {v : Value} (h : l[j]? = some v) : j < l.length := (List.getElem?_eq_some_iff.1 h).1
theorem wd_len_gen {n k K : Nat} (h : n < 2 ^ k) (hk : k ≤ 32 * K) : (wd n).length ≤ K := wd_length_le.2 (Nat.lt_of_lt_of_le h (Nat.pow_le_pow_right (by decide) hk))
def sumD (S : Int) : Dy := (formD (decide (S < 0)) S.natAbs (-2148)).getD Dy.zero
theorem sumD_eq {S : Int} (h1 : -((16384 * BB : Nat) : Int) < S) (h2 : S < (16384 * BB : Nat)) (neg : Bool) : formD neg S.natAbs (-2148) = some (if S = 0 then Dy.zero else ⟨neg, S.natAbs / 2 ^ tz S.natAbs, -2148 + tz S.natAbs⟩) := by
  by_cases h0 : S = 0
  · subst h0; rfl
  · have hn : S.natAbs ≠ 0 := by omega
    have hlt : S.natAbs < 2 ^ 4238 := by
      have : 16384 * BB = 2 ^ 4238 := by unfold BB; rw [show (18446744073709551616 : Nat) = 2 ^ 64 from rfl, ← Nat.pow_mul, show (16384 : Nat) = 2 ^ 14 from rfl, ← Nat.pow_add]
      rw [← this]; omega
    have hb := bl_le.2 hlt
    have ht := tz_lt_bl hn
    rw [if_neg h0, formD_some hn]
    have h3 : (wd (S.natAbs / 2 ^ tz S.natAbs)).length ≤ 8192 := wd_len_gen (Nat.lt_of_le_of_lt (Nat.div_le_self _ _) hlt) (by omega)
    omega
theorem prs_step' {C : List Nat} {i : Nat} (h : i < C.length) (hW : W64 C) : prs (C.take i) ++ [C.getD i 0 % 4294967296, C.getD i 0 / 2 ^ 32 % 4294967296] = prs (C.take (i + 1)) := prs_step h hW
structure KEx (C : List Nat) (b2 : Nat) (w0 : World) (g : Nat × Value) (w : World) : Prop where
  i : g.1 ≤ 67
  gr : GR w 209 u32v w0.heap.size [b2] g.2 (prs (C.take g.1))
  h2 : BK w b2 107 [.bool false, .slice none 0 0, .int .i64 0]
  ge : w0.heap.size ≤ b2
  ch : Chg [] w0 w
theorem rep_abs {L C : List Nat} {S : Int} (hr : Rep L S) (h1 : -((16384 * BB : Nat) : Int) < S) (h2 : S < (16384 * BB : Nat)) (hC : tv C = (if 9223372036854775808 ≤ L.getD 66 0 then (MM - tv L) % MM else tv L)) :
    decide (9223372036854775808 ≤ L.getD 66 0) = decide (S < 0) ∧ tv C = S.natAbs := by
  have hM := MM_eq
  by_cases h0 : S < 0
  · obtain ⟨a, _, c⟩ := hr.neg h0 h1
    rw [if_pos (by omega)] at hC
    refine ⟨decide_eq_decide.2 (by omega), ?_⟩
    rw [hC, Nat.mod_eq_of_lt (by omega)]
    omega
  · obtain ⟨a, c⟩ := hr.pos (by omega) h2
    rw [if_neg (by omega)] at hC
    refine ⟨decide_eq_decide.2 (by omega), ?_⟩
    rw [hC]; omega

theorem Exact_spec {R : List Value} (b : Nat) (L : List Nat) (S : Int) (w : World) (hB : TB w b 251 L R) (hr : Rep L S) (hg : GW w) (h1 : -((16384 * BB : Nat) : Int) < S) (h2 : S < (16384 * BB : Nat)) : Ret Tryz.prog 108 [.pointer (some ⟨b, 0, none⟩)] w fun u w' => DY w' u (sumD S) ∧ Chg [] w w' := by
 have hch := crf w;have hLL := hr.len;have hB0 := hB;have hg0 := hg;refine zE1 Tryz.func108 rfl ?_;refine Sr fun _ kh1 => ?_;refine zAh rfl rfl hch fun b2 wm2 hb2 hcm2 hge2 hgehch2 hch => ?_;have hneb2 : b ≠ b2 := by have := hB.lt; omega
 have hB := hB.keep0 hcm2;refine zz (kh1 (Sr fun _ kh3 => zm rfl (zP rfl (zf rfl ?_))));refine WL.ev (Ev.loadAgg (cs := L.map u64v) rfl (by simp [hLL]) rfl (fun j v hv => by rw [add_addr, Nat.zero_add]; exact BK.at_ hB (by rw [List.getElem?_append_left (lt_of_some hv)]; exact hv))) rfl ?_;refine WL.call hasF197 rfl rfl (size_spec L _ hLL hr.w) fun v w1 h' => ?_;obtain ⟨C, rfl, hCl, hCw, hCv, hC13⟩ := h';have hch := hch.ta hC13;have hB := hB.keep0 hC13;have hb2 := hb2.k0 hC13;refine WL.allocB (l := (List.replicate 67 0).map u64v) rfl rfl fun b3 wm3 hb3 hcm3 hge3 => ?_;have hne3 : b ≠ b3 := by have := hB.lt; omega
 have hne23 := zdd hb2.lt hge3;have hw3 := hch.size;have hch := hch.trans hcm3;have hb2 := hb2.k0 hcm3;have hB := hB.keep0 hcm3;refine WL.storeB (l' := C.map u64v) rfl rfl (by simp [hCl]) (by intro v hv; obtain ⟨x, _, rfl⟩ := List.mem_map.1 hv; rfl) hb3 (by simp [hCl]) (splice_all (C.map u64v) [] ((List.replicate 67 0).map u64v) (by simp [hCl])) fun ws3 hb3 hcs3 => ?_;have hch := hch.step hcs3 (fun y hy => by simp only [List.mem_singleton] at hy; subst hy; exact .inr (by omega));have hb2 := hb2.kq hcs3;have hB := hB.kq hcs3;refine zz (kh3 (Sr fun _ kh5 => za rfl (zz (kh5 (zc fun _ kh7 => Sr fun _ kh8 => ?_)))));refine WL.ev (Ev.loadA rfl rfl hb3 (by simp [hCl])) rfl ?_;refine zm rfl (zz (kh8 (CW.block ?_)));refine CW.loop (S := fun g : Nat × Value => [(0, .pointer (some ⟨b, 0, none⟩)), (2, .pointer (some ⟨b2, 0, none⟩)), (4, g.2), (14, .agg (C.map u64v).toArray), (15, .int .i64 (g.1 : Int))]) (Inv := KEx C b2 w) (mu := fun g => 67 - g.1) ((0, .slice none 0 0)) ?_ ?_ ?_
 ·exact ⟨by omega, GR.nil, hb2, hge2, hch⟩
 ·exact SLp
 rintro ⟨i, vo⟩ wr ⟨hi, hgr, hb2, hge2, hch⟩;dsimp only at hi hgr hb2 hge2 hch;dsimp only;have hx := hCw.getD i;have hpl := prs_len (C.take i);rw [List.length_take] at hpl;have hws := hch.size;refine Sr fun _ kh10 => zL rfl rfl (zz (kh10 (zc fun _ kh12 => ?_)));refine zy rfl ?_ ?_<;>intro hc1<;>try simp only [qs] at hc1
 ·refine zkk (kh12 (zc fun _ kh13 => CW.block (Sr fun _ kh14 => ?_)));refine WL.ev (Ev.indexAr (i := i) (v := u64v (C.getD i 0)) rfl rfl (by omega) rfl (map_at u64v 0 (by omega))) rfl ?_
  refine za rfl (zz (kh14 ?_));refine zR fun _ kr16 => ?_;refine zm rfl (zm rfl ?_);refine WL.ev (Ev.conv32 rfl rfl) rfl ?_;refine zm rfl ?_;refine WL.ev (Ev.shrU (b := 32) rfl rfl (by simp only [IntKind.bits]; omega)) rfl ?_;refine WL.ev (Ev.conv32 rfl rfl) rfl ?_;refine WL.buildSlice (m := 2) (cs := [u32v (((C.getD i 0) % 4294967296)), u32v ((((C.getD i 0) / 2 ^ 32) % 4294967296))]) (by decide) (by decide) rfl (by kernel_rfl) rfl fun b24 w24 hn24 => ?_;have hcm24 := hn24.chg;have hge24 := hn24.ge;have hb24 : OB w24 b24 _ [((C.getD i 0) % 4294967296), (((C.getD i 0) / 2 ^ 32) % 4294967296)] := hn24.at_;have hgehch24 := Nat.le_trans hch.size hge24;have hch := hch.ta hcm24;have hneb224 := zdd hb2.lt hge24;have hb2 := hb2.k0 hcm24;have hgr := hgr.keep0 hcm24;refine WL.growR (f := u32v) (lo := w.heap.size) (X := [b2]) (l := prs (C.take i)) (news := [((C.getD i 0) % 4294967296), (((C.getD i 0) / 2 ^ 32) % 4294967296)]) (by rfl) (fun i => rfl) rfl rfl hgr (by first | rfl | (simp; done) | (simp; omega) | omega) hb24.row (by first | omega | exact hch.size | exact Nat.le_refl _) (by intro y hy; simp only [List.mem_singleton] at hy; subst hy; exact hb2.lt) (by simp only [List.length_append, List.length_cons, List.length_nil]; omega) (by simp only [List.length_append, List.length_cons, List.length_nil]; omega) rfl fun v25 w25 hg25 hcg25 => ?_;have hch := GR.frame hgr hcg25 hch (by first | omega | exact Nat.le_refl _);have hb2 := hb2.keep hcg25 (hgr.notin (by first | exact .inl (by simp) | exact .inr (by omega)));have hgr := hg25;rw [show (prs (C.take i) ++ [((C.getD i 0) % 4294967296), (((C.getD i 0) / 2 ^ 32) % 4294967296)]) = prs (C.take (i + 1)) from by exact prs_step' (by omega) hCw] at hgr;refine za rfl ?_;refine WL.nil (kr16 _ _ _ (kh13 ?_));refine zS fun _ kr17 => ?_;(first | refine zi rfl rfl ?_ | refine zo rfl rfl ?_);refine zm rfl (zz (kr17 ?_));refine ⟨rfl, (i + 1, v25), ?_, ?_, ?_⟩
  ·exact SLp
  ·exact ⟨by omega, hgr, hb2, hge2, hch⟩
  show 67 - (i + 1) < 67 - i; omega
 have hi67 : i = 67 := by omega
 subst hi67;have hB := hB0.keep0 hch;have hg := hg0.keep0 hch;have hNU := hgr.nu (by rw [List.take_of_length_le (by omega)]; exact prs_W hCw) (by omega);rw [List.take_of_length_le (by omega)] at hNU;obtain ⟨ea, ec⟩ := rep_abs hr h1 h2 hCv;refine CW.exit ?_;refine kh7 (Sr fun _ kh18 => zm rfl (zP rfl (zf rfl ?_)));refine WL.call hasF198 rfl rfl (neg_spec b L _ hB hLL hr.w) fun v w2 h' => ?_;obtain ⟨rfl, rfl⟩ := h';rw [ea];refine zm rfl ?_;refine WL.call hasF128 rfl rfl (Make_spec (decide (S < 0)) vo (prs C) (-2148) _ hNU hg (by omega)) fun v w3 h' => ?_;obtain ⟨hDR, hC33⟩ := h';have hfe := sumD_eq h1 h2 (decide (S < 0));rw [prs_val, ec] at hDR;have hsD : formD (decide (S < 0)) S.natAbs (-2148) = some (sumD S) := by unfold sumD; rw [hfe]; rfl
 rcases hDR with ⟨r, dd, he33, rfl, hN33⟩ | ⟨he33, _⟩
 rotate_left
 · rw [hsD] at he33; cases he33
 rw [hsD] at he33;cases he33;have hch := hch.ta hC33;have hb2 := hb2.k0 hC33;refine zm rfl (zx rfl rfl (zx rfl rfl ?_));refine zAh rfl rfl hch fun b7 wm7 hb7 hcm7 hge7 hgehch7 hch => ?_;have hN33 := hN33.keep0 hcm7;have hneb27 := zdd hb2.lt hge7;have hb2 := hb2.k0 hcm7;refine zss rfl rfl ao hb7 rfl fun ws8 hb7_ hcs8 => ?_;(try simp only [Sx.splice, qt] at hb7_);have hch := hch.s1 hcs8;have hb2 := hb2.kq hcs8;have hN33 := hN33.keepBK hb7 hcs8 an;have hb7 := hb7_;refine za rfl (zz (kh18 (Sr fun _ kh20 => zg hb7 rfl ?_)));refine zss rfl rfl ao hb2 rfl fun ws9 hb2_ hcs9 => ?_;(try simp only [Sx.splice, qt] at hb2_);have hch := hch.s1 hcs9;have hN33 := hN33.keepBK hb2 hcs9 an;have hb2 := hb2_;refine zz (kh20 ?_);refine zr (bodyA.retR1 rfl (RVal.cell rfl (hb2.varA rfl rfl)) ?_);exact ⟨⟨_, rfl, hN33⟩, hch⟩

end

/- Package root: about, digits. No condition. -/
section
open Go Sx Wd
set_option exponentiation.threshold 5000

theorem wd_len_lift {q y k : Nat} (h : (wd q).length ≤ k) (hy : y ≤ 32 * k) : (wd (2 * (q * 2 ^ y))).length ≤ 2 * k + 1 := by
  rw [wd_length_le] at h ⊢
  have h1 : q * 2 ^ y < 2 ^ (32 * k) * 2 ^ (32 * k) := Nat.lt_of_lt_of_le (Nat.mul_lt_mul_of_pos_right h (Nat.two_pow_pos _)) (Nat.mul_le_mul_left _ (Nat.pow_le_pow_right (by decide) hy))
  rw [← Nat.pow_add] at h1
  have h2 : 2 * 2 ^ (32 * k + 32 * k) ≤ 2 ^ (32 * (2 * k + 1)) := by
    rw [← Nat.pow_succ']; exact Nat.pow_le_pow_right (by decide) (by omega)
  omega
theorem wd_len_small {n k : Nat} (h : n < 2 ^ k) (hk : k ≤ 262144) : (wd n).length ≤ 8192 := wd_len_gen h (by omega)
theorem bl_len {n k : Nat} (h : (wd n).length ≤ k) : bl n ≤ 32 * k := bl_le.2 (wd_length_le.1 h)
theorem bl_small {n k : Nat} (h : n < 2 ^ k) : bl n ≤ k := bl_le.2 h
def aboutM (m : Nat) (cut : Bool) : Nat := 2 * m + if cut then 1 else 0
def aboutE (e : Int) : Int := max (-3000) (min 3000 (e - 1))
theorem aboutM_lt {m : Nat} {cut : Bool} (h : m < 2 ^ 82) : aboutM m cut < 2 ^ 84 := by unfold aboutM; cases cut <;> simp <;> omega
theorem about_form {neg : Bool} {m : Nat} {cut : Bool} {e : Int} (h : m < 2 ^ 82) : ∃ d, formD neg (aboutM m cut) (aboutE e) = some d := by
  have h2 := aboutM_lt (cut := cut) h
  by_cases h0 : aboutM m cut = 0
  · rw [h0]; exact ⟨_, rfl⟩
  · have ht := tz_lt_bl h0
    have hb := bl_small h2
    have h3 := wd_len_small (Nat.lt_of_le_of_lt (Nat.div_le_self _ (2 ^ tz (aboutM m cut))) h2) (by decide)
    refine ⟨_, formD_some h0 ?_⟩
    unfold aboutE
    omega
def aboutD (neg : Bool) (m : Nat) (cut : Bool) (e : Int) : Dy := (formD neg (aboutM m cut) (aboutE e)).getD Dy.zero

theorem about_spec (neg : Bool) (v : Value) (m : Nat) (cut : Bool) (e : Int) (w : World) (h : NU w v (wd m)) (hg : GW w) (hm : m < 2 ^ 82) (he : -1099511627776 ≤ e ∧ e ≤ 1099511627776) : Ret Tryz.prog 321 [.bool neg, v, .bool cut, .int .i64 e] w fun u w' => DY w' u (aboutD neg m cut e) ∧ Chg [] w w' := by
 have hch := crf w;have hb82 := bl_small hm;have hl82 := wd_len_small hm (by decide);obtain ⟨dd, hdd⟩ := about_form (neg := neg) (cut := cut) (e := e) hm;have hM84 := aboutM_lt (cut := cut) hm;have hg0 := hg;refine zE4 Tryz.func321 rfl ?_;refine Sr fun _ kh1 => ?_;refine zAh rfl rfl hch fun b8 wm8 hb8 hcm8 hge8 hgehch8 hch => ?_;have h := h.keep0 hcm8;refine zz (kh1 (Sr fun _ kh3 => zm rfl ?_));refine WL.call hasF172 rfl rfl (Shift_spec _ _ 1 _ h (by omega)) fun v w1 h' => ?_;obtain ⟨h', hC13⟩ := h';rw [val_wd, show shiftN m 1 = m * 2 ^ 1 from shiftN_pos m 1] at h';obtain ⟨_, r13, rfl, hN13⟩ := h'.resolve_right (fun q => q.1 ⟨hl82, .inr (by omega)⟩);have hch := hch.ta hC13;have hb8 := hb8.k0 hC13;refine zm rfl (zx rfl rfl (zx rfl rfl (za rfl (zz (kh3 (zc fun _ kh5 => Sr fun _ kh6 => zm rfl (zz (kh6 ?_))))))));refine zy rfl ?_ ?_<;>intro hc1<;>try simp only [qs] at hc1
 ·have hcT : cut = true := hc1
  refine zR fun _ kr8 => ?_;refine zm rfl ?_;refine WL.call hasF213 rfl rfl (Of_spec 1 _ (by decide)) fun v w2 h' => ?_;obtain ⟨hN19, hC19⟩ := h';have hch := hch.ta hC19;have hb8 := hb8.k0 hC19;have hN13 := hN13.keep0 hC19;refine WL.call hasF346 rfl rfl (Add_spec _ _ _ _ _ hN13 hN19) fun v w3 h' => ?_;obtain ⟨h', hC20⟩ := h';rw [val_wd, val_wd, show m * 2 ^ 1 + 1 = aboutM m cut by unfold aboutM; rw [hcT, if_pos rfl]; omega] at h';obtain ⟨_, _, _, r20, rfl, hN20⟩ := h'.resolve_right (fun q => q.1 ⟨wd_len_small (k := 84) (by omega) (by decide), wd_len_small (k := 84) (by decide) (by decide), wd_len_small hM84 (by decide)⟩);have hch := hch.ta hC20;have hb8 := hb8.k0 hC20;refine zm rfl (zx rfl rfl (zx rfl rfl (za rfl ?_)));refine WL.nil (kr8 _ _ _ (kh5 ?_));refine Sr fun _ kh9 => zm rfl (zm rfl (zm rfl ?_));refine WL.ev (Ev.subIn rfl rfl (by omega)) rfl ?_;refine WL.ev (Ev.minI rfl rfl) rfl ?_;refine WL.ev (Ev.maxI rfl rfl) rfl ?_;rw [show max (-3000) (min 3000 (e - 1)) = aboutE e from rfl];have haE : -3000 ≤ aboutE e ∧ aboutE e ≤ 3000 := by unfold aboutE; omega
  refine WL.call hasF128 rfl rfl (Make_spec neg _ (wd (aboutM m cut)) (aboutE e) _ hN20 (hg0.keep0 hch) (by omega)) fun v w4 h' => ?_;obtain ⟨hDR, hC30⟩ := h';rw [val_wd] at hDR;have hsD : formD neg (aboutM m cut) (aboutE e) = some (aboutD neg m cut e) := by unfold aboutD; rw [hdd]; rfl
  rcases hDR with ⟨r, d2, he30, rfl, hN33⟩ | ⟨he30, _⟩
  rotate_left
  · rw [hsD] at he30; cases he30
  rw [hsD] at he30;cases he30;have hch := hch.ta hC30;have hb8 := hb8.k0 hC30;refine zm rfl (zx rfl rfl (zx rfl rfl ?_));refine zAh rfl rfl hch fun b9 wm9 hb9 hcm9 hge9 hgehch9 hch => ?_;have hN33 := hN33.keep0 hcm9;have hneb89 := zdd hb8.lt hge9;have hb8 := hb8.k0 hcm9;refine zss rfl rfl ao hb9 rfl fun ws1 hb9_ hcs1 => ?_;(try simp only [Sx.splice, qt] at hb9_);have hch := hch.s1 hcs1;have hb8 := hb8.kq hcs1;have hN33 := hN33.keepBK hb9 hcs1 an;have hb9 := hb9_;refine za rfl (zz (kh9 (Sr fun _ kh11 => zg hb9 rfl ?_)));refine zss rfl rfl ao hb8 rfl fun ws2 hb8_ hcs2 => ?_;(try simp only [Sx.splice, qt] at hb8_);have hch := hch.s1 hcs2;have hN33 := hN33.keepBK hb8 hcs2 an;have hb8 := hb8_;refine zz (kh11 ?_);refine zr (bodyA.retR1 rfl (RVal.cell rfl (hb8.varA rfl rfl)) ?_);exact ⟨⟨_, rfl, hN33⟩, hch⟩
 have hcF : cut = false := hc1;have hN20 := hN13;rw [show m * 2 ^ 1 = aboutM m cut by unfold aboutM; rw [hcF]; simp; omega] at hN20;refine zkk (kh5 (Sr fun _ kh13 => zm rfl (zm rfl (zm rfl ?_))));refine WL.ev (Ev.subIn rfl rfl (by omega)) rfl ?_;refine WL.ev (Ev.minI rfl rfl) rfl ?_;refine WL.ev (Ev.maxI rfl rfl) rfl ?_;rw [show max (-3000) (min 3000 (e - 1)) = aboutE e from rfl];have haE : -3000 ≤ aboutE e ∧ aboutE e ≤ 3000 := by unfold aboutE; omega
 refine WL.call hasF128 rfl rfl (Make_spec neg _ (wd (aboutM m cut)) (aboutE e) _ hN20 (hg0.keep0 hch) (by omega)) fun v w5 h' => ?_;obtain ⟨hDR, hC30⟩ := h';rw [val_wd] at hDR;have hsD : formD neg (aboutM m cut) (aboutE e) = some (aboutD neg m cut e) := by unfold aboutD; rw [hdd]; rfl
 rcases hDR with ⟨r, d2, he30, rfl, hN33⟩ | ⟨he30, _⟩
 rotate_left
 · rw [hsD] at he30; cases he30
 rw [hsD] at he30;cases he30;have hch := hch.ta hC30;have hb8 := hb8.k0 hC30;refine zm rfl (zx rfl rfl (zx rfl rfl ?_));refine zAh rfl rfl hch fun b9 wm9 hb9 hcm9 hge9 hgehch9 hch => ?_;have hN33 := hN33.keep0 hcm9;have hneb89 := zdd hb8.lt hge9;have hb8 := hb8.k0 hcm9;refine zss rfl rfl ao hb9 rfl fun ws3 hb9_ hcs3 => ?_;(try simp only [Sx.splice, qt] at hb9_);have hch := hch.s1 hcs3;have hb8 := hb8.kq hcs3;have hN33 := hN33.keepBK hb9 hcs3 an;have hb9 := hb9_;refine za rfl (zz (kh13 (Sr fun _ kh15 => zg hb9 rfl ?_)));refine zss rfl rfl ao hb8 rfl fun ws4 hb8_ hcs4 => ?_;(try simp only [Sx.splice, qt] at hb8_);have hch := hch.s1 hcs4;have hN33 := hN33.keepBK hb8 hcs4 an;have hb8 := hb8_;refine zz (kh15 ?_);refine zr (bodyA.retR1 rfl (RVal.cell rfl (hb8.varA rfl rfl)) ?_);exact ⟨⟨_, rfl, hN33⟩, hch⟩

structure KDg (A0 B : Nat) (w0 : World) (vb : Value) (g : Nat × Nat × Nat × Value × Value) (w : World) : Prop where
  m : DigI A0 B g.1 g.2.1 g.2.2.1
  i : g.1 ≤ 82
  hs : NU w g.2.2.2.1 (wd g.2.1)
  ha : NU w g.2.2.2.2 (wd g.2.2.1)
  hb : NU w vb (wd B)
  ch : Chg [] w0 w
theorem dig_small {A0 B i size a : Nat} (h : DigI A0 B i size a) (h2 : A0 < 2 * B) : a ≤ 2 * B := by
  by_cases h0 : i = 0
  · have := (h.z h0).2; omega
  · have := (h.s (by omega)).2; omega

theorem digits_spec (vm vq : Value) (m q : Nat) (w : World) (hm : NU w vm (wd m)) (hq : NU w vq (wd q)) (hml : (wd m).length ≤ 8192) (hql : (wd q).length ≤ 8192) (hq0 : q ≠ 0) : Ret Tryz.prog 319 [vm, vq, .int .i64 82] w fun u w' => (∃ vs size a, u = .tuple [vs, .bool (decide (a ≠ 0)), .int .i64 ((bl m : Int) - (bl q : Int) - 81)].toArray ∧ NU w' vs (wd size) ∧ DigI (m * 2 ^ (max 0 (-((bl m : Int) - (bl q : Int)))).toNat) (q * 2 ^ (max 0 ((bl m : Int) - (bl q : Int))).toNat) 82 size a) ∧ Chg [] w w' := by
 have hch := crf w;have hbm := bl_len hml;have hbq := bl_len hql;obtain ⟨x, hx⟩ : ∃ x, x = (max 0 (-((bl m : Int) - (bl q : Int)))).toNat := ⟨_, rfl⟩;obtain ⟨y, hy⟩ : ∃ y, y = (max 0 ((bl m : Int) - (bl q : Int))).toNat := ⟨_, rfl⟩;have hA2 : m * 2 ^ x < 2 * (q * 2 ^ y) := by
  by_cases h0 : m = 0
  · rw [h0, Nat.zero_mul]; have := Nat.mul_pos (show 0 < q by omega) (Nat.two_pow_pos y); omega
  rw [hx, hy]; exact (digits_low h0 hq0 rfl).1
 rw [← hx, ← hy];have hBl := wd_len_lift hql (y := y) (by omega);obtain ⟨A0, hA0⟩ : ∃ A0, A0 = m * 2 ^ x := ⟨_, rfl⟩;obtain ⟨B, hB⟩ : ∃ B, B = q * 2 ^ y := ⟨_, rfl⟩;rw [← hA0] at hA2 ⊢;rw [← hB] at hA2 hBl ⊢;refine zE3 Tryz.func319 rfl ?_;refine Sr fun _ kh1 => za rfl (za rfl (za rfl (zz (kh1 (Sr fun _ kh3 => zm rfl ?_)))));refine WL.call hasF184 rfl rfl (Len_spec _ _ _ hm) fun v w1 h' => ?_;obtain ⟨rfl, rfl⟩ := h';rw [val_wd];refine zm rfl ?_;refine WL.call hasF184 rfl rfl (Len_spec _ _ _ hq) fun v w2 h' => ?_;obtain ⟨rfl, rfl⟩ := h';rw [val_wd];refine WL.ev (Ev.subIn rfl rfl (by omega)) rfl ?_;refine za rfl (zz (kh3 (Sr fun _ kh5 => zm rfl (zm rfl ?_))));refine WL.ev (Ev.negIn rfl (by omega)) rfl ?_;refine WL.ev (Ev.maxI rfl rfl) rfl ?_;rw [show max 0 (-((bl m : Int) - (bl q : Int))) = ((x : Nat) : Int) by omega];refine WL.call hasF343 rfl rfl (lifted_spec _ _ x _ hm (by omega) (by omega)) fun v_22 w3 h' => ?_;obtain ⟨ha, hC22⟩ := h';rw [val_wd, ← hA0] at ha;have hch := hch.ta hC22;have hq := hq.keep0 hC22;refine zm rfl (zm rfl ?_);refine WL.ev (Ev.maxI rfl rfl) rfl ?_;rw [show max 0 ((bl m : Int) - (bl q : Int)) = ((y : Nat) : Int) by omega];refine WL.call hasF343 rfl rfl (lifted_spec _ _ y _ hq (by omega) (by omega)) fun v_26 w4 h' => ?_;obtain ⟨hb, hC26⟩ := h';rw [val_wd, ← hB] at hb;have hch := hch.ta hC26;have ha := ha.keep0 hC26;refine za rfl (za rfl (zz (kh5 (zc fun _ kh7 => Sr fun _ kh8 => zm rfl (zm rfl (zz (kh8 (CW.block ?_))))))));refine CW.loop (S := fun g : Nat × Nat × Nat × Value × Value => [(2, .int .i64 82), (6, g.2.2.2.1), (9, .int .i64 ((bl m : Int) - (bl q : Int))), (10, g.2.2.2.2), (11, v_26), (27, .int .i64 82), (28, .int .i64 (g.1 : Int))]) (Inv := KDg A0 B w v_26) (mu := fun g => 82 - g.1) ((0, 0, A0, .slice none 0 0, v_22)) ?_ ?_ ?_
 ·exact ⟨DigI.zero _ _, Nat.zero_le _, by rw [wd_zero]; exact NU.nil, ha, hb, hch⟩
 ·exact SLp
 rintro ⟨i, size, a, vs, va⟩ wr ⟨hM, hi82, hs, ha, hb, hch⟩;dsimp only at hM hi82 hs ha hb hch;dsimp only;have hal := wd_length_mono (dig_small hM hA2);refine Sr fun _ kh10 => zL rfl rfl (zz (kh10 (zc fun _ kh12 => ?_)));refine zy rfl ?_ ?_<;>intro hc1<;>try simp only [qs] at hc1
 ·have hsz := hM.w
  have hp82 : 2 ^ i ≤ 2 ^ 82 := Nat.pow_le_pow_right (by decide) (by omega);have hs82 : size < 2 ^ 82 := by omega
  have hb82 := bl_small hs82;have hl82 := wd_len_small hs82 (by decide);refine zkk (kh12 (zc fun _ kh13 => CW.block (Sr fun _ kh14 => zm rfl (za rfl (zz (kh14 (zc fun _ kh16 => Sr fun _ kh17 => zm rfl (zG rfl rfl (zz (kh17 ?_))))))))));refine zy rfl ?_ ?_<;>intro hc2<;>try simp only [qs] at hc2
  ·have hi0 : 0 < i := by omega
   refine zR fun _ kr19 => ?_;refine zm rfl ?_;refine WL.call hasF343 rfl rfl (lifted_spec _ _ 1 _ ha (by decide) (by omega)) fun v34 w5 h' => ?_;obtain ⟨ha2, hC34⟩ := h';rw [val_wd] at ha2;have hch := hch.ta hC34;have hs := hs.keep0 hC34;have hb := hb.keep0 hC34;refine za rfl ?_;refine WL.nil (kr19 _ _ _ (kh16 ?_));refine Sr fun _ kh20 => zm rfl ?_;refine WL.call hasF172 rfl rfl (Shift_spec _ _ 1 _ hs (by omega)) fun v w6 h' => ?_;obtain ⟨h', hC37⟩ := h';rw [val_wd, show shiftN size 1 = size * 2 ^ 1 from shiftN_pos size 1] at h';obtain ⟨_, r37, rfl, hN37⟩ := h'.resolve_right (fun q => q.1 ⟨hl82, .inr (by omega)⟩);have hch := hch.ta hC37;have ha2 := ha2.keep0 hC37;have hb := hb.keep0 hC37;refine zm rfl (zx rfl rfl (zx rfl rfl (za rfl (zz (kh20 (Sr fun _ kh22 => zm rfl (zm rfl ?_)))))));refine WL.call hasF344 rfl rfl (compared_spec _ _ (a * 2 ^ 1) B _ ha2 hb) fun v w7 h' => ?_;obtain ⟨rfl, hC42⟩ := h';have hch := hch.ta hC42;have ha2 := ha2.keep0 hC42;have hb := hb.keep0 hC42;have hN37 := hN37.keep0 hC42;refine WL.ev (Ev.geq rfl rfl) rfl ?_;refine zz (kh22 ?_);refine zy rfl ?_ ?_<;>intro hc3<;>try simp only [qs] at hc3
   ·have hge : B ≤ a * 2 ^ 1 := Nat.le_of_not_lt fun hlt => by unfold sgn at hc3; rw [if_pos hlt] at hc3; omega
    have hst := hM.step (a' := a * 2 ^ 1) hA2 (by rw [if_pos hi0]);refine Sr fun _ kh24 => zm rfl (zm rfl ?_);refine WL.call hasF345 rfl rfl (rless_spec _ _ _ _ _ ha2 hb (by rw [val_wd, val_wd]; exact hge)) fun v46 w8 h' => ?_;obtain ⟨hN46, hC46⟩ := h';rw [val_wd, val_wd] at hN46;have hch := hch.ta hC46;have hb := hb.keep0 hC46;have hN37 := hN37.keep0 hC46;refine za rfl (zz (kh24 ?_));refine zR fun _ kr26 => ?_;refine zm rfl ?_;refine WL.call hasF213 rfl rfl (Of_spec 1 _ (by decide)) fun v w9 h' => ?_;obtain ⟨hN49, hC49⟩ := h';have hch := hch.ta hC49;have hN46 := hN46.keep0 hC49;have hb := hb.keep0 hC49;have hN37 := hN37.keep0 hC49;refine WL.call hasF346 rfl rfl (Add_spec _ _ _ _ _ hN37 hN49) fun v w10 h' => ?_;obtain ⟨h', hC50⟩ := h';rw [val_wd, val_wd] at h';obtain ⟨_, _, _, r50, rfl, hN50⟩ := h'.resolve_right (fun q => q.1 ⟨wd_len_small (k := 84) (by omega) (by decide), wd_len_small (k := 84) (by decide) (by decide), wd_len_small (k := 84) (by omega) (by decide)⟩);have hch := hch.ta hC50;have hN46 := hN46.keep0 hC50;have hb := hb.keep0 hC50;refine zm rfl (zx rfl rfl (zx rfl rfl (za rfl ?_)));refine WL.nil (kr26 _ _ _ (kh13 ?_));refine zS fun _ kr27 => ?_;(first | refine zi rfl rfl ?_ | refine zo rfl rfl ?_);refine zm rfl (zz (kr27 ?_));refine ⟨rfl, (i + 1, size * 2 ^ 1 + 1, a * 2 ^ 1 - B, r50, v46), ?_, ?_, ?_⟩
    ·exact SLp
    ·exact ⟨hst.1 hge, by show i + 1 ≤ 82; omega, hN50, hN46, hb, hch⟩
    show 82 - (i + 1) < 82 - i; omega
   have hlt : a * 2 ^ 1 < B := Nat.lt_of_not_le fun hle => by unfold sgn at hc3; rw [if_neg (by omega)] at hc3; split at hc3 <;> omega
   have hst := hM.step (a' := a * 2 ^ 1) hA2 (by rw [if_pos hi0]);refine zkk (kh13 (zS fun _ kr28 => ?_));(first | refine zi rfl rfl ?_ | refine zo rfl rfl ?_);refine zm rfl (zz (kr28 ?_));refine ⟨rfl, (i + 1, size * 2 ^ 1, a * 2 ^ 1, r37, v34), ?_, ?_, ?_⟩
   ·exact SLp
   ·exact ⟨hst.2 hlt, by show i + 1 ≤ 82; omega, hN37, ha2, hb, hch⟩
   show 82 - (i + 1) < 82 - i; omega
  have hi0 : i = 0 := by omega
  refine zkk (kh16 (Sr fun _ kh29 => zm rfl ?_));refine WL.call hasF172 rfl rfl (Shift_spec _ _ 1 _ hs (by omega)) fun v w11 h' => ?_;obtain ⟨h', hC37⟩ := h';rw [val_wd, show shiftN size 1 = size * 2 ^ 1 from shiftN_pos size 1] at h';obtain ⟨_, r37, rfl, hN37⟩ := h'.resolve_right (fun q => q.1 ⟨hl82, .inr (by omega)⟩);have hch := hch.ta hC37;have ha := ha.keep0 hC37;have hb := hb.keep0 hC37;refine zm rfl (zx rfl rfl (zx rfl rfl (za rfl (zz (kh29 (Sr fun _ kh31 => zm rfl (zm rfl ?_)))))));refine WL.call hasF344 rfl rfl (compared_spec _ _ (a) B _ ha hb) fun v w12 h' => ?_;obtain ⟨rfl, hC42⟩ := h';have hch := hch.ta hC42;have ha := ha.keep0 hC42;have hb := hb.keep0 hC42;have hN37 := hN37.keep0 hC42;refine WL.ev (Ev.geq rfl rfl) rfl ?_;refine zz (kh31 ?_);refine zy rfl ?_ ?_<;>intro hc4<;>try simp only [qs] at hc4
  ·have hge : B ≤ a := Nat.le_of_not_lt fun hlt => by unfold sgn at hc4; rw [if_pos hlt] at hc4; omega
   have hst := hM.step (a' := a) hA2 (by rw [if_neg (by omega)]);refine Sr fun _ kh33 => zm rfl (zm rfl ?_);refine WL.call hasF345 rfl rfl (rless_spec _ _ _ _ _ ha hb (by rw [val_wd, val_wd]; exact hge)) fun v46 w13 h' => ?_;obtain ⟨hN46, hC46⟩ := h';rw [val_wd, val_wd] at hN46;have hch := hch.ta hC46;have hb := hb.keep0 hC46;have hN37 := hN37.keep0 hC46;refine za rfl (zz (kh33 ?_));refine zR fun _ kr35 => ?_;refine zm rfl ?_;refine WL.call hasF213 rfl rfl (Of_spec 1 _ (by decide)) fun v w14 h' => ?_;obtain ⟨hN49, hC49⟩ := h';have hch := hch.ta hC49;have hN46 := hN46.keep0 hC49;have hb := hb.keep0 hC49;have hN37 := hN37.keep0 hC49;refine WL.call hasF346 rfl rfl (Add_spec _ _ _ _ _ hN37 hN49) fun v w15 h' => ?_;obtain ⟨h', hC50⟩ := h';rw [val_wd, val_wd] at h';obtain ⟨_, _, _, r50, rfl, hN50⟩ := h'.resolve_right (fun q => q.1 ⟨wd_len_small (k := 84) (by omega) (by decide), wd_len_small (k := 84) (by decide) (by decide), wd_len_small (k := 84) (by omega) (by decide)⟩);have hch := hch.ta hC50;have hN46 := hN46.keep0 hC50;have hb := hb.keep0 hC50;refine zm rfl (zx rfl rfl (zx rfl rfl (za rfl ?_)));refine WL.nil (kr35 _ _ _ (kh13 ?_));refine zS fun _ kr36 => ?_;(first | refine zi rfl rfl ?_ | refine zo rfl rfl ?_);refine zm rfl (zz (kr36 ?_));refine ⟨rfl, (i + 1, size * 2 ^ 1 + 1, a - B, r50, v46), ?_, ?_, ?_⟩
   ·exact SLp
   ·exact ⟨hst.1 hge, by show i + 1 ≤ 82; omega, hN50, hN46, hb, hch⟩
   show 82 - (i + 1) < 82 - i; omega
  have hlt : a < B := Nat.lt_of_not_le fun hle => by unfold sgn at hc4; rw [if_neg (by omega)] at hc4; split at hc4 <;> omega
  have hst := hM.step (a' := a) hA2 (by rw [if_neg (by omega)]);refine zkk (kh13 (zS fun _ kr37 => ?_));(first | refine zi rfl rfl ?_ | refine zo rfl rfl ?_);refine zm rfl (zz (kr37 ?_));refine ⟨rfl, (i + 1, size * 2 ^ 1, a, r37, va), ?_, ?_, ?_⟩
  ·exact SLp
  ·exact ⟨hst.2 hlt, by show i + 1 ≤ 82; omega, hN37, ha, hb, hch⟩
  show 82 - (i + 1) < 82 - i; omega
 have hi82e : i = 82 := by omega
 subst hi82e;refine CW.exit ?_;refine kh7 (Sr fun _ kh38 => zm rfl (zm rfl ?_));obtain ⟨aa, ca, rfl, hcapa, hra⟩ := ha.ex;have hla := wd_length_pos (n := a);refine zn rfl (zG rfl rfl ?_);rw [show decide ((0 : Int) < (((wd a).length : Nat) : Int)) = decide (a ≠ 0) from decide_eq_decide.2 (by omega)];refine zm rfl (zm rfl ?_);refine WL.ev (Ev.subIn rfl rfl (by omega)) rfl ?_;refine WL.ev (Ev.subIn rfl rfl (by omega)) rfl ?_;refine za rfl (za rfl (za rfl (zz (kh38 ?_))));refine zr ?_;refine bodyA.ret3 rfl rfl rfl rfl ?_;exact ⟨⟨_, size, a, rfl, hs, hM⟩, hch⟩

end

/- Package root: quotient. No condition. -/
section
open Go Sx Wd
set_option exponentiation.threshold 5000

theorem quotient_spec (nn nd : Bool) (vn vd : Value) (m q : Nat) (en ed : Int) (w : World) (hm : NU w vn (wd m)) (hq : NU w vd (wd q)) (hml : (wd m).length ≤ 8192) (hql : (wd q).length ≤ 8192) (hq0 : q ≠ 0) (hen : -1048576 ≤ en ∧ en ≤ 1048576) (hed : -1048576 ≤ ed ∧ ed ≤ 1048576) (hg : GW w) : Ret Tryz.prog 284 [.agg [.bool nn, vn, .int .i64 en, .bool nd, vd, .int .i64 ed].toArray] w fun u w' => (∃ size a, DY w' u (aboutD nn size (decide (a ≠ 0)) (((bl m : Int) - (bl q : Int)) - 81 + en - ed)) ∧ DigI (m * 2 ^ (max 0 (-((bl m : Int) - (bl q : Int)))).toNat) (q * 2 ^ (max 0 ((bl m : Int) - (bl q : Int))).toNat) 82 size a) ∧ Chg [] w w' := by
 have hch := crf w;have hom := hm.one;have hoq := hq.one;have hbm := bl_len hml;have hbq := bl_len hql;have hg0 := hg;refine zE1 Tryz.func284 rfl ?_;refine Sr fun _ kh1 => ?_;refine zBh rfl rfl rfl hch fun b1 wm1 hb1 hcm1 hge1 hgehch1 hch => ?_;have hm := hm.keep0 hcm1;have hq := hq.keep0 hcm1;refine zAh rfl rfl hch fun b2 wm2 hb2 hcm2 hge2 hgehch2 hch => ?_;have hm := hm.keep0 hcm2;have hq := hq.keep0 hcm2;have hneb12 := zdd hb1.lt hge2;have hb1 := hb1.k0 hcm2;refine zz (kh1 (zc fun _ kh3 => ?_));refine CW.regionHC 16 rfl hmix fun kR4 kr4 hS hdr => ?_;have hch := hch.ta hdr;have hb1 := hb1.k0 hdr;have hb2 := hb2.k0 hdr;have hm := hm.keep0 hdr;have hq := hq.keep0 hdr;have hb1_r := hb1;refine wh 0 rfl hS (eF rfl) (wh 1 rfl hS (eF rfl) (wh 2 rfl hS (fun _ hw' => Ev.load rfl rfl ((hb1_r.keep0 hw').at_ rfl)) (wh 4 rfl hS (eF rfl) (wh 5 rfl hS (eF rfl) (wh 6 rfl hS (fun _ hw' => Ev.load rfl rfl ((hb1_r.keep0 hw').at_ rfl)) ?_)))));refine WH.oneCall 3 rfl (by kernel_rfl) hasF318 rfl rfl (trimmed_spec _ _ _ hm) fun v10 w1 h' => ?_;obtain ⟨hN10, rfl⟩ := h';rw [val_wd] at hN10;refine ⟨hS, ?_⟩;refine WH.oneCall 7 rfl (by kernel_rfl) hasF318 rfl rfl (trimmed_spec _ _ _ hq) fun v14 w2 h' => ?_;obtain ⟨hN14, rfl⟩ := h';rw [val_wd] at hN14;refine ⟨hS, ?_⟩;refine WH.oneCall 8 rfl (by kernel_rfl) hasF319 rfl rfl (digits_spec _ _ m q _ hN10 hN14 hml hql hq0) fun v w3 h' => ?_;obtain ⟨⟨vs, size, a, rfl, hNs, hDg⟩, hC15⟩ := h';have hch := hch.ta hC15;have hb1 := hb1.k0 hC15;have hb2 := hb2.k0 hC15;have hS := hS.trans hC15;refine ⟨hS, ?_⟩;refine wh 9 rfl hS (eM rfl) (wh 10 rfl hS (eX rfl rfl) (wh 11 rfl hS (eX rfl rfl) (wh 12 rfl hS (eX rfl rfl) (wh 13 rfl hS (eA rfl) (wh 14 rfl hS (eA rfl) (wh 15 rfl hS (eA rfl) ?_))))));refine WH.done (by kernel_rfl) (kr4 _ _ _ ?_);refine kh3 (Sr fun _ kh5 => zf rfl (zf rfl (zl hb1 rfl rfl (zm rfl (zm rfl (zm rfl (zf rfl (zf rfl (zl hb1 rfl rfl ?_)))))))));refine WL.ev (Ev.addIn rfl rfl (by omega)) rfl ?_;refine zf rfl (zf rfl (zl hb1 rfl rfl ?_));refine WL.ev (Ev.subIn rfl rfl (by omega)) rfl ?_;refine WL.call hasF321 rfl rfl (about_spec nn _ size (decide (a ≠ 0)) (((bl m : Int) - (bl q : Int)) - 81 + en - ed) _ hNs (hg0.keep0 hch) hDg.w (by omega)) fun v w4 h' => ?_;obtain ⟨⟨rr, rfl, hNr⟩, hC33⟩ := h';have hch := hch.ta hC33;have hb2 := hb2.k0 hC33;refine zss rfl rfl ao hb2 rfl fun ws1 hb2_ hcs1 => ?_;(try simp only [Sx.splice, qt] at hb2_);have hch := hch.s1 hcs1;have hNr := hNr.keepBK hb2 hcs1 an;have hb2 := hb2_;refine zz (kh5 ?_);refine zr (bodyA.retR1 rfl (RVal.cell rfl (hb2.varA rfl rfl)) ?_);exact ⟨⟨size, a, ⟨rr, rfl, hNr⟩, hDg⟩, hch⟩

end

end Go.Proofs.YtnbipejaidbihaaGreatDoor