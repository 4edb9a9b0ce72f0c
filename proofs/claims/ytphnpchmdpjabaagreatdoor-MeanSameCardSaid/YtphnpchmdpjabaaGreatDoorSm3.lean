/- Part 3 of what the proof rests on. No condition. -/
import Derived.Test.YtphnpchmdpjabaaGreatDoorSm2
set_option linter.unusedVariables false
set_option linter.unusedSimpArgs false
/- Package bits: Split, Class; package policy: kinds, counts. No condition. -/
namespace Go.Proofs.YtphnpchmdpjabaaGreatDoor
open Go Sx Wd

theorem long_spec (w : World) : Ret Tryz.prog 90 [] w fun u w' => u = .agg [.int .i64 11, .int .i64 52, .int .i64 (-1074)].toArray ∧ Chg [] w w' := by
 have hch : Chg [] w w := Chg.refl _ _
 refine Ret.enter Tryz.func90 rfl rfl ?_
 simp only [args0, Nat.zero_add, Nat.reduceAdd]
 refine Sr fun _ kh1 => ?_
 refine WL.allocB (l := [.int .i64 0, .int .i64 0, .int .i64 0]) rfl rfl fun b0 wm0 hb0 hcm0 hge0 => ?_
 have hgehch0 := Nat.le_trans hch.size hge0
 have hch := hch.trans (Chg.any hcm0)
 refine zz (kh1 (Sr fun _ kh3 => ?_))
 refine WL.ev (Ev.build (vs := _) (cs := [_, _, _]) rfl rfl) rfl ?_
 refine WL.storeB rfl rfl rfl ao hb0 (by simp) rfl fun ws6 hb0_ hcs6 => ?_
 try simp only [Sx.splice, qt] at hb0_
 have hch := hch.s1 hcs6
 have hb0 := hb0_
 refine zz (kh3 ?_)
 refine CW.ret ?_
 refine bodyA.retR1 rfl (RVal.cell rfl (hb0.varA rfl rfl)) ?_
 exact ⟨rfl, hch⟩

set_option maxRecDepth 4000 in
theorem Split_spec (x : Nat) (w : World) (hx : x < 18446744073709551616) : Ret Tryz.prog 44 [.float .f64 x] w fun u w' => u = .agg [.bool (splitP x).neg, .int .i64 ((splitP x).cls : Int), .int .i64 (splitP x).exp, .int .u64 ((splitP x).frac : Int)].toArray ∧ Chg [] w w' := by
 have hch : Chg [] w w := Chg.refl _ _
 refine Ret.enter Tryz.func44 rfl rfl ?_
 simp only [args0, Nat.zero_add, Nat.reduceAdd]
 refine Sr fun _ kh1 => ?_
 refine WL.allocB (l := [.bool false, .int .i64 0, .int .i64 0, .int .u64 0]) rfl rfl fun b2 wm2 hb2 hcm2 hge2 => ?_
 have hgehch2 := Nat.le_trans hch.size hge2
 have hch := hch.trans (Chg.any hcm2)
 refine zz (kh1 (Sr fun _ kh3 => ?_))
 refine WL.call hasF90 rfl rfl (long_spec _) fun v w1 h' => ?_
 obtain ⟨rfl, hC3⟩ := h'
 have hch := hch.trans (Chg.any hC3)
 have hb2 := hb2.keep0 hC3
 refine zm rfl ?_
 refine WL.ev (Ev.ext rfl (ext40 _ _)) rfl ?_
 refine WL.call hasF91 rfl rfl (parts_spec x _ hx) fun v w2 h' => ?_
 obtain ⟨rfl, hC6⟩ := h'
 have hch := hch.trans (Chg.any hC6)
 have hb2 := hb2.keep0 hC6
 refine WL.storeB rfl rfl rfl ao hb2 (by simp) rfl fun ws7 hb2_ hcs7 => ?_
 try simp only [Sx.splice, qt] at hb2_
 have hch := hch.s1 hcs7
 have hb2 := hb2_
 refine zz (kh3 ?_)
 refine CW.ret ?_
 refine bodyA.retR1 rfl (RVal.cell rfl (hb2.varA rfl rfl)) ?_
 exact ⟨rfl, hch⟩

set_option maxRecDepth 4000 in
theorem Class_spec (x : Nat) (w : World) (hx : x < 18446744073709551616) : Ret Tryz.prog 78 [.float .f64 x] w fun u w' => u = .int .i64 ((splitP x).cls : Int) ∧ Chg [] w w' := by
 have hch : Chg [] w w := Chg.refl _ _
 refine Ret.enter Tryz.func78 rfl rfl ?_
 simp only [args0, Nat.zero_add, Nat.reduceAdd]
 refine Sr fun _ kh1 => za rfl (zz (kh1 (Sr fun _ kh3 => zm rfl ?_)))
 refine WL.call hasF44 rfl rfl (Split_spec x _ hx) fun v w1 h' => ?_
 obtain ⟨rfl, hC4⟩ := h'
 have hch := hch.trans (Chg.any hC4)
 refine WL.ev (Ev.field (ft := 3) rfl rfl rfl rfl rfl) rfl ?_
 refine za rfl (zz (kh3 ?_))
 refine CW.ret ?_
 refine bodyA.ret1 rfl rfl ?_
 exact ⟨rfl, hch⟩

/-- A number's kind: finite, -0, +0, +Inf, -Inf, NaN. -/
def kindP (x : Nat) : Nat :=
  if (splitP x).cls = 4 then 5 else if (splitP x).cls = 3 ∧ (splitP x).neg = true then 4 else if (splitP x).cls = 3 then 3
  else if (splitP x).cls = 0 ∧ (splitP x).neg = true then 1 else if (splitP x).cls = 0 then 2 else 0

set_option maxRecDepth 4000 in
theorem kind_spec (x : Nat) (w : World) (hx : x < 18446744073709551616) : Ret Tryz.prog 86 [.float .f64 x] w fun u w' => u = .int .i64 (kindP x : Int) ∧ Chg [] w w' := by
 have hch : Chg [] w w := Chg.refl _ _
 refine Ret.enter Tryz.func86 rfl rfl ?_
 simp only [args0, Nat.zero_add, Nat.reduceAdd]
 refine Sr fun _ kh1 => za rfl (zz (kh1 (Sr fun _ kh3 => zm rfl ?_)))
 refine WL.call hasF44 rfl rfl (Split_spec x _ hx) fun v w1 h' => ?_
 obtain ⟨rfl, hC5⟩ := h'
 have hch := hch.trans (Chg.any hC5)
 refine WL.allocB (l := [.bool false, .int .i64 0, .int .i64 0, .int .u64 0]) rfl rfl fun b3 wm3 hb3 hcm3 hge3 => ?_
 have hgehch3 := Nat.le_trans hch.size hge3
 have hch := hch.trans (Chg.any hcm3)
 refine WL.storeB rfl rfl rfl ao hb3 (by simp) rfl fun ws8 hb3_ hcs8 => ?_
 try simp only [Sx.splice, qt] at hb3_
 have hch := hch.s1 hcs8
 have hb3 := hb3_
 refine zz (kh3 (zc fun _ kh5 => ?_))
 refine CW.block ?_
 refine Sr fun _ kh6 => zf rfl (zl hb3 rfl rfl (zq rfl rfl (za rfl (zz (kh6 ?_)))))
 refine CW.cond rfl (fun hc1 => ?_) (fun hc1 => ?_)
 ·
  try simp only [qs] at hc1
  refine Sr fun _ kh8 => za rfl (zz (kh8 ?_))
  refine CW.ret ?_
  refine bodyA.ret1 rfl rfl ?_
  unfold kindP; rw [if_pos (by omega)]
  exact ⟨rfl, hch⟩
 ·
  try simp only [qs] at hc1
  refine CW.seqM 10 (decide ((splitP x).cls = 3 ∧ (splitP x).neg = true)) ?_ ?_
  ·
   refine CW.region fun kR10 kr10 => ?_
   refine zf rfl (zl hb3 rfl rfl (zq rfl rfl (zm rfl ?_)))
   refine WL.boolCase (fun hg2 => ?_) (fun hg2 => ?_)
   ·
    try simp only [qs] at hg2
    refine zw rfl (zf rfl (zw rfl (zl hb3 rfl rfl (zt rfl rfl (za rfl ?_)))))
    refine WL.nil (kr10 _ _ _ ?_)
    refine ⟨rfl, rfl, Subs.consB rfl ?_ ?_⟩
    ·
     first | (simp_all; done) | (simp; omega) | (cases hnn : (splitP x).neg <;> simp_all <;> omega)
    ·
     exact SMg
   ·
    try simp only [qs] at hg2
    refine zv rfl (zv rfl (ze rfl rfl (za rfl ?_)))
    refine WL.nil (kr10 _ _ _ ?_)
    refine ⟨rfl, rfl, Subs.consB rfl ?_ ?_⟩
    ·
     first | (simp_all; done) | (simp; omega) | (cases hnn : (splitP x).neg <;> simp_all <;> omega)
    ·
     exact SMg
  ·
   refine CW.cond rfl (fun hc3 => ?_) (fun hc3 => ?_)
   ·
    try simp only [qs] at hc3
    have hK10 := hc3
    refine Sr fun _ kh11 => za rfl (zz (kh11 ?_))
    refine CW.ret ?_
    refine bodyA.ret1 rfl rfl ?_
    unfold kindP; rw [if_neg (by omega), if_pos hK10]
    exact ⟨rfl, hch⟩
   ·
    try simp only [qs] at hc3
    have hK10 := hc3
    refine Sr fun _ kh13 => zf rfl (zl hb3 rfl rfl (zq rfl rfl (za rfl (zz (kh13 ?_)))))
    refine CW.cond rfl (fun hc4 => ?_) (fun hc4 => ?_)
    ·
     try simp only [qs] at hc4
     refine Sr fun _ kh15 => za rfl (zz (kh15 ?_))
     refine CW.ret ?_
     refine bodyA.ret1 rfl rfl ?_
     unfold kindP; rw [if_neg (by omega), if_neg hK10, if_pos (by omega)]
     exact ⟨rfl, hch⟩
    ·
     try simp only [qs] at hc4
     refine CW.seqM 22 (decide ((splitP x).cls = 0 ∧ (splitP x).neg = true)) ?_ ?_
     ·
      refine CW.region fun kR17 kr17 => ?_
      refine zf rfl (zl hb3 rfl rfl (zq rfl rfl (zm rfl ?_)))
      refine WL.boolCase (fun hg5 => ?_) (fun hg5 => ?_)
      ·
       try simp only [qs] at hg5
       refine zw rfl (zf rfl (zw rfl (zl hb3 rfl rfl (zt rfl rfl (za rfl ?_)))))
       refine WL.nil (kr17 _ _ _ ?_)
       refine ⟨rfl, rfl, Subs.consB rfl ?_ ?_⟩
       ·
        first | (simp_all; done) | (simp; omega) | (cases hnn : (splitP x).neg <;> simp_all <;> omega)
       ·
        exact SMg
      ·
       try simp only [qs] at hg5
       refine zv rfl (zv rfl (ze rfl rfl (za rfl ?_)))
       refine WL.nil (kr17 _ _ _ ?_)
       refine ⟨rfl, rfl, Subs.consB rfl ?_ ?_⟩
       ·
        first | (simp_all; done) | (simp; omega) | (cases hnn : (splitP x).neg <;> simp_all <;> omega)
       ·
        exact SMg
     ·
      refine CW.cond rfl (fun hc6 => ?_) (fun hc6 => ?_)
      ·
       try simp only [qs] at hc6
       have hK22 := hc6
       refine Sr fun _ kh18 => za rfl (zz (kh18 ?_))
       refine CW.ret ?_
       refine bodyA.ret1 rfl rfl ?_
       unfold kindP; rw [if_neg (by omega), if_neg hK10, if_neg (by omega), if_pos hK22]
       exact ⟨rfl, hch⟩
      ·
       try simp only [qs] at hc6
       have hK22 := hc6
       refine Sr fun _ kh20 => zf rfl (zl hb3 rfl rfl (zq rfl rfl (za rfl (zz (kh20 ?_)))))
       refine CW.cond rfl (fun hc7 => ?_) (fun hc7 => ?_)
       ·
        try simp only [qs] at hc7
        refine Sr fun _ kh22 => za rfl (zz (kh22 ?_))
        refine CW.ret ?_
        refine bodyA.ret1 rfl rfl ?_
        unfold kindP; rw [if_neg (by omega), if_neg hK10, if_neg (by omega), if_neg hK22, if_pos (by omega)]
        exact ⟨rfl, hch⟩
       ·
        try simp only [qs] at hc7
        refine CW.skip ?_
        refine kh5 (Sr fun _ kh24 => za rfl (zz (kh24 ?_)))
        refine CW.ret ?_
        refine bodyA.ret1 rfl rfl ?_
        unfold kindP; rw [if_neg (by omega), if_neg hK10, if_neg (by omega), if_neg hK22, if_neg (by omega)]
        exact ⟨rfl, hch⟩

theorem choice_spec (n : Int) (w : World) : Ret Tryz.prog 129 [.int .i64 n] w fun u w' => u = .bool (decide (0 ≤ n ∧ n ≤ 2)) ∧ w = w' := by
 refine Ret.enter Tryz.func129 rfl rfl ?_
 simp only [args0, Nat.zero_add, Nat.reduceAdd]
 refine Sr fun _ kh1 => za rfl (zz (kh1 (Sr fun _ kh3 => zm rfl ?_)))
 refine WL.ev (Ev.geq rfl rfl) rfl ?_
 refine zm rfl ?_
 refine WL.boolCase (fun hg1 => ?_) (fun hg1 => ?_)
 ·
  try simp only [qs] at hg1
  refine zw rfl (zm rfl (zw rfl ?_))
  refine WL.ev (Ev.leq rfl rfl) rfl ?_
  refine zt rfl rfl (za rfl (zz (kh3 ?_)))
  refine CW.ret ?_
  refine bodyA.ret1 rfl rfl ?_
  refine ⟨congrArg Value.bool (decide_eq_decide.2 (by omega)), rfl⟩
 ·
  try simp only [qs] at hg1
  refine zv rfl (zv rfl (ze rfl rfl (za rfl (zz (kh3 ?_)))))
  refine CW.ret ?_
  refine bodyA.ret1 rfl rfl ?_
  refine ⟨?_, rfl⟩
  rw [decide_eq_false (by omega)]

def mayQ (a b : Int) : Prop := (0 ≤ a ∧ a ≤ 2) ∧ (0 ≤ b ∧ b ≤ 2)
instance (a b : Int) : Decidable (mayQ a b) := by unfold mayQ; exact inferInstance

set_option maxRecDepth 4000 in
theorem May_spec (pn pi : Int) (w : World) : Ret Tryz.prog 85 [.agg [.int .i64 pn, .int .i64 pi].toArray] w fun u w' => u = .bool (decide (mayQ pn pi)) ∧ Chg [] w w' := by
 have hch : Chg [] w w := Chg.refl _ _
 refine Ret.enter Tryz.func85 rfl rfl ?_
 simp only [args0, Nat.zero_add, Nat.reduceAdd]
 refine Sr fun _ kh1 => ?_
 refine WL.boxB rfl rfl rfl fun b1 wm1 hb1 hcm1 hge1 => ?_
 have hgehch1 := Nat.le_trans hch.size hge1
 have hch := hch.trans (Chg.any hcm1)
 refine za rfl (zz (kh1 (Sr fun _ kh3 => zf rfl (zl hb1 rfl rfl ?_))))
 refine WL.call hasF129 rfl rfl (choice_spec pn _) fun v w1 h' => ?_
 obtain ⟨rfl, rfl⟩ := h'
 refine zm rfl ?_
 refine WL.boolCase (fun hg1 => ?_) (fun hg1 => ?_)
 ·
  try simp only [qs] at hg1
  refine zw rfl (zf rfl (zw rfl (zl hb1 rfl rfl (zw rfl ?_))))
  refine WL.call hasF129 rfl rfl (choice_spec pi _) fun v w2 h' => ?_
  obtain ⟨rfl, rfl⟩ := h'
  refine zt rfl rfl (za rfl (zz (kh3 ?_)))
  refine CW.ret ?_
  refine bodyA.ret1 rfl rfl ?_
  refine ⟨congrArg Value.bool (decide_eq_decide.2 (by unfold mayQ; omega)), hch⟩
 ·
  try simp only [qs] at hg1
  refine zv rfl (zv rfl (zv rfl (ze rfl rfl (za rfl (zz (kh3 ?_))))))
  refine CW.ret ?_
  refine bodyA.ret1 rfl rfl ?_
  refine ⟨?_, hch⟩
  rw [decide_eq_false (by unfold mayQ; omega)]

end Go.Proofs.YtphnpchmdpjabaaGreatDoor

/- Package policy: counts of kinds. No condition. -/
namespace Go.Proofs.YtphnpchmdpjabaaGreatDoor
open Go Sx Wd

/-- Counts of kinds. -/
structure SP where
  na : Nat
  up : Nat
  dn : Nat
  mi : Nat
  pl : Nat
  al : Nat
def SP.cells (s : SP) : List Value := [.int .i64 (s.na : Int), .int .i64 (s.up : Int), .int .i64 (s.dn : Int), .int .i64 (s.mi : Int), .int .i64 (s.pl : Int), .int .i64 (s.al : Int)]
def SP.le (s : SP) (n : Nat) : Prop := s.na ≤ n ∧ s.up ≤ n ∧ s.dn ≤ n ∧ s.mi ≤ n ∧ s.pl ≤ n ∧ s.al ≤ n
def SP.zero : SP := ⟨0, 0, 0, 0, 0, 0⟩
def countP (s : SP) (k : Nat) : SP :=
  ⟨s.na + (if k = 5 then 1 else 0), s.up + (if k = 3 then 1 else 0), s.dn + (if k = 4 then 1 else 0), s.mi + (if k = 1 then 1 else 0), s.pl + (if k = 2 then 1 else 0), s.al + 1⟩
theorem countP.le {s : SP} {k n : Nat} (h : s.le n) : (countP s k).le (n + 1) := by
  obtain ⟨a, b, c, d, e, f⟩ := h
  refine ⟨?_, ?_, ?_, ?_, ?_, ?_⟩ <;> (simp only [countP]; try split) <;> omega
def mayBeP (s : SP) : Prop := s.na + s.up + s.dn + s.mi + s.pl ≤ s.al ∧ s.al ≤ 1099511627776
instance (s : SP) : Decidable (mayBeP s) := by unfold mayBeP; exact inferInstance
def SP.five (s : SP) : List Nat := [s.na, s.up, s.dn, s.mi, s.pl]
theorem take_sum {l : List Nat} : ∀ {i : Nat}, i < l.length → (l.take (i + 1)).sum = (l.take i).sum + l.getD i 0 := by
  induction l with
  | nil => intro i h; simp at h
  | cons a l ih =>
    intro i h
    cases i with
    | zero => simp
    | succ i =>
      have := ih (i := i) (by simpa using h)
      simp only [List.take_succ_cons, List.sum_cons, this, List.getD_cons_succ]; omega
theorem five_le (s : SP) (i : Nat) : s.five.getD i 0 ≤ s.na + s.up + s.dn + s.mi + s.pl := by
  unfold SP.five
  match i with
  | 0 => simp; omega
  | 1 => simp; omega
  | 2 => simp; omega
  | 3 => simp; omega
  | 4 => simp
  | n + 5 => simp
theorem five_sum (s : SP) : (s.five.take 5).sum = s.na + s.up + s.dn + s.mi + s.pl := by
  simp [SP.five]; omega

set_option maxRecDepth 4000 in
theorem count_spec (b k : Nat) (s : SP) (w : World) (hB : BK w b 65 s.cells) (hs : s.le 1000000000000000) : Ret Tryz.prog 87 [.pointer (some ⟨b, 0, none⟩), .int .i64 (k : Int)] w fun u w' => BK w' b 65 (countP s k).cells ∧ Chg [b] w w' := by
 obtain ⟨hs1, hs2, hs3, hs4, hs5, hs6⟩ := hs
 unfold SP.cells at hB
 have hch : Chg [b] w w := Chg.refl _ _
 refine Ret.enter Tryz.func87 rfl rfl ?_
 simp only [args0, Nat.zero_add, Nat.reduceAdd]
 refine Sr fun _ kh1 => zm rfl ?_
 refine WL.ev (Ev.nilPtr rfl) rfl ?_
 refine zf rfl (zl hB rfl rfl ?_)
 first | refine WL.ev (Ev.addIn rfl rfl (by omega)) rfl ?_ | refine WL.ev (Ev.add rfl rfl) rfl ?_
 refine WL.ev (Ev.nilPtr rfl) rfl ?_
 refine zf rfl ?_
 refine WL.storeC rfl rfl o1 hB (by simp) rfl fun ws9 hB_ hcs9 => ?_
 try simp only [Sx.splice, qt] at hB_
 have hch := hch.s1 hcs9
 have hB := hB_
 refine zz (kh1 (Sr fun _ kh3 => zm rfl (zz (kh3 ?_))))
 refine CW.block ?_
 refine Sr fun _ kh5 => zq rfl rfl (za rfl (zz (kh5 ?_)))
 refine CW.cond rfl (fun hc1 => ?_) (fun hc1 => ?_)
 ·
  try simp only [qs] at hc1
  refine CW.region fun kR7 kr7 => ?_
  refine zm rfl ?_
  refine WL.ev (Ev.nilPtr rfl) rfl ?_
  refine zf rfl (zl hB rfl rfl ?_)
  first | refine WL.ev (Ev.addIn rfl rfl (by omega)) rfl ?_ | refine WL.ev (Ev.add rfl rfl) rfl ?_
  refine WL.ev (Ev.nilPtr rfl) rfl ?_
  refine zf rfl ?_
  refine WL.storeC rfl rfl o1 hB (by simp) rfl fun ws10 hB_ hcs10 => ?_
  try simp only [Sx.splice, qt] at hB_
  have hch := hch.s1 hcs10
  have hB := hB_
  refine WL.nil (kr7 _ _ _ ?_)
  refine bodyA.norm0 rfl ?_
  refine ⟨?_, hch⟩
  have hk : k = 5 := by omega
  subst hk
  simpa [SP.cells, countP] using hB
 ·
  try simp only [qs] at hc1
  refine Sr fun _ kh8 => zq rfl rfl (za rfl (zz (kh8 ?_)))
  refine CW.cond rfl (fun hc2 => ?_) (fun hc2 => ?_)
  ·
   try simp only [qs] at hc2
   refine CW.region fun kR10 kr10 => ?_
   refine zm rfl ?_
   refine WL.ev (Ev.nilPtr rfl) rfl ?_
   refine zf rfl (zl hB rfl rfl ?_)
   first | refine WL.ev (Ev.addIn rfl rfl (by omega)) rfl ?_ | refine WL.ev (Ev.add rfl rfl) rfl ?_
   refine WL.ev (Ev.nilPtr rfl) rfl ?_
   refine zf rfl ?_
   refine WL.storeC rfl rfl o1 hB (by simp) rfl fun ws11 hB_ hcs11 => ?_
   try simp only [Sx.splice, qt] at hB_
   have hch := hch.s1 hcs11
   have hB := hB_
   refine WL.nil (kr10 _ _ _ ?_)
   refine bodyA.norm0 rfl ?_
   refine ⟨?_, hch⟩
   have hk : k = 3 := by omega
   subst hk
   simpa [SP.cells, countP] using hB
  ·
   try simp only [qs] at hc2
   refine Sr fun _ kh11 => zq rfl rfl (za rfl (zz (kh11 ?_)))
   refine CW.cond rfl (fun hc3 => ?_) (fun hc3 => ?_)
   ·
    try simp only [qs] at hc3
    refine CW.region fun kR13 kr13 => ?_
    refine zm rfl ?_
    refine WL.ev (Ev.nilPtr rfl) rfl ?_
    refine zf rfl (zl hB rfl rfl ?_)
    first | refine WL.ev (Ev.addIn rfl rfl (by omega)) rfl ?_ | refine WL.ev (Ev.add rfl rfl) rfl ?_
    refine WL.ev (Ev.nilPtr rfl) rfl ?_
    refine zf rfl ?_
    refine WL.storeC rfl rfl o1 hB (by simp) rfl fun ws12 hB_ hcs12 => ?_
    try simp only [Sx.splice, qt] at hB_
    have hch := hch.s1 hcs12
    have hB := hB_
    refine WL.nil (kr13 _ _ _ ?_)
    refine bodyA.norm0 rfl ?_
    refine ⟨?_, hch⟩
    have hk : k = 4 := by omega
    subst hk
    simpa [SP.cells, countP] using hB
   ·
    try simp only [qs] at hc3
    refine Sr fun _ kh14 => zq rfl rfl (za rfl (zz (kh14 ?_)))
    refine CW.cond rfl (fun hc4 => ?_) (fun hc4 => ?_)
    ·
     try simp only [qs] at hc4
     refine CW.region fun kR16 kr16 => ?_
     refine zm rfl ?_
     refine WL.ev (Ev.nilPtr rfl) rfl ?_
     refine zf rfl (zl hB rfl rfl ?_)
     first | refine WL.ev (Ev.addIn rfl rfl (by omega)) rfl ?_ | refine WL.ev (Ev.add rfl rfl) rfl ?_
     refine WL.ev (Ev.nilPtr rfl) rfl ?_
     refine zf rfl ?_
     refine WL.storeC rfl rfl o1 hB (by simp) rfl fun ws13 hB_ hcs13 => ?_
     try simp only [Sx.splice, qt] at hB_
     have hch := hch.s1 hcs13
     have hB := hB_
     refine WL.nil (kr16 _ _ _ ?_)
     refine bodyA.norm0 rfl ?_
     refine ⟨?_, hch⟩
     have hk : k = 1 := by omega
     subst hk
     simpa [SP.cells, countP] using hB
    ·
     try simp only [qs] at hc4
     refine Sr fun _ kh17 => zq rfl rfl (za rfl (zz (kh17 ?_)))
     refine CW.cond rfl (fun hc5 => ?_) (fun hc5 => ?_)
     ·
      try simp only [qs] at hc5
      refine CW.region fun kR19 kr19 => ?_
      refine zm rfl ?_
      refine WL.ev (Ev.nilPtr rfl) rfl ?_
      refine zf rfl (zl hB rfl rfl ?_)
      first | refine WL.ev (Ev.addIn rfl rfl (by omega)) rfl ?_ | refine WL.ev (Ev.add rfl rfl) rfl ?_
      refine WL.ev (Ev.nilPtr rfl) rfl ?_
      refine zf rfl ?_
      refine WL.storeC rfl rfl o1 hB (by simp) rfl fun ws14 hB_ hcs14 => ?_
      try simp only [Sx.splice, qt] at hB_
      have hch := hch.s1 hcs14
      have hB := hB_
      refine WL.nil (kr19 _ _ _ ?_)
      refine bodyA.norm0 rfl ?_
      refine ⟨?_, hch⟩
      have hk : k = 2 := by omega
      subst hk
      simpa [SP.cells, countP] using hB
     ·
      try simp only [qs] at hc5
      refine CW.skip ?_
      refine bodyA.norm0 rfl ?_
      refine ⟨?_, hch⟩
      have k1 : ¬ k = 5 := by omega
      have k2 : ¬ k = 3 := by omega
      have k3 : ¬ k = 4 := by omega
      have k4 : ¬ k = 1 := by omega
      have k5 : ¬ k = 2 := by omega
      simpa [SP.cells, countP, k1, k2, k3, k4, k5] using hB

def KMb (s : SP) (b : Nat) (w0 : World) (g : Nat × Nat) (w : World) : Prop := g.1 ≤ 5 ∧ g.2 = (s.five.take g.1).sum ∧ g.2 ≤ g.1 * 1099511627776 ∧ BK w b 65 s.cells ∧ Chg [] w0 w

set_option maxRecDepth 4000 in
theorem mayBe_spec (s : SP) (w : World) (hs : s.le 1000000000000000) : Ret Tryz.prog 88 [.agg [.int .i64 (s.na : Int), .int .i64 (s.up : Int), .int .i64 (s.dn : Int), .int .i64 (s.mi : Int), .int .i64 (s.pl : Int), .int .i64 (s.al : Int)].toArray] w fun u w' => u = .bool (decide (mayBeP s)) ∧ Chg [] w w' := by
  obtain ⟨hs1, hs2, hs3, hs4, hs5, hs6⟩ := hs
  have hch : Chg [] w w := Chg.refl _ _
  refine Ret.enter Tryz.func88 rfl rfl ?_
  simp only [args0, Nat.zero_add, Nat.reduceAdd]
  refine Sr fun _ kh1 => ?_
  refine WL.boxB rfl rfl rfl fun b1 wm1 hb1 hcm1 hge1 => ?_
  have hgehch1 := Nat.le_trans hch.size hge1
  have hch := hch.trans (Chg.any hcm1)
  refine za rfl (zz (kh1 (Sr fun _ kh3 => za rfl (zz (kh3 (zc fun _ kh5 => Sr fun _ kh6 => zf rfl (zl hb1 rfl rfl (zf rfl (zl hb1 rfl rfl (zf rfl (zl hb1 rfl rfl (zf rfl (zl hb1 rfl rfl (zf rfl (zl hb1 rfl rfl ?_)))))))))))))))
  refine WL.ev (Ev.buildA (vs := _) (cs := [_, _, _, _, _]) rfl rfl) rfl ?_
  refine zm rfl (zz (kh6 ?_))
  refine CW.block ?_
  refine CW.loop (S := fun g : Nat × Nat => [(1, .pointer (some ⟨b1, 0, none⟩)), (2, .bool false), (3, .int .i64 (g.2 : Int)), (16, .agg (s.five.map fun n : Nat => Value.int .i64 (n : Int)).toArray), (17, .int .i64 (g.1 : Int))]) (Inv := KMb s b1 w) (mu := fun g => 5 - g.1) ((0, 0)) ?_ ?_ ?_
  ·
    exact ⟨by omega, rfl, by omega, hb1, hch⟩
  ·
    exact SLp
  ·
    rintro ⟨i, m⟩ wr ⟨hi5, hm, hmx, hb1, hch⟩
    dsimp only at hi5 hm hmx hb1 hch
    unfold SP.cells at hb1
    have hmv := five_le s i
    refine Sr fun _ kh8 => ?_
    refine WL.ev (Ev.lss rfl rfl) rfl ?_
    refine zz (kh8 (zc fun _ kh10 => ?_))
    refine CW.cond rfl (fun hc1 => ?_) (fun hc1 => ?_)
    ·
      try simp only [qs] at hc1
      refine CW.skip ?_
      refine kh10 (zc fun _ kh11 => ?_)
      refine CW.block ?_
      refine Sr fun _ kh12 => ?_
      refine WL.ev (Ev.indexAr (i := i) (v := .int .i64 ((s.five.getD i 0 : Nat) : Int)) rfl rfl (by omega) rfl ?_) rfl ?_
      · have : i < s.five.length := by show i < 5; omega
        rw [List.getElem?_map, List.getD_eq_getElem?_getD, List.getElem?_eq_getElem this]; rfl
      refine za rfl (zz (kh12 (zc fun _ kh14 => ?_)))
      refine CW.seqM 25 (decide (1099511627776 < s.five.getD i 0)) ?_ ?_
      ·
        refine CW.region fun kR15 kr15 => ?_
        refine zm rfl ?_
        refine WL.ev (Ev.lss rfl rfl) rfl ?_
        refine zm rfl ?_
        refine WL.boolCase (fun hg2 => ?_) (fun hg2 => ?_)
        ·
          try simp only [qs] at hg2
          refine zv rfl (zv rfl (zt rfl rfl ?_))
          refine WL.nil (kr15 _ _ _ ?_)
          refine ⟨rfl, rfl, Subs.consB rfl ?_ ?_⟩
          ·
            first | (simp; omega) | (refine decide_eq_decide.2 ?_; omega)
          ·
            exact SMg
        ·
          try simp only [qs] at hg2
          refine zw rfl (zm rfl (zw rfl ?_))
          refine WL.ev (Ev.gtr rfl rfl) rfl ?_
          refine ze rfl rfl ?_
          refine WL.nil (kr15 _ _ _ ?_)
          refine ⟨rfl, rfl, Subs.consB rfl ?_ ?_⟩
          ·
            first | (simp; omega) | (refine decide_eq_decide.2 ?_; omega)
          ·
            exact SMg
      ·
        refine CW.cond rfl (fun hc3 => ?_) (fun hc3 => ?_)
        ·
          try simp only [qs] at hc3
          refine Sr fun _ kh16 => za rfl (zz (kh16 ?_))
          refine CW.ret ?_
          refine bodyA.ret1 rfl rfl ?_
          refine ⟨?_, hch⟩
          rw [decide_eq_false (by unfold mayBeP; omega)]
        ·
          try simp only [qs] at hc3
          refine CW.skip ?_
          refine kh14 ?_
          refine CW.region fun kR18 kr18 => ?_
          refine zm rfl (zm rfl ?_)
          first | refine WL.ev (Ev.addIn rfl rfl (by omega)) rfl ?_ | refine WL.ev (Ev.add rfl rfl) rfl ?_
          refine za rfl ?_
          refine WL.nil (kr18 _ _ _ (kh11 ?_))
          refine CW.region fun kR19 kr19 => ?_
          first | refine WL.ev (Ev.addIn rfl rfl (by omega)) rfl ?_ | refine WL.ev (Ev.add rfl rfl) rfl ?_
          refine zm rfl ?_
          refine WL.nil (kr19 _ _ _ ?_)
          refine ⟨rfl, (i + 1, m + s.five.getD i 0), ?_, ?_, ?_⟩
          ·
            exact SLp
          ·
            exact ⟨by omega, by dsimp only; rw [hm]; exact (take_sum (by show i < 5; omega)).symm, by dsimp only; omega, hb1, hch⟩
          ·
            show 5 - (i + 1) < 5 - i; omega
    ·
      try simp only [qs] at hc1
      refine CW.exit ?_
      refine kh5 (zc fun _ kh20 => ?_)
      have h5 : i = 5 := by omega
      subst h5
      rw [five_sum] at hm
      refine CW.region fun kR21 kr21 => ?_
      refine zm rfl (zf rfl (zl hb1 rfl rfl ?_))
      refine WL.ev (Ev.leq rfl rfl) rfl ?_
      refine zm rfl ?_
      refine WL.boolCase (fun hg4 => ?_) (fun hg4 => ?_)
      ·
        try simp only [qs] at hg4
        refine zw rfl (zf rfl (zw rfl (zl hb1 rfl rfl (zw rfl ?_))))
        refine WL.ev (Ev.leq rfl rfl) rfl ?_
        refine zt rfl rfl (za rfl ?_)
        refine WL.nil (kr21 _ _ _ (kh20 ?_))
        refine CW.ret ?_
        refine bodyA.ret1 rfl rfl ?_
        refine ⟨congrArg Value.bool (decide_eq_decide.2 (by unfold mayBeP; omega)), hch⟩
      ·
        try simp only [qs] at hg4
        refine zv rfl (zv rfl (zv rfl (ze rfl rfl (za rfl ?_))))
        refine WL.nil (kr21 _ _ _ (kh20 ?_))
        refine CW.ret ?_
        refine bodyA.ret1 rfl rfl ?_
        refine ⟨?_, hch⟩
        rw [decide_eq_false (by unfold mayBeP; omega)]

end Go.Proofs.YtphnpchmdpjabaaGreatDoor

/- Package policy: Verdict, Nought, Plain; math.Inf, Copysign; bits.NaN. No condition. -/
namespace Go.Proofs.YtphnpchmdpjabaaGreatDoor
open Go Sx Wd

theorem Inf_spec (n : Int) (w : World) : Ret Tryz.prog 89 [.int .i64 n] w fun u w' => u = .float .f64 (if 0 ≤ n then 9218868437227405312 else 18442240474082181120) ∧ w = w' := by
 refine Ret.enter Tryz.func89 rfl rfl ?_
 simp only [args0, Nat.zero_add, Nat.reduceAdd]
 refine Sr fun _ kh1 => za rfl (zz (kh1 (Sr fun _ kh3 => za rfl (zz (kh3 (zc fun _ kh5 => Sr fun _ kh6 => zm rfl ?_))))))
 refine WL.ev (Ev.geq rfl rfl) rfl ?_
 refine zz (kh6 ?_)
 refine CW.cond rfl (fun hc1 => ?_) (fun hc1 => ?_)
 ·
  try simp only [qs] at hc1
  refine CW.region fun kR8 kr8 => ?_
  refine za rfl ?_
  refine WL.nil (kr8 _ _ _ (kh5 ?_))
  refine Sr fun _ kh9 => zm rfl ?_
  refine WL.ev (Ev.ext rfl (ext53 _ _)) rfl ?_
  refine za rfl (zz (kh9 ?_))
  refine CW.ret ?_
  refine bodyA.ret1 rfl rfl ?_
  rw [if_pos (by omega)]
  exact ⟨rfl, rfl⟩
 ·
  try simp only [qs] at hc1
  refine CW.region fun kR11 kr11 => ?_
  refine za rfl ?_
  refine WL.nil (kr11 _ _ _ (kh5 ?_))
  refine Sr fun _ kh12 => zm rfl ?_
  refine WL.ev (Ev.ext rfl (ext53 _ _)) rfl ?_
  refine za rfl (zz (kh12 ?_))
  refine CW.ret ?_
  refine bodyA.ret1 rfl rfl ?_
  rw [if_neg (by omega)]
  exact ⟨rfl, rfl⟩

theorem Copysign_spec (w : World) : Ret Tryz.prog 123 [.float .f64 0, .float .f64 13830554455654793216] w fun u w' => u = .float .f64 9223372036854775808 ∧ w = w' := by
 refine Ret.enter Tryz.func123 rfl rfl ?_
 simp only [args0, Nat.zero_add, Nat.reduceAdd]
 refine Sr fun _ kh1 => za rfl (zz (kh1 (Sr fun _ kh3 => zm rfl ?_)))
 refine WL.ev (Ev.ext rfl (ext40 _ _)) rfl ?_
 refine WL.ev (Ev.andNotU (a := 0) (b := 9223372036854775808) rfl rfl rfl (by decide) (by decide)) rfl ?_
 rw [show 0 &&& (2 ^ IntKind.u64.bits - 1 - 9223372036854775808) = 0 from Nat.zero_and _]
 refine zm rfl ?_
 refine WL.ev (Ev.ext rfl (ext40 _ _)) rfl ?_
 refine WL.ev (Ev.andU (a := 13830554455654793216) (b := 9223372036854775808) rfl rfl rfl (by decide) (by decide)) rfl ?_
 rw [show 13830554455654793216 &&& 9223372036854775808 = 9223372036854775808 from by decide]
 refine WL.ev (Ev.orU (a := 0) (b := 9223372036854775808) rfl rfl rfl (by decide) (by decide)) rfl ?_
 rw [show 0 ||| 9223372036854775808 = 9223372036854775808 from by decide]
 refine WL.ev (Ev.ext rfl (ext53 _ _)) rfl ?_
 refine za rfl (zz (kh3 ?_))
 refine CW.ret ?_
 refine bodyA.ret1 rfl rfl ?_
 exact ⟨rfl, rfl⟩

theorem NaN_spec (w : World) : Ret Tryz.prog 52 [] w fun u w' => u = .float .f64 9221120237041090560 ∧ w = w' := by
 refine Ret.enter Tryz.func52 rfl rfl ?_
 simp only [args0, Nat.zero_add, Nat.reduceAdd]
 refine Sr fun _ kh1 => za rfl (zz (kh1 (Sr fun _ kh3 => ?_)))
 refine WL.ev (Ev.ext rfl (ext53 _ _)) rfl ?_
 refine za rfl (zz (kh3 ?_))
 refine CW.ret ?_
 refine bodyA.ret1 rfl rfl ?_
 exact ⟨rfl, rfl⟩

theorem Plain_spec (w : World) : Ret Tryz.prog 66 [] w fun u w' => u = .agg [.int .i64 0, .int .i64 0].toArray ∧ Chg [] w w' := by
 have hch : Chg [] w w := Chg.refl _ _
 refine Ret.enter Tryz.func66 rfl rfl ?_
 simp only [args0, Nat.zero_add, Nat.reduceAdd]
 refine Sr fun _ kh1 => ?_
 refine WL.allocB (l := [.int .i64 0, .int .i64 0]) rfl rfl fun b0 wm0 hb0 hcm0 hge0 => ?_
 have hgehch0 := Nat.le_trans hch.size hge0
 have hch := hch.trans (Chg.any hcm0)
 refine zz (kh1 (Sr fun _ kh3 => ?_))
 refine WL.ev (Ev.build (vs := _) (cs := [_, _]) rfl rfl) rfl ?_
 refine WL.storeB rfl rfl rfl ao hb0 (by simp) rfl fun ws15 hb0_ hcs15 => ?_
 try simp only [Sx.splice, qt] at hb0_
 have hch := hch.s1 hcs15
 have hb0 := hb0_
 refine zz (kh3 ?_)
 refine CW.ret ?_
 refine bodyA.retR1 rfl (RVal.cell rfl (hb0.varA rfl rfl)) ?_
 exact ⟨rfl, hch⟩

/-- What a sum with such specials is. -/
def verdP (s : SP) (pn pi : Int) : Option Nat :=
  if ¬ mayBeP s ∨ ¬ mayQ pn pi then none else if (0 < s.na ∧ pn = 0) ∨ (0 < s.up ∧ 0 < s.dn ∧ pi = 0) then some 9221120237041090560
  else if 0 < s.up ∧ pi = 0 then some 9218868437227405312 else if 0 < s.dn ∧ pi = 0 then some 18442240474082181120 else none
/-- The sign of a sum that comes to nought. -/
def noughtP (s : SP) (mode : Int) : Nat :=
  if mayBeP s ∧ s.na + s.up + s.dn < s.al ∧ (s.mi + s.na + s.up + s.dn = s.al ∨ s.pl + s.na + s.up + s.dn < s.al ∧ mode = 3) then 9223372036854775808 else 0

set_option maxRecDepth 4000 in
theorem Verdict_spec (s : SP) (pn pi : Int) (w : World) (hs : s.le 1000000000000000) : Ret Tryz.prog 42 [.agg [.int .i64 (s.na : Int), .int .i64 (s.up : Int), .int .i64 (s.dn : Int), .int .i64 (s.mi : Int), .int .i64 (s.pl : Int), .int .i64 (s.al : Int)].toArray, .agg [.int .i64 pn, .int .i64 pi].toArray] w fun u w' => u = .tuple [.float .f64 ((verdP s pn pi).getD 0), .bool (verdP s pn pi).isSome].toArray ∧ Chg [] w w' := by
 have hs0 := hs
 obtain ⟨hs1, hs2, hs3, hs4, hs5, hs6⟩ := hs
 have hch : Chg [] w w := Chg.refl _ _
 refine Ret.enter Tryz.func42 rfl rfl ?_
 simp only [args0, Nat.zero_add, Nat.reduceAdd]
 refine Sr fun _ kh1 => ?_
 refine WL.boxB rfl rfl rfl fun b2 wm2 hb2 hcm2 hge2 => ?_
 have hgehch2 := Nat.le_trans hch.size hge2
 have hch := hch.trans (Chg.any hcm2)
 refine WL.boxB rfl rfl rfl fun b3 wm3 hb3 hcm3 hge3 => ?_
 have hgehch3 := Nat.le_trans hch.size hge3
 have hch := hch.trans (Chg.any hcm3)
 have hneb23 : b2 ≠ b3 := by have := hb2.lt; omega
 have hb2 := hb2.keep0 hcm3
 refine za rfl (za rfl (zz (kh1 (zc fun _ kh3 => Sr fun _ kh4 => zg hb2 rfl ?_))))
 refine WL.call hasF88 rfl rfl (mayBe_spec s _ hs0) fun v w1 h' => ?_
 obtain ⟨rfl, hC9⟩ := h'
 have hch := hch.trans (Chg.any hC9)
 have hb2 := hb2.keep0 hC9
 have hb3 := hb3.keep0 hC9
 refine WL.ev (Ev.not rfl) rfl ?_
 refine zm rfl ?_
 refine WL.boolCase (fun hg1 => ?_) (fun hg1 => ?_)
 ·
  try simp only [qs] at hg1
  have hMM : ¬ mayBeP s ∨ ¬ mayQ pn pi := .inl hg1
  refine zv rfl (zv rfl (zv rfl (zt rfl rfl (zz (kh4 ?_)))))
  refine CW.condT rfl ?_
  refine Sr fun _ kh6 => za rfl (za rfl (zz (kh6 ?_)))
  refine CW.ret ?_
  refine bodyA.ret2 rfl rfl rfl ?_
  first | (exfalso; omega) | (refine ⟨?_, hch⟩; unfold verdP; rw [if_pos hMM]; rfl) | (refine ⟨?_, hch⟩; unfold verdP; rw [if_neg hMM]; (repeat (first | rw [if_pos (by omega)] | rw [if_neg (by omega)])); rfl)
 ·
  try simp only [qs] at hg1
  have hM1 : mayBeP s := hg1
  refine zw rfl (zg hb3 rfl (zw rfl ?_))
  refine WL.call hasF85 rfl rfl (May_spec pn pi _) fun v w2 h' => ?_
  obtain ⟨rfl, hC13⟩ := h'
  have hch := hch.trans (Chg.any hC13)
  have hb2 := hb2.keep0 hC13
  have hb3 := hb3.keep0 hC13
  refine zw rfl ?_
  refine WL.ev (Ev.not rfl) rfl ?_
  refine ze rfl rfl (zz (kh4 ?_))
  refine CW.cond rfl (fun hc2 => ?_) (fun hc2 => ?_)
  ·
   try simp only [qs] at hc2
   have hMM : ¬ mayBeP s ∨ ¬ mayQ pn pi := .inr hc2
   refine Sr fun _ kh8 => za rfl (za rfl (zz (kh8 ?_)))
   refine CW.ret ?_
   refine bodyA.ret2 rfl rfl rfl ?_
   first | (exfalso; omega) | (refine ⟨?_, hch⟩; unfold verdP; rw [if_pos hMM]; rfl) | (refine ⟨?_, hch⟩; unfold verdP; rw [if_neg hMM]; (repeat (first | rw [if_pos (by omega)] | rw [if_neg (by omega)])); rfl)
  ·
   try simp only [qs] at hc2
   have hMM : ¬ (¬ mayBeP s ∨ ¬ mayQ pn pi) := fun q => q.elim (fun z => z hM1) (fun z => z hc2)
   refine CW.skip ?_
   refine kh3 (zc fun _ kh10 => ?_)
   refine CW.regionSC hmix (by kernel_rfl) fun kR11 kr11 hdr => ?_
   have hch := hch.trans (Chg.any hdr)
   have hb2 := hb2.keep0 hdr
   have hb3 := hb3.keep0 hdr
   refine WS.ev (Ev.fieldAddr rfl) rfl ?_
   refine WS.ev (Ev.load rfl rfl (hb2.at_ rfl)) rfl ?_
   refine WS.ev (Ev.gtr rfl rfl) rfl ?_
   refine ym rfl ?_
   refine WS.boolCase (fun hg3 => ?_) (fun hg3 => ?_)
   ·
    try simp only [qs] at hg3
    refine yw rfl ?_
    refine WS.ev (Ev.fieldAddr rfl) rfl ?_
    refine yw rfl ?_
    refine WS.ev (Ev.load rfl rfl (hb3.at_ rfl)) rfl ?_
    refine yw rfl ?_
    refine WS.ev (Ev.eql rfl rfl) rfl ?_
    refine yt rfl rfl ?_
    refine WS.ev (Ev.fieldAddr rfl) rfl ?_
    refine WS.ev (Ev.load rfl rfl (hb2.at_ rfl)) rfl ?_
    refine WS.ev (Ev.gtr rfl rfl) rfl ?_
    refine ym rfl ?_
    refine WS.boolCase (fun hg4 => ?_) (fun hg4 => ?_)
    ·
     try simp only [qs] at hg4
     refine yw rfl ?_
     refine WS.ev (Ev.fieldAddr rfl) rfl ?_
     refine yw rfl ?_
     refine WS.ev (Ev.load rfl rfl (hb3.at_ rfl)) rfl ?_
     refine yw rfl ?_
     refine WS.ev (Ev.eql rfl rfl) rfl ?_
     refine yt rfl rfl (ya rfl (ya rfl ?_))
     refine WS.nil (kr11 _ _ ?_)
     refine kh10 (zc fun _ kh12 => ?_)
     refine CW.block ?_
     refine zc fun _ kh13 => Sr fun _ kh14 => zf rfl (zl hb2 rfl rfl ?_)
     refine WL.ev (Ev.gtr rfl rfl) rfl ?_
     refine zm rfl ?_
     refine WL.boolCase (fun hg5 => ?_) (fun hg5 => ?_)
     ·
      try simp only [qs] at hg5
      refine zw rfl (zf rfl (zw rfl (zl hb3 rfl rfl (zw rfl (zq rfl rfl (zt rfl rfl (za rfl (zz (kh14 ?_)))))))))
      refine CW.cond rfl (fun hc6 => ?_) (fun hc6 => ?_)
      ·
       try simp only [qs] at hc6
       refine CW.skip ?_
       refine kh13 ?_
       refine CW.cond rfl (fun hc7 => ?_) (fun hc7 => ?_)
       ·
        try simp only [qs] at hc7
        refine Sr fun _ kh16 => ?_
        refine WL.call hasF52 rfl rfl (NaN_spec _) fun v w3 h' => ?_
        obtain ⟨rfl, rfl⟩ := h'
        refine za rfl (za rfl (zz (kh16 ?_)))
        refine CW.ret ?_
        refine bodyA.ret2 rfl rfl rfl ?_
        first | (exfalso; omega) | (refine ⟨?_, hch⟩; unfold verdP; rw [if_pos hMM]; rfl) | (refine ⟨?_, hch⟩; unfold verdP; rw [if_neg hMM]; (repeat (first | rw [if_pos (by omega)] | rw [if_neg (by omega)])); rfl)
       ·
        try simp only [qs] at hc7
        refine Sr fun _ kh18 => zm rfl (za rfl (zz (kh18 ?_)))
        refine CW.cond rfl (fun hc8 => ?_) (fun hc8 => ?_)
        ·
         try simp only [qs] at hc8
         refine Sr fun _ kh20 => ?_
         refine WL.call hasF89 rfl rfl (Inf_spec 1 _) fun v w4 h' => ?_
         obtain ⟨rfl, rfl⟩ := h'
         refine za rfl (za rfl (zz (kh20 ?_)))
         refine CW.ret ?_
         refine bodyA.ret2 rfl rfl rfl ?_
         first | (exfalso; omega) | (refine ⟨?_, hch⟩; unfold verdP; rw [if_pos hMM]; rfl) | (refine ⟨?_, hch⟩; unfold verdP; rw [if_neg hMM]; (repeat (first | rw [if_pos (by omega)] | rw [if_neg (by omega)])); rfl)
        ·
         try simp only [qs] at hc8
         refine Sr fun _ kh22 => zm rfl (za rfl (zz (kh22 ?_)))
         refine CW.cond rfl (fun hc9 => ?_) (fun hc9 => ?_)
         ·
          try simp only [qs] at hc9
          refine Sr fun _ kh24 => ?_
          refine WL.call hasF89 rfl rfl (Inf_spec (-1) _) fun v w5 h' => ?_
          obtain ⟨rfl, rfl⟩ := h'
          refine za rfl (za rfl (zz (kh24 ?_)))
          refine CW.ret ?_
          refine bodyA.ret2 rfl rfl rfl ?_
          first | (exfalso; omega) | (refine ⟨?_, hch⟩; unfold verdP; rw [if_pos hMM]; rfl) | (refine ⟨?_, hch⟩; unfold verdP; rw [if_neg hMM]; (repeat (first | rw [if_pos (by omega)] | rw [if_neg (by omega)])); rfl)
         ·
          try simp only [qs] at hc9
          refine CW.skip ?_
          refine kh12 (Sr fun _ kh26 => za rfl (za rfl (zz (kh26 ?_))))
          refine CW.ret ?_
          refine bodyA.ret2 rfl rfl rfl ?_
          first | (exfalso; omega) | (refine ⟨?_, hch⟩; unfold verdP; rw [if_pos hMM]; rfl) | (refine ⟨?_, hch⟩; unfold verdP; rw [if_neg hMM]; (repeat (first | rw [if_pos (by omega)] | rw [if_neg (by omega)])); rfl)
      ·
       try simp only [qs] at hc6
       refine CW.region fun kR28 kr28 => ?_
       refine zm rfl (zm rfl ?_)
       refine WL.boolCase (fun hg10 => ?_) (fun hg10 => ?_)
       ·
        try simp only [qs] at hg10
        refine zw rfl (zm rfl (zt rfl rfl (za rfl ?_)))
        refine WL.nil (kr28 _ _ _ (kh13 ?_))
        refine CW.cond rfl (fun hc11 => ?_) (fun hc11 => ?_)
        ·
         try simp only [qs] at hc11
         refine Sr fun _ kh29 => ?_
         refine WL.call hasF52 rfl rfl (NaN_spec _) fun v w6 h' => ?_
         obtain ⟨rfl, rfl⟩ := h'
         refine za rfl (za rfl (zz (kh29 ?_)))
         refine CW.ret ?_
         refine bodyA.ret2 rfl rfl rfl ?_
         first | (exfalso; omega) | (refine ⟨?_, hch⟩; unfold verdP; rw [if_pos hMM]; rfl) | (refine ⟨?_, hch⟩; unfold verdP; rw [if_neg hMM]; (repeat (first | rw [if_pos (by omega)] | rw [if_neg (by omega)])); rfl)
        ·
         try simp only [qs] at hc11
         refine Sr fun _ kh31 => zm rfl (za rfl (zz (kh31 ?_)))
         refine CW.cond rfl (fun hc12 => ?_) (fun hc12 => ?_)
         ·
          try simp only [qs] at hc12
          refine Sr fun _ kh33 => ?_
          refine WL.call hasF89 rfl rfl (Inf_spec 1 _) fun v w7 h' => ?_
          obtain ⟨rfl, rfl⟩ := h'
          refine za rfl (za rfl (zz (kh33 ?_)))
          refine CW.ret ?_
          refine bodyA.ret2 rfl rfl rfl ?_
          first | (exfalso; omega) | (refine ⟨?_, hch⟩; unfold verdP; rw [if_pos hMM]; rfl) | (refine ⟨?_, hch⟩; unfold verdP; rw [if_neg hMM]; (repeat (first | rw [if_pos (by omega)] | rw [if_neg (by omega)])); rfl)
         ·
          try simp only [qs] at hc12
          refine Sr fun _ kh35 => zm rfl (za rfl (zz (kh35 ?_)))
          refine CW.cond rfl (fun hc13 => ?_) (fun hc13 => ?_)
          ·
           try simp only [qs] at hc13
           refine Sr fun _ kh37 => ?_
           refine WL.call hasF89 rfl rfl (Inf_spec (-1) _) fun v w8 h' => ?_
           obtain ⟨rfl, rfl⟩ := h'
           refine za rfl (za rfl (zz (kh37 ?_)))
           refine CW.ret ?_
           refine bodyA.ret2 rfl rfl rfl ?_
           first | (exfalso; omega) | (refine ⟨?_, hch⟩; unfold verdP; rw [if_pos hMM]; rfl) | (refine ⟨?_, hch⟩; unfold verdP; rw [if_neg hMM]; (repeat (first | rw [if_pos (by omega)] | rw [if_neg (by omega)])); rfl)
          ·
           try simp only [qs] at hc13
           refine CW.skip ?_
           refine kh12 (Sr fun _ kh39 => za rfl (za rfl (zz (kh39 ?_))))
           refine CW.ret ?_
           refine bodyA.ret2 rfl rfl rfl ?_
           first | (exfalso; omega) | (refine ⟨?_, hch⟩; unfold verdP; rw [if_pos hMM]; rfl) | (refine ⟨?_, hch⟩; unfold verdP; rw [if_neg hMM]; (repeat (first | rw [if_pos (by omega)] | rw [if_neg (by omega)])); rfl)
       ·
        try simp only [qs] at hg10
        refine zv rfl (ze rfl rfl (za rfl ?_))
        refine WL.nil (kr28 _ _ _ (kh13 ?_))
        refine CW.condF rfl ?_
        refine Sr fun _ kh41 => zm rfl (za rfl (zz (kh41 ?_)))
        refine CW.cond rfl (fun hc14 => ?_) (fun hc14 => ?_)
        ·
         try simp only [qs] at hc14
         refine Sr fun _ kh43 => ?_
         refine WL.call hasF89 rfl rfl (Inf_spec 1 _) fun v w9 h' => ?_
         obtain ⟨rfl, rfl⟩ := h'
         refine za rfl (za rfl (zz (kh43 ?_)))
         refine CW.ret ?_
         refine bodyA.ret2 rfl rfl rfl ?_
         first | (exfalso; omega) | (refine ⟨?_, hch⟩; unfold verdP; rw [if_pos hMM]; rfl) | (refine ⟨?_, hch⟩; unfold verdP; rw [if_neg hMM]; (repeat (first | rw [if_pos (by omega)] | rw [if_neg (by omega)])); rfl)
        ·
         try simp only [qs] at hc14
         refine Sr fun _ kh45 => zm rfl (za rfl (zz (kh45 ?_)))
         refine CW.cond rfl (fun hc15 => ?_) (fun hc15 => ?_)
         ·
          try simp only [qs] at hc15
          refine Sr fun _ kh47 => ?_
          refine WL.call hasF89 rfl rfl (Inf_spec (-1) _) fun v w10 h' => ?_
          obtain ⟨rfl, rfl⟩ := h'
          refine za rfl (za rfl (zz (kh47 ?_)))
          refine CW.ret ?_
          refine bodyA.ret2 rfl rfl rfl ?_
          first | (exfalso; omega) | (refine ⟨?_, hch⟩; unfold verdP; rw [if_pos hMM]; rfl) | (refine ⟨?_, hch⟩; unfold verdP; rw [if_neg hMM]; (repeat (first | rw [if_pos (by omega)] | rw [if_neg (by omega)])); rfl)
         ·
          try simp only [qs] at hc15
          refine CW.skip ?_
          refine kh12 (Sr fun _ kh49 => za rfl (za rfl (zz (kh49 ?_))))
          refine CW.ret ?_
          refine bodyA.ret2 rfl rfl rfl ?_
          first | (exfalso; omega) | (refine ⟨?_, hch⟩; unfold verdP; rw [if_pos hMM]; rfl) | (refine ⟨?_, hch⟩; unfold verdP; rw [if_neg hMM]; (repeat (first | rw [if_pos (by omega)] | rw [if_neg (by omega)])); rfl)
     ·
      try simp only [qs] at hg5
      refine zv rfl (zv rfl (zv rfl (ze rfl rfl (za rfl (zz (kh14 ?_))))))
      refine CW.condF rfl ?_
      refine CW.region fun kR51 kr51 => ?_
      refine zm rfl (zm rfl ?_)
      refine WL.boolCase (fun hg16 => ?_) (fun hg16 => ?_)
      ·
       try simp only [qs] at hg16
       refine zw rfl (zm rfl (zt rfl rfl (za rfl ?_)))
       refine WL.nil (kr51 _ _ _ (kh13 ?_))
       refine CW.cond rfl (fun hc17 => ?_) (fun hc17 => ?_)
       ·
        try simp only [qs] at hc17
        refine Sr fun _ kh52 => ?_
        refine WL.call hasF52 rfl rfl (NaN_spec _) fun v w11 h' => ?_
        obtain ⟨rfl, rfl⟩ := h'
        refine za rfl (za rfl (zz (kh52 ?_)))
        refine CW.ret ?_
        refine bodyA.ret2 rfl rfl rfl ?_
        first | (exfalso; omega) | (refine ⟨?_, hch⟩; unfold verdP; rw [if_pos hMM]; rfl) | (refine ⟨?_, hch⟩; unfold verdP; rw [if_neg hMM]; (repeat (first | rw [if_pos (by omega)] | rw [if_neg (by omega)])); rfl)
       ·
        try simp only [qs] at hc17
        refine Sr fun _ kh54 => zm rfl (za rfl (zz (kh54 ?_)))
        refine CW.cond rfl (fun hc18 => ?_) (fun hc18 => ?_)
        ·
         try simp only [qs] at hc18
         refine Sr fun _ kh56 => ?_
         refine WL.call hasF89 rfl rfl (Inf_spec 1 _) fun v w12 h' => ?_
         obtain ⟨rfl, rfl⟩ := h'
         refine za rfl (za rfl (zz (kh56 ?_)))
         refine CW.ret ?_
         refine bodyA.ret2 rfl rfl rfl ?_
         first | (exfalso; omega) | (refine ⟨?_, hch⟩; unfold verdP; rw [if_pos hMM]; rfl) | (refine ⟨?_, hch⟩; unfold verdP; rw [if_neg hMM]; (repeat (first | rw [if_pos (by omega)] | rw [if_neg (by omega)])); rfl)
        ·
         try simp only [qs] at hc18
         refine Sr fun _ kh58 => zm rfl (za rfl (zz (kh58 ?_)))
         refine CW.cond rfl (fun hc19 => ?_) (fun hc19 => ?_)
         ·
          try simp only [qs] at hc19
          refine Sr fun _ kh60 => ?_
          refine WL.call hasF89 rfl rfl (Inf_spec (-1) _) fun v w13 h' => ?_
          obtain ⟨rfl, rfl⟩ := h'
          refine za rfl (za rfl (zz (kh60 ?_)))
          refine CW.ret ?_
          refine bodyA.ret2 rfl rfl rfl ?_
          first | (exfalso; omega) | (refine ⟨?_, hch⟩; unfold verdP; rw [if_pos hMM]; rfl) | (refine ⟨?_, hch⟩; unfold verdP; rw [if_neg hMM]; (repeat (first | rw [if_pos (by omega)] | rw [if_neg (by omega)])); rfl)
         ·
          try simp only [qs] at hc19
          refine CW.skip ?_
          refine kh12 (Sr fun _ kh62 => za rfl (za rfl (zz (kh62 ?_))))
          refine CW.ret ?_
          refine bodyA.ret2 rfl rfl rfl ?_
          first | (exfalso; omega) | (refine ⟨?_, hch⟩; unfold verdP; rw [if_pos hMM]; rfl) | (refine ⟨?_, hch⟩; unfold verdP; rw [if_neg hMM]; (repeat (first | rw [if_pos (by omega)] | rw [if_neg (by omega)])); rfl)
      ·
       try simp only [qs] at hg16
       refine zv rfl (ze rfl rfl (za rfl ?_))
       refine WL.nil (kr51 _ _ _ (kh13 ?_))
       refine CW.condF rfl ?_
       refine Sr fun _ kh64 => zm rfl (za rfl (zz (kh64 ?_)))
       refine CW.cond rfl (fun hc20 => ?_) (fun hc20 => ?_)
       ·
        try simp only [qs] at hc20
        refine Sr fun _ kh66 => ?_
        refine WL.call hasF89 rfl rfl (Inf_spec 1 _) fun v w14 h' => ?_
        obtain ⟨rfl, rfl⟩ := h'
        refine za rfl (za rfl (zz (kh66 ?_)))
        refine CW.ret ?_
        refine bodyA.ret2 rfl rfl rfl ?_
        first | (exfalso; omega) | (refine ⟨?_, hch⟩; unfold verdP; rw [if_pos hMM]; rfl) | (refine ⟨?_, hch⟩; unfold verdP; rw [if_neg hMM]; (repeat (first | rw [if_pos (by omega)] | rw [if_neg (by omega)])); rfl)
       ·
        try simp only [qs] at hc20
        refine Sr fun _ kh68 => zm rfl (za rfl (zz (kh68 ?_)))
        refine CW.cond rfl (fun hc21 => ?_) (fun hc21 => ?_)
        ·
         try simp only [qs] at hc21
         refine Sr fun _ kh70 => ?_
         refine WL.call hasF89 rfl rfl (Inf_spec (-1) _) fun v w15 h' => ?_
         obtain ⟨rfl, rfl⟩ := h'
         refine za rfl (za rfl (zz (kh70 ?_)))
         refine CW.ret ?_
         refine bodyA.ret2 rfl rfl rfl ?_
         first | (exfalso; omega) | (refine ⟨?_, hch⟩; unfold verdP; rw [if_pos hMM]; rfl) | (refine ⟨?_, hch⟩; unfold verdP; rw [if_neg hMM]; (repeat (first | rw [if_pos (by omega)] | rw [if_neg (by omega)])); rfl)
        ·
         try simp only [qs] at hc21
         refine CW.skip ?_
         refine kh12 (Sr fun _ kh72 => za rfl (za rfl (zz (kh72 ?_))))
         refine CW.ret ?_
         refine bodyA.ret2 rfl rfl rfl ?_
         first | (exfalso; omega) | (refine ⟨?_, hch⟩; unfold verdP; rw [if_pos hMM]; rfl) | (refine ⟨?_, hch⟩; unfold verdP; rw [if_neg hMM]; (repeat (first | rw [if_pos (by omega)] | rw [if_neg (by omega)])); rfl)
    ·
     try simp only [qs] at hg4
     refine yv rfl (yv rfl (yv rfl (ye rfl rfl (ya rfl (ya rfl ?_)))))
     refine WS.nil (kr11 _ _ ?_)
     refine kh10 (zc fun _ kh74 => ?_)
     refine CW.block ?_
     refine zc fun _ kh75 => Sr fun _ kh76 => zf rfl (zl hb2 rfl rfl ?_)
     refine WL.ev (Ev.gtr rfl rfl) rfl ?_
     refine zm rfl ?_
     refine WL.boolCase (fun hg22 => ?_) (fun hg22 => ?_)
     ·
      try simp only [qs] at hg22
      refine zw rfl (zf rfl (zw rfl (zl hb3 rfl rfl (zw rfl (zq rfl rfl (zt rfl rfl (za rfl (zz (kh76 ?_)))))))))
      refine CW.cond rfl (fun hc23 => ?_) (fun hc23 => ?_)
      ·
       try simp only [qs] at hc23
       refine CW.skip ?_
       refine kh75 ?_
       refine CW.cond rfl (fun hc24 => ?_) (fun hc24 => ?_)
       ·
        try simp only [qs] at hc24
        refine Sr fun _ kh78 => ?_
        refine WL.call hasF52 rfl rfl (NaN_spec _) fun v w16 h' => ?_
        obtain ⟨rfl, rfl⟩ := h'
        refine za rfl (za rfl (zz (kh78 ?_)))
        refine CW.ret ?_
        refine bodyA.ret2 rfl rfl rfl ?_
        first | (exfalso; omega) | (refine ⟨?_, hch⟩; unfold verdP; rw [if_pos hMM]; rfl) | (refine ⟨?_, hch⟩; unfold verdP; rw [if_neg hMM]; (repeat (first | rw [if_pos (by omega)] | rw [if_neg (by omega)])); rfl)
       ·
        try simp only [qs] at hc24
        refine Sr fun _ kh80 => zm rfl (za rfl (zz (kh80 ?_)))
        refine CW.cond rfl (fun hc25 => ?_) (fun hc25 => ?_)
        ·
         try simp only [qs] at hc25
         refine Sr fun _ kh82 => ?_
         refine WL.call hasF89 rfl rfl (Inf_spec 1 _) fun v w17 h' => ?_
         obtain ⟨rfl, rfl⟩ := h'
         refine za rfl (za rfl (zz (kh82 ?_)))
         refine CW.ret ?_
         refine bodyA.ret2 rfl rfl rfl ?_
         first | (exfalso; omega) | (refine ⟨?_, hch⟩; unfold verdP; rw [if_pos hMM]; rfl) | (refine ⟨?_, hch⟩; unfold verdP; rw [if_neg hMM]; (repeat (first | rw [if_pos (by omega)] | rw [if_neg (by omega)])); rfl)
        ·
         try simp only [qs] at hc25
         refine Sr fun _ kh84 => zm rfl (za rfl (zz (kh84 ?_)))
         refine CW.condF rfl ?_
         refine CW.skip ?_
         refine kh74 (Sr fun _ kh86 => za rfl (za rfl (zz (kh86 ?_))))
         refine CW.ret ?_
         refine bodyA.ret2 rfl rfl rfl ?_
         first | (exfalso; omega) | (refine ⟨?_, hch⟩; unfold verdP; rw [if_pos hMM]; rfl) | (refine ⟨?_, hch⟩; unfold verdP; rw [if_neg hMM]; (repeat (first | rw [if_pos (by omega)] | rw [if_neg (by omega)])); rfl)
      ·
       try simp only [qs] at hc23
       refine CW.region fun kR88 kr88 => ?_
       refine zm rfl (zm rfl ?_)
       refine WL.boolCase (fun hg26 => ?_) (fun hg26 => ?_)
       ·
        try simp only [qs] at hg26
        refine zw rfl (zm rfl (zt rfl rfl (za rfl ?_)))
        refine WL.nil (kr88 _ _ _ (kh75 ?_))
        refine CW.condF rfl ?_
        refine Sr fun _ kh89 => zm rfl (za rfl (zz (kh89 ?_)))
        refine CW.cond rfl (fun hc27 => ?_) (fun hc27 => ?_)
        ·
         try simp only [qs] at hc27
         refine Sr fun _ kh91 => ?_
         refine WL.call hasF89 rfl rfl (Inf_spec 1 _) fun v w18 h' => ?_
         obtain ⟨rfl, rfl⟩ := h'
         refine za rfl (za rfl (zz (kh91 ?_)))
         refine CW.ret ?_
         refine bodyA.ret2 rfl rfl rfl ?_
         first | (exfalso; omega) | (refine ⟨?_, hch⟩; unfold verdP; rw [if_pos hMM]; rfl) | (refine ⟨?_, hch⟩; unfold verdP; rw [if_neg hMM]; (repeat (first | rw [if_pos (by omega)] | rw [if_neg (by omega)])); rfl)
        ·
         try simp only [qs] at hc27
         refine Sr fun _ kh93 => zm rfl (za rfl (zz (kh93 ?_)))
         refine CW.condF rfl ?_
         refine CW.skip ?_
         refine kh74 (Sr fun _ kh95 => za rfl (za rfl (zz (kh95 ?_))))
         refine CW.ret ?_
         refine bodyA.ret2 rfl rfl rfl ?_
         first | (exfalso; omega) | (refine ⟨?_, hch⟩; unfold verdP; rw [if_pos hMM]; rfl) | (refine ⟨?_, hch⟩; unfold verdP; rw [if_neg hMM]; (repeat (first | rw [if_pos (by omega)] | rw [if_neg (by omega)])); rfl)
       ·
        try simp only [qs] at hg26
        refine zv rfl (ze rfl rfl (za rfl ?_))
        refine WL.nil (kr88 _ _ _ (kh75 ?_))
        refine CW.condF rfl ?_
        refine Sr fun _ kh97 => zm rfl (za rfl (zz (kh97 ?_)))
        refine CW.cond rfl (fun hc28 => ?_) (fun hc28 => ?_)
        ·
         try simp only [qs] at hc28
         refine Sr fun _ kh99 => ?_
         refine WL.call hasF89 rfl rfl (Inf_spec 1 _) fun v w19 h' => ?_
         obtain ⟨rfl, rfl⟩ := h'
         refine za rfl (za rfl (zz (kh99 ?_)))
         refine CW.ret ?_
         refine bodyA.ret2 rfl rfl rfl ?_
         first | (exfalso; omega) | (refine ⟨?_, hch⟩; unfold verdP; rw [if_pos hMM]; rfl) | (refine ⟨?_, hch⟩; unfold verdP; rw [if_neg hMM]; (repeat (first | rw [if_pos (by omega)] | rw [if_neg (by omega)])); rfl)
        ·
         try simp only [qs] at hc28
         refine Sr fun _ kh101 => zm rfl (za rfl (zz (kh101 ?_)))
         refine CW.condF rfl ?_
         refine CW.skip ?_
         refine kh74 (Sr fun _ kh103 => za rfl (za rfl (zz (kh103 ?_))))
         refine CW.ret ?_
         refine bodyA.ret2 rfl rfl rfl ?_
         first | (exfalso; omega) | (refine ⟨?_, hch⟩; unfold verdP; rw [if_pos hMM]; rfl) | (refine ⟨?_, hch⟩; unfold verdP; rw [if_neg hMM]; (repeat (first | rw [if_pos (by omega)] | rw [if_neg (by omega)])); rfl)
     ·
      try simp only [qs] at hg22
      refine zv rfl (zv rfl (zv rfl (ze rfl rfl (za rfl (zz (kh76 ?_))))))
      refine CW.condF rfl ?_
      refine CW.region fun kR105 kr105 => ?_
      refine zm rfl (zm rfl ?_)
      refine WL.boolCase (fun hg29 => ?_) (fun hg29 => ?_)
      ·
       try simp only [qs] at hg29
       refine zw rfl (zm rfl (zt rfl rfl (za rfl ?_)))
       refine WL.nil (kr105 _ _ _ (kh75 ?_))
       refine CW.condF rfl ?_
       refine Sr fun _ kh106 => zm rfl (za rfl (zz (kh106 ?_)))
       refine CW.cond rfl (fun hc30 => ?_) (fun hc30 => ?_)
       ·
        try simp only [qs] at hc30
        refine Sr fun _ kh108 => ?_
        refine WL.call hasF89 rfl rfl (Inf_spec 1 _) fun v w20 h' => ?_
        obtain ⟨rfl, rfl⟩ := h'
        refine za rfl (za rfl (zz (kh108 ?_)))
        refine CW.ret ?_
        refine bodyA.ret2 rfl rfl rfl ?_
        first | (exfalso; omega) | (refine ⟨?_, hch⟩; unfold verdP; rw [if_pos hMM]; rfl) | (refine ⟨?_, hch⟩; unfold verdP; rw [if_neg hMM]; (repeat (first | rw [if_pos (by omega)] | rw [if_neg (by omega)])); rfl)
       ·
        try simp only [qs] at hc30
        refine Sr fun _ kh110 => zm rfl (za rfl (zz (kh110 ?_)))
        refine CW.condF rfl ?_
        refine CW.skip ?_
        refine kh74 (Sr fun _ kh112 => za rfl (za rfl (zz (kh112 ?_))))
        refine CW.ret ?_
        refine bodyA.ret2 rfl rfl rfl ?_
        first | (exfalso; omega) | (refine ⟨?_, hch⟩; unfold verdP; rw [if_pos hMM]; rfl) | (refine ⟨?_, hch⟩; unfold verdP; rw [if_neg hMM]; (repeat (first | rw [if_pos (by omega)] | rw [if_neg (by omega)])); rfl)
      ·
       try simp only [qs] at hg29
       refine zv rfl (ze rfl rfl (za rfl ?_))
       refine WL.nil (kr105 _ _ _ (kh75 ?_))
       refine CW.condF rfl ?_
       refine Sr fun _ kh114 => zm rfl (za rfl (zz (kh114 ?_)))
       refine CW.cond rfl (fun hc31 => ?_) (fun hc31 => ?_)
       ·
        try simp only [qs] at hc31
        refine Sr fun _ kh116 => ?_
        refine WL.call hasF89 rfl rfl (Inf_spec 1 _) fun v w21 h' => ?_
        obtain ⟨rfl, rfl⟩ := h'
        refine za rfl (za rfl (zz (kh116 ?_)))
        refine CW.ret ?_
        refine bodyA.ret2 rfl rfl rfl ?_
        first | (exfalso; omega) | (refine ⟨?_, hch⟩; unfold verdP; rw [if_pos hMM]; rfl) | (refine ⟨?_, hch⟩; unfold verdP; rw [if_neg hMM]; (repeat (first | rw [if_pos (by omega)] | rw [if_neg (by omega)])); rfl)
       ·
        try simp only [qs] at hc31
        refine Sr fun _ kh118 => zm rfl (za rfl (zz (kh118 ?_)))
        refine CW.condF rfl ?_
        refine CW.skip ?_
        refine kh74 (Sr fun _ kh120 => za rfl (za rfl (zz (kh120 ?_))))
        refine CW.ret ?_
        refine bodyA.ret2 rfl rfl rfl ?_
        first | (exfalso; omega) | (refine ⟨?_, hch⟩; unfold verdP; rw [if_pos hMM]; rfl) | (refine ⟨?_, hch⟩; unfold verdP; rw [if_neg hMM]; (repeat (first | rw [if_pos (by omega)] | rw [if_neg (by omega)])); rfl)
   ·
    try simp only [qs] at hg3
    refine yv rfl (yv rfl (yv rfl (ye rfl rfl ?_)))
    refine WS.ev (Ev.fieldAddr rfl) rfl ?_
    refine WS.ev (Ev.load rfl rfl (hb2.at_ rfl)) rfl ?_
    refine WS.ev (Ev.gtr rfl rfl) rfl ?_
    refine ym rfl ?_
    refine WS.boolCase (fun hg32 => ?_) (fun hg32 => ?_)
    ·
     try simp only [qs] at hg32
     refine yw rfl ?_
     refine WS.ev (Ev.fieldAddr rfl) rfl ?_
     refine yw rfl ?_
     refine WS.ev (Ev.load rfl rfl (hb3.at_ rfl)) rfl ?_
     refine yw rfl ?_
     refine WS.ev (Ev.eql rfl rfl) rfl ?_
     refine yt rfl rfl (ya rfl (ya rfl ?_))
     refine WS.nil (kr11 _ _ ?_)
     refine kh10 (zc fun _ kh122 => ?_)
     refine CW.block ?_
     refine zc fun _ kh123 => Sr fun _ kh124 => zf rfl (zl hb2 rfl rfl ?_)
     refine WL.ev (Ev.gtr rfl rfl) rfl ?_
     refine zm rfl ?_
     refine WL.boolCase (fun hg33 => ?_) (fun hg33 => ?_)
     ·
      try simp only [qs] at hg33
      refine zw rfl (zf rfl (zw rfl (zl hb3 rfl rfl (zw rfl (zq rfl rfl (zt rfl rfl (za rfl (zz (kh124 ?_)))))))))
      refine CW.cond rfl (fun hc34 => ?_) (fun hc34 => ?_)
      ·
       try simp only [qs] at hc34
       refine CW.skip ?_
       refine kh123 ?_
       refine CW.cond rfl (fun hc35 => ?_) (fun hc35 => ?_)
       ·
        try simp only [qs] at hc35
        refine Sr fun _ kh126 => ?_
        refine WL.call hasF52 rfl rfl (NaN_spec _) fun v w22 h' => ?_
        obtain ⟨rfl, rfl⟩ := h'
        refine za rfl (za rfl (zz (kh126 ?_)))
        refine CW.ret ?_
        refine bodyA.ret2 rfl rfl rfl ?_
        first | (exfalso; omega) | (refine ⟨?_, hch⟩; unfold verdP; rw [if_pos hMM]; rfl) | (refine ⟨?_, hch⟩; unfold verdP; rw [if_neg hMM]; (repeat (first | rw [if_pos (by omega)] | rw [if_neg (by omega)])); rfl)
       ·
        try simp only [qs] at hc35
        refine Sr fun _ kh128 => zm rfl (za rfl (zz (kh128 ?_)))
        refine CW.condF rfl ?_
        refine Sr fun _ kh130 => zm rfl (za rfl (zz (kh130 ?_)))
        refine CW.cond rfl (fun hc36 => ?_) (fun hc36 => ?_)
        ·
         try simp only [qs] at hc36
         refine Sr fun _ kh132 => ?_
         refine WL.call hasF89 rfl rfl (Inf_spec (-1) _) fun v w23 h' => ?_
         obtain ⟨rfl, rfl⟩ := h'
         refine za rfl (za rfl (zz (kh132 ?_)))
         refine CW.ret ?_
         refine bodyA.ret2 rfl rfl rfl ?_
         first | (exfalso; omega) | (refine ⟨?_, hch⟩; unfold verdP; rw [if_pos hMM]; rfl) | (refine ⟨?_, hch⟩; unfold verdP; rw [if_neg hMM]; (repeat (first | rw [if_pos (by omega)] | rw [if_neg (by omega)])); rfl)
        ·
         try simp only [qs] at hc36
         refine CW.skip ?_
         refine kh122 (Sr fun _ kh134 => za rfl (za rfl (zz (kh134 ?_))))
         refine CW.ret ?_
         refine bodyA.ret2 rfl rfl rfl ?_
         first | (exfalso; omega) | (refine ⟨?_, hch⟩; unfold verdP; rw [if_pos hMM]; rfl) | (refine ⟨?_, hch⟩; unfold verdP; rw [if_neg hMM]; (repeat (first | rw [if_pos (by omega)] | rw [if_neg (by omega)])); rfl)
      ·
       try simp only [qs] at hc34
       refine CW.region fun kR136 kr136 => ?_
       refine zm rfl (zm rfl (zv rfl (ze rfl rfl (za rfl ?_))))
       refine WL.nil (kr136 _ _ _ (kh123 ?_))
       refine CW.condF rfl ?_
       refine Sr fun _ kh137 => zm rfl (za rfl (zz (kh137 ?_)))
       refine CW.condF rfl ?_
       refine Sr fun _ kh139 => zm rfl (za rfl (zz (kh139 ?_)))
       refine CW.cond rfl (fun hc37 => ?_) (fun hc37 => ?_)
       ·
        try simp only [qs] at hc37
        refine Sr fun _ kh141 => ?_
        refine WL.call hasF89 rfl rfl (Inf_spec (-1) _) fun v w24 h' => ?_
        obtain ⟨rfl, rfl⟩ := h'
        refine za rfl (za rfl (zz (kh141 ?_)))
        refine CW.ret ?_
        refine bodyA.ret2 rfl rfl rfl ?_
        first | (exfalso; omega) | (refine ⟨?_, hch⟩; unfold verdP; rw [if_pos hMM]; rfl) | (refine ⟨?_, hch⟩; unfold verdP; rw [if_neg hMM]; (repeat (first | rw [if_pos (by omega)] | rw [if_neg (by omega)])); rfl)
       ·
        try simp only [qs] at hc37
        refine CW.skip ?_
        refine kh122 (Sr fun _ kh143 => za rfl (za rfl (zz (kh143 ?_))))
        refine CW.ret ?_
        refine bodyA.ret2 rfl rfl rfl ?_
        first | (exfalso; omega) | (refine ⟨?_, hch⟩; unfold verdP; rw [if_pos hMM]; rfl) | (refine ⟨?_, hch⟩; unfold verdP; rw [if_neg hMM]; (repeat (first | rw [if_pos (by omega)] | rw [if_neg (by omega)])); rfl)
     ·
      try simp only [qs] at hg33
      refine zv rfl (zv rfl (zv rfl (ze rfl rfl (za rfl (zz (kh124 ?_))))))
      refine CW.condF rfl ?_
      refine CW.region fun kR145 kr145 => ?_
      refine zm rfl (zm rfl (zv rfl (ze rfl rfl (za rfl ?_))))
      refine WL.nil (kr145 _ _ _ (kh123 ?_))
      refine CW.condF rfl ?_
      refine Sr fun _ kh146 => zm rfl (za rfl (zz (kh146 ?_)))
      refine CW.condF rfl ?_
      refine Sr fun _ kh148 => zm rfl (za rfl (zz (kh148 ?_)))
      refine CW.cond rfl (fun hc38 => ?_) (fun hc38 => ?_)
      ·
       try simp only [qs] at hc38
       refine Sr fun _ kh150 => ?_
       refine WL.call hasF89 rfl rfl (Inf_spec (-1) _) fun v w25 h' => ?_
       obtain ⟨rfl, rfl⟩ := h'
       refine za rfl (za rfl (zz (kh150 ?_)))
       refine CW.ret ?_
       refine bodyA.ret2 rfl rfl rfl ?_
       first | (exfalso; omega) | (refine ⟨?_, hch⟩; unfold verdP; rw [if_pos hMM]; rfl) | (refine ⟨?_, hch⟩; unfold verdP; rw [if_neg hMM]; (repeat (first | rw [if_pos (by omega)] | rw [if_neg (by omega)])); rfl)
      ·
       try simp only [qs] at hc38
       refine CW.skip ?_
       refine kh122 (Sr fun _ kh152 => za rfl (za rfl (zz (kh152 ?_))))
       refine CW.ret ?_
       refine bodyA.ret2 rfl rfl rfl ?_
       first | (exfalso; omega) | (refine ⟨?_, hch⟩; unfold verdP; rw [if_pos hMM]; rfl) | (refine ⟨?_, hch⟩; unfold verdP; rw [if_neg hMM]; (repeat (first | rw [if_pos (by omega)] | rw [if_neg (by omega)])); rfl)
    ·
     try simp only [qs] at hg32
     refine yv rfl (yv rfl (yv rfl (ye rfl rfl (ya rfl (ya rfl ?_)))))
     refine WS.nil (kr11 _ _ ?_)
     refine kh10 (zc fun _ kh154 => ?_)
     refine CW.block ?_
     refine zc fun _ kh155 => Sr fun _ kh156 => zf rfl (zl hb2 rfl rfl ?_)
     refine WL.ev (Ev.gtr rfl rfl) rfl ?_
     refine zm rfl ?_
     refine WL.boolCase (fun hg39 => ?_) (fun hg39 => ?_)
     ·
      try simp only [qs] at hg39
      refine zw rfl (zf rfl (zw rfl (zl hb3 rfl rfl (zw rfl (zq rfl rfl (zt rfl rfl (za rfl (zz (kh156 ?_)))))))))
      refine CW.cond rfl (fun hc40 => ?_) (fun hc40 => ?_)
      ·
       try simp only [qs] at hc40
       refine CW.skip ?_
       refine kh155 ?_
       refine CW.cond rfl (fun hc41 => ?_) (fun hc41 => ?_)
       ·
        try simp only [qs] at hc41
        refine Sr fun _ kh158 => ?_
        refine WL.call hasF52 rfl rfl (NaN_spec _) fun v w26 h' => ?_
        obtain ⟨rfl, rfl⟩ := h'
        refine za rfl (za rfl (zz (kh158 ?_)))
        refine CW.ret ?_
        refine bodyA.ret2 rfl rfl rfl ?_
        first | (exfalso; omega) | (refine ⟨?_, hch⟩; unfold verdP; rw [if_pos hMM]; rfl) | (refine ⟨?_, hch⟩; unfold verdP; rw [if_neg hMM]; (repeat (first | rw [if_pos (by omega)] | rw [if_neg (by omega)])); rfl)
       ·
        try simp only [qs] at hc41
        refine Sr fun _ kh160 => zm rfl (za rfl (zz (kh160 ?_)))
        refine CW.condF rfl ?_
        refine Sr fun _ kh162 => zm rfl (za rfl (zz (kh162 ?_)))
        refine CW.condF rfl ?_
        refine CW.skip ?_
        refine kh154 (Sr fun _ kh164 => za rfl (za rfl (zz (kh164 ?_))))
        refine CW.ret ?_
        refine bodyA.ret2 rfl rfl rfl ?_
        first | (exfalso; omega) | (refine ⟨?_, hch⟩; unfold verdP; rw [if_pos hMM]; rfl) | (refine ⟨?_, hch⟩; unfold verdP; rw [if_neg hMM]; (repeat (first | rw [if_pos (by omega)] | rw [if_neg (by omega)])); rfl)
      ·
       try simp only [qs] at hc40
       refine CW.region fun kR166 kr166 => ?_
       refine zm rfl (zm rfl (zv rfl (ze rfl rfl (za rfl ?_))))
       refine WL.nil (kr166 _ _ _ (kh155 ?_))
       refine CW.condF rfl ?_
       refine Sr fun _ kh167 => zm rfl (za rfl (zz (kh167 ?_)))
       refine CW.condF rfl ?_
       refine Sr fun _ kh169 => zm rfl (za rfl (zz (kh169 ?_)))
       refine CW.condF rfl ?_
       refine CW.skip ?_
       refine kh154 (Sr fun _ kh171 => za rfl (za rfl (zz (kh171 ?_))))
       refine CW.ret ?_
       refine bodyA.ret2 rfl rfl rfl ?_
       first | (exfalso; omega) | (refine ⟨?_, hch⟩; unfold verdP; rw [if_pos hMM]; rfl) | (refine ⟨?_, hch⟩; unfold verdP; rw [if_neg hMM]; (repeat (first | rw [if_pos (by omega)] | rw [if_neg (by omega)])); rfl)
     ·
      try simp only [qs] at hg39
      refine zv rfl (zv rfl (zv rfl (ze rfl rfl (za rfl (zz (kh156 ?_))))))
      refine CW.condF rfl ?_
      refine CW.region fun kR173 kr173 => ?_
      refine zm rfl (zm rfl (zv rfl (ze rfl rfl (za rfl ?_))))
      refine WL.nil (kr173 _ _ _ (kh155 ?_))
      refine CW.condF rfl ?_
      refine Sr fun _ kh174 => zm rfl (za rfl (zz (kh174 ?_)))
      refine CW.condF rfl ?_
      refine Sr fun _ kh176 => zm rfl (za rfl (zz (kh176 ?_)))
      refine CW.condF rfl ?_
      refine CW.skip ?_
      refine kh154 (Sr fun _ kh178 => za rfl (za rfl (zz (kh178 ?_))))
      refine CW.ret ?_
      refine bodyA.ret2 rfl rfl rfl ?_
      first | (exfalso; omega) | (refine ⟨?_, hch⟩; unfold verdP; rw [if_pos hMM]; rfl) | (refine ⟨?_, hch⟩; unfold verdP; rw [if_neg hMM]; (repeat (first | rw [if_pos (by omega)] | rw [if_neg (by omega)])); rfl)

set_option maxRecDepth 4000 in
theorem Nought_spec (s : SP) (mode : Int) (w : World) (hs : s.le 1000000000000000) : Ret Tryz.prog 79 [.agg [.int .i64 (s.na : Int), .int .i64 (s.up : Int), .int .i64 (s.dn : Int), .int .i64 (s.mi : Int), .int .i64 (s.pl : Int), .int .i64 (s.al : Int)].toArray, .int .i64 mode] w fun u w' => u = .float .f64 (noughtP s mode) ∧ Chg [] w w' := by
 have hs0 := hs
 obtain ⟨hs1, hs2, hs3, hs4, hs5, hs6⟩ := hs
 have hch : Chg [] w w := Chg.refl _ _
 refine Ret.enter Tryz.func79 rfl rfl ?_
 simp only [args0, Nat.zero_add, Nat.reduceAdd]
 refine Sr fun _ kh1 => ?_
 refine WL.boxB rfl rfl rfl fun b2 wm2 hb2 hcm2 hge2 => ?_
 have hgehch2 := Nat.le_trans hch.size hge2
 have hch := hch.trans (Chg.any hcm2)
 refine za rfl (zz (kh1 (Sr fun _ kh3 => zf rfl (zl hb2 rfl rfl (zf rfl (zl hb2 rfl rfl ?_))))))
 first | refine WL.ev (Ev.subIn rfl rfl (by omega)) rfl ?_ | refine WL.ev (Ev.sub rfl rfl) rfl ?_
 refine zf rfl (zl hb2 rfl rfl ?_)
 first | refine WL.ev (Ev.subIn rfl rfl (by omega)) rfl ?_ | refine WL.ev (Ev.sub rfl rfl) rfl ?_
 refine zf rfl (zl hb2 rfl rfl ?_)
 first | refine WL.ev (Ev.subIn rfl rfl (by omega)) rfl ?_ | refine WL.ev (Ev.sub rfl rfl) rfl ?_
 refine za rfl (zz (kh3 (zc fun _ kh5 => Sr fun _ kh6 => zg hb2 rfl ?_)))
 refine WL.call hasF88 rfl rfl (mayBe_spec s _ hs0) fun v w1 h' => ?_
 obtain ⟨rfl, hC18⟩ := h'
 have hch := hch.trans (Chg.any hC18)
 have hb2 := hb2.keep0 hC18
 refine zm rfl ?_
 refine WL.boolCase (fun hg1 => ?_) (fun hg1 => ?_)
 ·
  try simp only [qs] at hg1
  have hMM : mayBeP s := hg1
  refine zw rfl (zm rfl (zw rfl ?_))
  refine WL.ev (Ev.gtr rfl rfl) rfl ?_
  refine zt rfl rfl (zm rfl ?_)
  refine WL.boolCase (fun hg2 => ?_) (fun hg2 => ?_)
  ·
   try simp only [qs] at hg2
   refine zw rfl (zf rfl (zw rfl (zl hb2 rfl rfl (zw rfl (zm rfl (zw rfl (zq rfl rfl (zw rfl (zm rfl ?_)))))))))
   refine WL.boolCase (fun hg3 => ?_) (fun hg3 => ?_)
   ·
    try simp only [qs] at hg3
    refine zv rfl (zv rfl (zv rfl (zv rfl (zv rfl (zu rfl (zu rfl (zv rfl (zw rfl (zt rfl rfl (zt rfl rfl (zz (kh6 ?_))))))))))))
    refine CW.condT rfl ?_
    refine Sr fun _ kh8 => ?_
    refine WL.call hasF123 rfl rfl (Copysign_spec _) fun v w2 h' => ?_
    obtain ⟨rfl, rfl⟩ := h'
    refine za rfl (zz (kh8 ?_))
    refine CW.ret ?_
    refine bodyA.ret1 rfl rfl ?_
    refine ⟨?_, hch⟩
    unfold noughtP
    first | (have qM : ¬ mayBeP s := hMM; rw [if_neg (fun q => qM q.1)]; done) | ((have qM : mayBeP s := hMM); (have qY : s.na + s.up + s.dn < s.al := by omega); (have qX : s.mi + s.na + s.up + s.dn = s.al ∨ s.pl + s.na + s.up + s.dn < s.al ∧ mode = 3 := by (first | exact .inl (by omega) | exact .inr ⟨by omega, by omega⟩)); rw [if_pos ⟨qM, qY, qX⟩]; done) | (rw [if_neg (fun q => by have q2 := q.2; omega)]; done)
   ·
    try simp only [qs] at hg3
    refine zw rfl (zf rfl (zw rfl (zl hb2 rfl rfl (zw rfl (zm rfl (zw rfl ?_))))))
    refine WL.ev (Ev.lss rfl rfl) rfl ?_
    refine zw rfl (zm rfl ?_)
    refine WL.boolCase (fun hg4 => ?_) (fun hg4 => ?_)
    ·
     try simp only [qs] at hg4
     refine zw rfl (zm rfl (zw rfl (zq rfl rfl (zw rfl (zt rfl rfl (zw rfl (ze rfl rfl (zt rfl rfl (zz (kh6 ?_))))))))))
     refine CW.cond rfl (fun hc5 => ?_) (fun hc5 => ?_)
     ·
      try simp only [qs] at hc5
      refine Sr fun _ kh10 => ?_
      refine WL.call hasF123 rfl rfl (Copysign_spec _) fun v w3 h' => ?_
      obtain ⟨rfl, rfl⟩ := h'
      refine za rfl (zz (kh10 ?_))
      refine CW.ret ?_
      refine bodyA.ret1 rfl rfl ?_
      refine ⟨?_, hch⟩
      unfold noughtP
      first | (have qM : ¬ mayBeP s := hMM; rw [if_neg (fun q => qM q.1)]; done) | ((have qM : mayBeP s := hMM); (have qY : s.na + s.up + s.dn < s.al := by omega); (have qX : s.mi + s.na + s.up + s.dn = s.al ∨ s.pl + s.na + s.up + s.dn < s.al ∧ mode = 3 := by (first | exact .inl (by omega) | exact .inr ⟨by omega, by omega⟩)); rw [if_pos ⟨qM, qY, qX⟩]; done) | (rw [if_neg (fun q => by have q2 := q.2; omega)]; done)
     ·
      try simp only [qs] at hc5
      refine CW.skip ?_
      refine kh5 (Sr fun _ kh12 => za rfl (zz (kh12 ?_)))
      refine CW.ret ?_
      refine bodyA.ret1 rfl rfl ?_
      refine ⟨?_, hch⟩
      unfold noughtP
      first | (have qM : ¬ mayBeP s := hMM; rw [if_neg (fun q => qM q.1)]; done) | ((have qM : mayBeP s := hMM); (have qY : s.na + s.up + s.dn < s.al := by omega); (have qX : s.mi + s.na + s.up + s.dn = s.al ∨ s.pl + s.na + s.up + s.dn < s.al ∧ mode = 3 := by (first | exact .inl (by omega) | exact .inr ⟨by omega, by omega⟩)); rw [if_pos ⟨qM, qY, qX⟩]; done) | (rw [if_neg (fun q => by have q2 := q.2; omega)]; done)
    ·
     try simp only [qs] at hg4
     refine zv rfl (zv rfl (zw rfl (ze rfl rfl (zw rfl (ze rfl rfl (zt rfl rfl (zz (kh6 ?_))))))))
     refine CW.condF rfl ?_
     refine CW.skip ?_
     refine kh5 (Sr fun _ kh14 => za rfl (zz (kh14 ?_)))
     refine CW.ret ?_
     refine bodyA.ret1 rfl rfl ?_
     refine ⟨?_, hch⟩
     unfold noughtP
     first | (have qM : ¬ mayBeP s := hMM; rw [if_neg (fun q => qM q.1)]; done) | ((have qM : mayBeP s := hMM); (have qY : s.na + s.up + s.dn < s.al := by omega); (have qX : s.mi + s.na + s.up + s.dn = s.al ∨ s.pl + s.na + s.up + s.dn < s.al ∧ mode = 3 := by (first | exact .inl (by omega) | exact .inr ⟨by omega, by omega⟩)); rw [if_pos ⟨qM, qY, qX⟩]; done) | (rw [if_neg (fun q => by have q2 := q.2; omega)]; done)
  ·
   try simp only [qs] at hg2
   refine zv rfl (zv rfl (zv rfl (zv rfl (zv rfl (zu rfl (zu rfl (zu rfl (zu rfl (zu rfl (zu rfl (zu rfl (zu rfl (zv rfl (ze rfl rfl (zz (kh6 ?_))))))))))))))))
   refine CW.condF rfl ?_
   refine CW.skip ?_
   refine kh5 (Sr fun _ kh16 => za rfl (zz (kh16 ?_)))
   refine CW.ret ?_
   refine bodyA.ret1 rfl rfl ?_
   refine ⟨?_, hch⟩
   unfold noughtP
   first | (have qM : ¬ mayBeP s := hMM; rw [if_neg (fun q => qM q.1)]; done) | ((have qM : mayBeP s := hMM); (have qY : s.na + s.up + s.dn < s.al := by omega); (have qX : s.mi + s.na + s.up + s.dn = s.al ∨ s.pl + s.na + s.up + s.dn < s.al ∧ mode = 3 := by (first | exact .inl (by omega) | exact .inr ⟨by omega, by omega⟩)); rw [if_pos ⟨qM, qY, qX⟩]; done) | (rw [if_neg (fun q => by have q2 := q.2; omega)]; done)
 ·
  try simp only [qs] at hg1
  have hMM : ¬ mayBeP s := hg1
  refine zv rfl (zv rfl (ze rfl rfl (zm rfl (zv rfl (zv rfl (zv rfl (zv rfl (zv rfl (zu rfl (zu rfl (zu rfl (zu rfl (zu rfl (zu rfl (zu rfl (zu rfl (zv rfl (ze rfl rfl (zz (kh6 ?_))))))))))))))))))))
  refine CW.condF rfl ?_
  refine CW.skip ?_
  refine kh5 (Sr fun _ kh18 => za rfl (zz (kh18 ?_)))
  refine CW.ret ?_
  refine bodyA.ret1 rfl rfl ?_
  refine ⟨?_, hch⟩
  unfold noughtP
  first | (have qM : ¬ mayBeP s := hMM; rw [if_neg (fun q => qM q.1)]; done) | ((have qM : mayBeP s := hMM); (have qY : s.na + s.up + s.dn < s.al := by omega); (have qX : s.mi + s.na + s.up + s.dn = s.al ∨ s.pl + s.na + s.up + s.dn < s.al ∧ mode = 3 := by (first | exact .inl (by omega) | exact .inr ⟨by omega, by omega⟩)); rw [if_pos ⟨qM, qY, qX⟩]; done) | (rw [if_neg (fun q => by have q2 := q.2; omega)]; done)

end Go.Proofs.YtphnpchmdpjabaaGreatDoor

/- Package policy: Sift. No condition. -/
namespace Go.Proofs.YtphnpchmdpjabaaGreatDoor
open Go Sx Wd

/-- A slice of numbers of 64 bits that reads as l. -/
structure NF (w : World) (v : Value) (l : List Nat) : Prop where
  ex : ∃ a c, v = .slice a l.length c ∧ l.length ≤ c ∧ RW w a (l.map f64v)
  hw : ∀ x ∈ l, x < 18446744073709551616
  len : l.length ≤ 70368744177664
theorem NF.keep0 {w w' : World} {v : Value} {l : List Nat} (h : NF w v l) (hc : Chg [] w w') : NF w' v l := by
  obtain ⟨⟨a, c, h1, h2, h3⟩, h4, h5⟩ := h
  exact ⟨⟨a, c, h1, h2, h3.keep0 hc⟩, h4, h5⟩
theorem NF.part {w : World} {a : Option Addr} {l : List Nat} {k c : Nat} (h : RW w a (l.map f64v)) (hw : ∀ x ∈ l.take k, x < 18446744073709551616) (hl : l.length ≤ 70368744177664) (hk : k ≤ l.length) (hc : k ≤ c) : NF w (.slice a k c) (l.take k) := by
  have e : (l.take k).length = k := by rw [List.length_take]; omega
  refine ⟨⟨a, c, by rw [e], by omega, ?_⟩, hw, by omega⟩
  rw [List.map_take]
  exact h.take k
theorem D_getD {l : List Nat} (h : ∀ x ∈ l, x < 18446744073709551616) (i : Nat) : l.getD i 0 < 18446744073709551616 := by
  rw [List.getD_eq_getElem?_getD]
  cases q : l[i]? with
  | none => simp
  | some x => exact h x (List.mem_of_getElem? q)
def finP (x : Nat) : Bool := decide (kindP x ≤ 2)
def filP (l : List Nat) : List Nat := l.filter finP
def cntP (l : List Nat) : SP := l.foldl (fun s x => countP s (kindP x)) SP.zero
def siftE (l : List Nat) (pn pi : Int) : Int :=
  if ¬ mayQ pn pi then 1 else if 65536 < l.length then 2 else if 0 < (cntP l).na ∧ pn = 2 then 60 else if 0 < (cntP l).up + (cntP l).dn ∧ pi = 2 then 61 else 0
theorem take_step {l : List Nat} {i : Nat} (h : i < l.length) : l.take (i + 1) = l.take i ++ [l.getD i 0] := by
  rw [List.take_add_one, List.getD_eq_getElem?_getD, List.getElem?_eq_getElem h]; rfl
theorem cntP_step {l : List Nat} {i : Nat} (h : i < l.length) : cntP (l.take (i + 1)) = countP (cntP (l.take i)) (kindP (l.getD i 0)) := by
  unfold cntP; rw [take_step h, List.foldl_append]; rfl
theorem cntP_le : ∀ (l : List Nat) (s : SP) (n : Nat), s.le n → (l.foldl (fun s x => countP s (kindP x)) s).le (n + l.length)
  | [], s, n, h => h
  | x :: l, s, n, h => by
    have := cntP_le l (countP s (kindP x)) (n + 1) (countP.le h)
    simpa [Nat.add_assoc, Nat.add_comm 1] using this
theorem cnt_le (l : List Nat) : (cntP l).le l.length := by
  have := cntP_le l SP.zero 0 (by refine ⟨?_, ?_, ?_, ?_, ?_, ?_⟩ <;> exact Nat.zero_le _)
  rw [Nat.zero_add] at this; exact this
theorem SP.le.mono {s : SP} {n m : Nat} (h : s.le n) (hm : n ≤ m) : s.le m := by
  obtain ⟨a, b, c, d, e, f⟩ := h
  exact ⟨by omega, by omega, by omega, by omega, by omega, by omega⟩
theorem filP_step {l : List Nat} {i : Nat} (h : i < l.length) : filP (l.take (i + 1)) = if kindP (l.getD i 0) ≤ 2 then filP (l.take i) ++ [l.getD i 0] else filP (l.take i) := by
  unfold filP
  rw [take_step h, List.filter_append, List.filter_cons]
  simp only [finP, decide_eq_true_eq, List.filter_nil]
  split <;> simp
theorem filP_len (l : List Nat) (i : Nat) : (filP (l.take i)).length ≤ i := by
  unfold filP
  have := List.length_filter_le finP (l.take i)
  rw [List.length_take] at this
  omega
theorem set_take {L : List Nat} {m v : Nat} (h : m < L.length) : (L.set m v).take (m + 1) = L.take m ++ [v] := by
  rw [List.take_add_one, List.take_set_of_le (Nat.le_refl _), List.getElem?_set_self h]; rfl

structure KSift (l : List Nat) (pn pi : Int) (w0 : World) (b3 b5 b7 b23 : Nat) (g : Nat × List Nat) (w : World) : Prop where
  le : g.1 ≤ l.length
  len : g.2.length = l.length
  tk : g.2.take (filP (l.take g.1)).length = filP (l.take g.1)
  h3 : BK w b3 39 [.int .i64 pn, .int .i64 pi]
  h5 : BK w b5 65 [.int .i64 0, .int .i64 0, .int .i64 0, .int .i64 0, .int .i64 0, .int .i64 0]
  h7 : BK w b7 65 (cntP (l.take g.1)).cells
  hF : FB w b23 28 g.2
  ch : Chg [] w0 w

set_option maxRecDepth 4000 in
theorem Sift_spec (v : Value) (l : List Nat) (pn pi : Int) (w : World) (hv : NF w v l) : Ret Tryz.prog 41 [v, .agg [.int .i64 pn, .int .i64 pi].toArray] w fun u w' => (siftE l pn pi ≠ 0 ∧ u = .tuple [.slice none 0 0, .agg SP.zero.cells.toArray, .int .i64 (siftE l pn pi)].toArray ∧ Chg [] w w') ∨ (siftE l pn pi = 0 ∧ ∃ v2, NF w' v2 (filP l) ∧ u = .tuple [v2, .agg (cntP l).cells.toArray, .int .i64 0].toArray ∧ Chg [] w w') := by
 obtain ⟨⟨al, cl, rfl, hcapl, hrl⟩, hWl, hll⟩ := hv
 have hch : Chg [] w w := Chg.refl _ _
 refine Ret.enter Tryz.func41 rfl rfl ?_
 simp only [args0, Nat.zero_add, Nat.reduceAdd]
 refine Sr fun _ kh1 => ?_
 refine WL.boxB rfl rfl rfl fun b3 wm3 hb3 hcm3 hge3 => ?_
 have hgehch3 := Nat.le_trans hch.size hge3
 have hch := hch.trans (Chg.any hcm3)
 refine za rfl ?_
 refine WL.allocB (l := [.int .i64 0, .int .i64 0, .int .i64 0, .int .i64 0, .int .i64 0, .int .i64 0]) rfl rfl fun b5 wm5 hb5 hcm5 hge5 => ?_
 have hgehch5 := Nat.le_trans hch.size hge5
 have hch := hch.trans (Chg.any hcm5)
 have hneb35 : b3 ≠ b5 := by have := hb3.lt; omega
 have hb3 := hb3.keep0 hcm5
 refine za rfl (zz (kh1 (Sr fun _ kh3 => ?_)))
 refine WL.allocB (l := [.int .i64 0, .int .i64 0, .int .i64 0, .int .i64 0, .int .i64 0, .int .i64 0]) rfl rfl fun b7 wm7 hb7 hcm7 hge7 => ?_
 have hgehch7 := Nat.le_trans hch.size hge7
 have hch := hch.trans (Chg.any hcm7)
 have hneb37 : b3 ≠ b7 := by have := hb3.lt; omega
 have hb3 := hb3.keep0 hcm7
 have hneb57 : b5 ≠ b7 := by have := hb5.lt; omega
 have hb5 := hb5.keep0 hcm7
 refine zz (kh3 (zc fun _ kh5 => ?_))
 refine CW.block ?_
 refine Sr fun _ kh6 => zg hb3 rfl ?_
 refine WL.call hasF85 rfl rfl (May_spec pn pi _) fun v w1 h' => ?_
 obtain ⟨rfl, hC13⟩ := h'
 have hch := hch.trans (Chg.any hC13)
 have hb3 := hb3.keep0 hC13
 have hb5 := hb5.keep0 hC13
 have hb7 := hb7.keep0 hC13
 refine WL.ev (Ev.not rfl) rfl ?_
 refine za rfl (zz (kh6 ?_))
 refine CW.cond rfl (fun hc1 => ?_) (fun hc1 => ?_)
 ·
  try simp only [qs] at hc1
  have hM : ¬ mayQ pn pi := hc1
  refine zc fun _ kh8 => ?_
  refine CW.regionKC 2 4 rfl hmix fun kR9 kr9 hS hdr => ?_
  have hch := hch.trans (Chg.any hdr)
  have hb3 := hb3.keep0 hdr
  have hb5 := hb5.keep0 hdr
  have hb7 := hb7.keep0 hdr
  have hch_r := hch
  have hb3_r := hb3
  have hb5_r := hb5
  have hb7_r := hb7
  refine wk 0 rfl hS (fun _ hw' => Ev.loadA rfl rfl (hb7_r.keep0 hw') rfl) (wk 1 rfl hS (fun _ _ => Ev.assign rfl) ?_)
  refine WK.storeB 2 rfl (by kernel_rfl) (by kernel_rfl) rfl rfl rfl ao hb5 (by simp) rfl fun ws16 hb5_ hcs16 => ?_
  try simp only [Sx.splice, qt] at hb5_
  have hch := hch.s1 hcs16
  have hb3 := hb3.keep hcs16 (by simp; omega)
  have hb7 := hb7.keep hcs16 (by simp; omega)
  have hb5 := hb5_
  refine WK.after 3 rfl (by kernel_rfl) (by kernel_rfl) (Ev.assign rfl) rfl ?_
  refine WK.done (by kernel_rfl) (kr9 _ _ _ ?_)
  refine kh8 ?_
  refine CW.ret ?_
  refine bodyA.retR3 rfl (RVal.tmp rfl) (RVal.cell rfl (hb5.varA rfl rfl)) (RVal.tmp rfl) ?_
  exact .inl ⟨by unfold siftE; rw [if_pos hM]; decide, by unfold siftE; rw [if_pos hM]; rfl, hch⟩
 ·
  try simp only [qs] at hc1
  have hM : ¬ ¬ mayQ pn pi := fun q => q hc1
  refine Sr fun _ kh10 => zm rfl (zn rfl ?_)
  refine WL.ev (Ev.gtr rfl rfl) rfl ?_
  refine za rfl (zz (kh10 ?_))
  refine CW.cond rfl (fun hc2 => ?_) (fun hc2 => ?_)
  ·
   try simp only [qs] at hc2
   have hL : 65536 < l.length := by omega
   refine zc fun _ kh12 => ?_
   refine CW.regionKC 2 4 rfl hmix fun kR13 kr13 hS hdr => ?_
   have hch := hch.trans (Chg.any hdr)
   have hb3 := hb3.keep0 hdr
   have hb5 := hb5.keep0 hdr
   have hb7 := hb7.keep0 hdr
   have hch_r := hch
   have hb3_r := hb3
   have hb5_r := hb5
   have hb7_r := hb7
   refine wk 0 rfl hS (fun _ hw' => Ev.loadA rfl rfl (hb7_r.keep0 hw') rfl) (wk 1 rfl hS (fun _ _ => Ev.assign rfl) ?_)
   refine WK.storeB 2 rfl (by kernel_rfl) (by kernel_rfl) rfl rfl rfl ao hb5 (by simp) rfl fun ws17 hb5_ hcs17 => ?_
   try simp only [Sx.splice, qt] at hb5_
   have hch := hch.s1 hcs17
   have hb3 := hb3.keep hcs17 (by simp; omega)
   have hb7 := hb7.keep hcs17 (by simp; omega)
   have hb5 := hb5_
   refine WK.after 3 rfl (by kernel_rfl) (by kernel_rfl) (Ev.assign rfl) rfl ?_
   refine WK.done (by kernel_rfl) (kr13 _ _ _ ?_)
   refine kh12 ?_
   refine CW.ret ?_
   refine bodyA.retR3 rfl (RVal.tmp rfl) (RVal.cell rfl (hb5.varA rfl rfl)) (RVal.tmp rfl) ?_
   exact .inl ⟨by unfold siftE; rw [if_neg hM, if_pos hL]; decide, by unfold siftE; rw [if_neg hM, if_pos hL]; rfl, hch⟩
  ·
   try simp only [qs] at hc2
   have hL : ¬ 65536 < l.length := by omega
   refine CW.skip ?_
   refine kh5 (Sr fun _ kh14 => zm rfl (zn rfl ?_))
   refine WL.makeF (0) ((l).length) rfl rfl (by omega) (by omega) (by omega) (by omega) (by omega) rfl fun b23 wm23 hb23 hcm23 hge23 => ?_
   have hgehch23 := Nat.le_trans hch.size hge23
   have hch := hch.trans (Chg.any hcm23)
   have hneb323 : b3 ≠ b23 := by have := hb3.lt; omega
   have hb3 := hb3.keep0 hcm23
   have hneb523 : b5 ≠ b23 := by have := hb5.lt; omega
   have hb5 := hb5.keep0 hcm23
   have hneb723 : b7 ≠ b23 := by have := hb7.lt; omega
   have hb7 := hb7.keep0 hcm23
   refine za rfl (zz (kh14 (zc fun _ kh16 => Sr fun _ kh17 => zm rfl (zn rfl (zm rfl (zz (kh17 ?_)))))))
   refine CW.block ?_
   refine CW.loop (S := fun g : Nat × List Nat => [(0, .slice al l.length cl), (3, .pointer (some ⟨b3, 0, none⟩)), (4, .slice none 0 0), (5, .pointer (some ⟨b5, 0, none⟩)), (6, .int .i64 0), (7, .pointer (some ⟨b7, 0, none⟩)), (8, .slice (some ⟨b23, 0, none⟩) (filP (l.take g.1)).length l.length), (25, .int .i64 (l.length : Int)), (26, .int .i64 (g.1 : Int))]) (Inv := KSift l pn pi w b3 b5 b7 b23) (mu := fun g => l.length - g.1) ((0, List.replicate l.length 0)) ?_ ?_ ?_
   ·
    exact ⟨Nat.zero_le _, by simp, by simp [filP], hb3, hb5, hb7, hb23, hch⟩
   ·
    exact SLp
   ·
    rintro ⟨i, L⟩ wr ⟨hi1, hLl, htk, hb3, hb5, hb7, hb23, hch⟩
    dsimp only at hi1 hLl htk hb3 hb5 hb7 hb23 hch
    dsimp only
    have hfl := filP_len l i
    have hx64 := D_getD hWl i
    have hcle := (cnt_le (l.take i)).mono (m := 65536) (by rw [List.length_take]; omega)
    refine Sr fun _ kh19 => ?_
    refine WL.ev (Ev.lss rfl rfl) rfl ?_
    refine zz (kh19 (zc fun _ kh21 => ?_))
    refine CW.cond rfl (fun hc3 => ?_) (fun hc3 => ?_)
    ·
     try simp only [qs] at hc3
     refine CW.skip ?_
     refine kh21 (zc fun _ kh22 => ?_)
     refine CW.block ?_
     refine Sr fun _ kh23 => zm rfl (za rfl (zz (kh23 (Sr fun _ kh25 => zm rfl (zm rfl ?_)))))
     refine WL.ev (Ev.ixR (i) rfl rfl (hrl.keep0 hch) (by omega) (by omega) (by simp; omega)) rfl ?_
     refine WL.ev (Ev.load rfl rfl ((hrl.keep0 hch).f64 (by first | omega | (simp; omega)))) rfl ?_
     refine WL.call hasF86 rfl rfl (kind_spec (l.getD i 0) _ hx64) fun v w2 h' => ?_
     obtain ⟨rfl, hC33⟩ := h'
     have hch := hch.trans (Chg.any hC33)
     have hb3 := hb3.keep0 hC33
     have hb5 := hb5.keep0 hC33
     have hb7 := hb7.keep0 hC33
     have hb23 := hb23.keep0 hC33
     refine za rfl (zz (kh25 (Sr fun _ kh27 => zm rfl ?_)))
     refine WL.call hasF87 rfl rfl (count_spec b7 (kindP (l.getD i 0)) (cntP (l.take i)) _ hb7 (hcle.mono (by decide))) fun v w3 h' => ?_
     obtain ⟨hb7_, hC35⟩ := h'
     have hch := hch.step hC35 (fun y hy => by simp only [List.mem_singleton] at hy; subst hy; exact .inr (by omega))
     have hb3 := hb3.keep hC35 (by simp; try omega)
     have hb5 := hb5.keep hC35 (by simp; try omega)
     have hb23 := hb23.keep hC35 (by simp; try omega)
     have hb7 := hb7_
     rw [← cntP_step (by omega)] at hb7
     refine zz (kh27 (Sr fun _ kh29 => zm rfl ?_))
     refine WL.ev (Ev.leq rfl rfl) rfl ?_
     refine zz (kh29 ?_)
     refine CW.cond rfl (fun hc4 => ?_) (fun hc4 => ?_)
     ·
      try simp only [qs] at hc4
      have hk2 : kindP (l.getD i 0) ≤ 2 := by omega
      refine CW.region fun kR31 kr31 => ?_
      refine zm rfl (zm rfl (zm rfl ?_))
      refine WL.ev (Ev.ixR (i) rfl rfl (hrl.keep0 hch) (by omega) (by omega) (by simp; omega)) rfl ?_
      refine WL.ev (Ev.load rfl rfl ((hrl.keep0 hch).f64 (by first | omega | (simp; omega)))) rfl ?_
      refine WL.buildSlice (m := 1) (cs := [f64v (l.getD i 0)]) (by decide) (by decide) rfl (by kernel_rfl) rfl fun b43 w43 hn43 => ?_
      have hcm43 := hn43.chg
      have hb43 : BK w43 b43 28 [f64v (l.getD i 0)] := hn43.at_
      have hch := hch.trans (Chg.any hcm43)
      have hb3 := hb3.keep hcm43 (by simp; try omega)
      have hb5 := hb5.keep hcm43 (by simp; try omega)
      have hb7 := hb7.keep hcm43 (by simp; try omega)
      have hb23 := hb23.keep hcm43 (by simp; try omega)
      refine WL.appendF (v := l.getD i 0) rfl rfl hb23 (hb43.at_ rfl) (by omega) (by omega) rfl fun w44 hb23_ hcs44 => ?_
      have hch := hch.step hcs44 (fun y hy => by simp only [List.mem_singleton] at hy; subst hy; exact .inr (by omega))
      have hb3 := hb3.keep hcs44 (by simp; try omega)
      have hb5 := hb5.keep hcs44 (by simp; try omega)
      have hb7 := hb7.keep hcs44 (by simp; try omega)
      have hb23 := hb23_
      rw [show (filP (l.take i)).length + 1 = (filP (l.take (i + 1))).length by rw [filP_step (by omega), if_pos hk2]; simp]
      refine za rfl ?_
      refine WL.nil (kr31 _ _ _ (kh22 ?_))
      refine CW.region fun kR32 kr32 => ?_
      first | refine WL.ev (Ev.addIn rfl rfl (by omega)) rfl ?_ | refine WL.ev (Ev.add rfl rfl) rfl ?_
      refine zm rfl ?_
      refine WL.nil (kr32 _ _ _ ?_)
      refine ⟨rfl, (i + 1, L.set (filP (l.take i)).length (l.getD i 0)), ?_, ?_, ?_⟩
      ·
       exact SLp
      ·
       exact ⟨by dsimp only; omega, by simpa using hLl, by dsimp only; rw [filP_step (by omega), if_pos hk2, List.length_append]; show List.take _ _ = _; rw [show [l.getD i 0].length = 1 from rfl, set_take (by omega), htk], hb3, hb5, hb7, hb23, hch⟩
      ·
       show l.length - (i + 1) < l.length - i; omega
     ·
      try simp only [qs] at hc4
      have hk2 : ¬ kindP (l.getD i 0) ≤ 2 := by omega
      have hfs : filP (l.take (i + 1)) = filP (l.take i) := by rw [filP_step (by omega), if_neg hk2]
      refine CW.skip ?_
      refine kh22 ?_
      refine CW.region fun kR33 kr33 => ?_
      first | refine WL.ev (Ev.addIn rfl rfl (by omega)) rfl ?_ | refine WL.ev (Ev.add rfl rfl) rfl ?_
      refine zm rfl ?_
      refine WL.nil (kr33 _ _ _ ?_)
      refine ⟨rfl, (i + 1, L), ?_, ?_, ?_⟩
      ·
       rw [← hfs]; repeat (first | exact Subs.nil | refine Subs.cons rfl ?_ | refine Subs.consI rfl (by omega) ?_)
      ·
       exact ⟨by dsimp only; omega, hLl, by dsimp only; rw [hfs]; exact htk, hb3, hb5, hb7, hb23, hch⟩
      ·
       show l.length - (i + 1) < l.length - i; omega
    ·
     try simp only [qs] at hc3
     have hiX : i = l.length := by omega
     subst hiX
     rw [List.take_length] at hb7 hcle htk hfl
     rw [List.take_length]
     unfold SP.cells at hb7
     obtain ⟨hcl1, hcl2, hcl3, hcl4, hcl5, hcl6⟩ := hcle
     refine CW.exit ?_
     refine kh16 (zc fun _ kh34 => ?_)
     refine CW.block ?_
     refine CW.seqM 46 (decide (0 < (cntP l).na ∧ pn = 2)) ?_ ?_
     ·
      refine CW.region fun kR35 kr35 => ?_
      refine zf rfl (zl hb7 rfl rfl ?_)
      refine WL.ev (Ev.gtr rfl rfl) rfl ?_
      refine zm rfl ?_
      refine WL.boolCase (fun hg5 => ?_) (fun hg5 => ?_)
      ·
       try simp only [qs] at hg5
       refine zw rfl (zf rfl (zw rfl (zl hb3 rfl rfl (zw rfl (zq rfl rfl (zt rfl rfl (za rfl ?_)))))))
       refine WL.nil (kr35 _ _ _ ?_)
       refine ⟨rfl, rfl, Subs.consB rfl ?_ ?_⟩
       ·
        first | (simp; omega) | (refine decide_eq_decide.2 ?_; omega)
       ·
        exact SMg
      ·
       try simp only [qs] at hg5
       refine zv rfl (zv rfl (zv rfl (ze rfl rfl (za rfl ?_))))
       refine WL.nil (kr35 _ _ _ ?_)
       refine ⟨rfl, rfl, Subs.consB rfl ?_ ?_⟩
       ·
        first | (simp; omega) | (refine decide_eq_decide.2 ?_; omega)
       ·
        exact SMg
     ·
      refine CW.cond rfl (fun hc6 => ?_) (fun hc6 => ?_)
      ·
       try simp only [qs] at hc6
       have hA : 0 < (cntP l).na ∧ pn = 2 := hc6
       refine Sr fun _ kh36 => ?_
       refine WL.ev (Ev.build (vs := _) (cs := [_, _, _, _, _, _]) rfl rfl) rfl ?_
       refine za rfl ?_
       refine WL.storeB rfl rfl rfl ao hb5 (by simp) rfl fun ws18 hb5_ hcs18 => ?_
       try simp only [Sx.splice, qt] at hb5_
       have hch := hch.s1 hcs18
       have hb3 := hb3.keep hcs18 (by simp; omega)
       have hb7 := hb7.keep hcs18 (by simp; omega)
       have hb23 := hb23.keep hcs18 (by simp; omega)
       have hb5 := hb5_
       refine za rfl (zz (kh36 ?_))
       refine CW.ret ?_
       refine bodyA.retR3 rfl (RVal.tmp rfl) (RVal.cell rfl (hb5.varA rfl rfl)) (RVal.tmp rfl) ?_
       exact .inl ⟨by unfold siftE; rw [if_neg hM, if_neg hL, if_pos hA]; decide, by unfold siftE; rw [if_neg hM, if_neg hL, if_pos hA]; rfl, hch⟩
      ·
       try simp only [qs] at hc6
       have hA : ¬ (0 < (cntP l).na ∧ pn = 2) := hc6
       refine CW.seqM 56 (decide (0 < (cntP l).up + (cntP l).dn ∧ pi = 2)) ?_ ?_
       ·
        refine CW.region fun kR38 kr38 => ?_
        refine zf rfl (zl hb7 rfl rfl (zf rfl (zl hb7 rfl rfl ?_)))
        first | refine WL.ev (Ev.addIn rfl rfl (by omega)) rfl ?_ | refine WL.ev (Ev.add rfl rfl) rfl ?_
        refine WL.ev (Ev.gtr rfl rfl) rfl ?_
        refine zm rfl ?_
        refine WL.boolCase (fun hg7 => ?_) (fun hg7 => ?_)
        ·
         try simp only [qs] at hg7
         refine zw rfl (zf rfl (zw rfl (zl hb3 rfl rfl (zw rfl (zq rfl rfl (zt rfl rfl (za rfl ?_)))))))
         refine WL.nil (kr38 _ _ _ ?_)
         refine ⟨rfl, rfl, Subs.consB rfl ?_ ?_⟩
         ·
          first | (simp; omega) | (refine decide_eq_decide.2 ?_; omega)
         ·
          exact SMg
        ·
         try simp only [qs] at hg7
         refine zv rfl (zv rfl (zv rfl (ze rfl rfl (za rfl ?_))))
         refine WL.nil (kr38 _ _ _ ?_)
         refine ⟨rfl, rfl, Subs.consB rfl ?_ ?_⟩
         ·
          first | (simp; omega) | (refine decide_eq_decide.2 ?_; omega)
         ·
          exact SMg
       ·
        refine CW.cond rfl (fun hc8 => ?_) (fun hc8 => ?_)
        ·
         try simp only [qs] at hc8
         have hB : 0 < (cntP l).up + (cntP l).dn ∧ pi = 2 := hc8
         refine Sr fun _ kh39 => ?_
         refine WL.ev (Ev.build (vs := _) (cs := [_, _, _, _, _, _]) rfl rfl) rfl ?_
         refine za rfl ?_
         refine WL.storeB rfl rfl rfl ao hb5 (by simp) rfl fun ws19 hb5_ hcs19 => ?_
         try simp only [Sx.splice, qt] at hb5_
         have hch := hch.s1 hcs19
         have hb3 := hb3.keep hcs19 (by simp; omega)
         have hb7 := hb7.keep hcs19 (by simp; omega)
         have hb23 := hb23.keep hcs19 (by simp; omega)
         have hb5 := hb5_
         refine za rfl (zz (kh39 ?_))
         refine CW.ret ?_
         refine bodyA.retR3 rfl (RVal.tmp rfl) (RVal.cell rfl (hb5.varA rfl rfl)) (RVal.tmp rfl) ?_
         exact .inl ⟨by unfold siftE; rw [if_neg hM, if_neg hL, if_neg hA, if_pos hB]; decide, by unfold siftE; rw [if_neg hM, if_neg hL, if_neg hA, if_pos hB]; rfl, hch⟩
        ·
         try simp only [qs] at hc8
         have hB : ¬ (0 < (cntP l).up + (cntP l).dn ∧ pi = 2) := hc8
         refine CW.skip ?_
         refine kh34 (zc fun _ kh41 => ?_)
         refine CW.regionKC 3 5 rfl hmix fun kR42 kr42 hS hdr => ?_
         have hch := hch.trans (Chg.any hdr)
         have hb3 := hb3.keep0 hdr
         have hb5 := hb5.keep0 hdr
         have hb7 := hb7.keep0 hdr
         have hb23 := hb23.keep0 hdr
         have hch_r := hch
         have hb3_r := hb3
         have hb5_r := hb5
         have hb7_r := hb7
         have hb23_r := hb23
         refine wk 0 rfl hS (fun _ _ => Ev.move rfl) (wk 1 rfl hS (fun _ hw' => Ev.loadA rfl rfl (hb7_r.keep0 hw') rfl) (wk 2 rfl hS (fun _ _ => Ev.assign rfl) ?_))
         refine WK.storeB 3 rfl (by kernel_rfl) (by kernel_rfl) rfl rfl rfl ao hb5 (by simp) rfl fun ws20 hb5_ hcs20 => ?_
         try simp only [Sx.splice, qt] at hb5_
         have hch := hch.s1 hcs20
         have hb3 := hb3.keep hcs20 (by simp; omega)
         have hb7 := hb7.keep hcs20 (by simp; omega)
         have hb23 := hb23.keep hcs20 (by simp; omega)
         have hb5 := hb5_
         refine WK.after 4 rfl (by kernel_rfl) (by kernel_rfl) (Ev.assign rfl) rfl ?_
         refine WK.done (by kernel_rfl) (kr42 _ _ _ ?_)
         refine kh41 ?_
         refine CW.ret ?_
         refine bodyA.retR3 rfl (RVal.tmp rfl) (RVal.cell rfl (hb5.varA rfl rfl)) (RVal.tmp rfl) ?_
         refine .inr ⟨by unfold siftE; rw [if_neg hM, if_neg hL, if_neg hA, if_neg hB], _, ?_, rfl, hch⟩
         have := NF.part hb23.row (by rw [htk]; exact fun x hx => hWl x (List.mem_filter.1 hx).1) (by omega) (k := (filP l).length) (by omega) (c := l.length) (by omega)
         rw [htk] at this
         exact this

end Go.Proofs.YtphnpchmdpjabaaGreatDoor

/- Whole numbers in words of 64 bits: two's complement. No condition. -/
namespace Go.Proofs.YtphnpchmdpjabaaGreatDoor
open Wd
set_option exponentiation.threshold 5000

/-- The value of words of 64 bits, the lowest first. -/
def tv : List Nat → Nat
  | [] => 0
  | a :: l => a + 18446744073709551616 * tv l
/-- All words are words. -/
def W64 (l : List Nat) : Prop := ∀ x ∈ l, x < 18446744073709551616
theorem W64.getD {l : List Nat} (h : W64 l) (i : Nat) : l.getD i 0 < 18446744073709551616 := by
  rw [List.getD_eq_getElem?_getD]
  cases q : l[i]? with
  | none => simp
  | some x => exact h x (List.mem_of_getElem? q)
theorem W64.set {l : List Nat} (h : W64 l) {i v : Nat} (hv : v < 18446744073709551616) : W64 (l.set i v) := fun x hx => by
  rcases List.mem_or_eq_of_mem_set hx with q | q
  · exact h x q
  · exact q ▸ hv
theorem tv_set : ∀ {l : List Nat} {i v : Nat}, i < l.length → tv (l.set i v) + l.getD i 0 * 18446744073709551616 ^ i = tv l + v * 18446744073709551616 ^ i
  | a :: l, 0, v, h => by simp [tv]; omega
  | a :: l, i + 1, v, h => by
    have := tv_set (l := l) (i := i) (v := v) (by simpa using h)
    simp only [List.set_cons_succ, tv, List.getD_cons_succ, Nat.pow_succ]
    generalize 18446744073709551616 ^ i = B at this ⊢
    rw [show l.getD i 0 * (B * 18446744073709551616) = 18446744073709551616 * (l.getD i 0 * B) by ac_rfl, show v * (B * 18446744073709551616) = 18446744073709551616 * (v * B) by ac_rfl]
    omega
theorem tv_lt : ∀ {l : List Nat}, W64 l → tv l < 18446744073709551616 ^ l.length
  | [], h => by simp [tv]
  | a :: l, h => by
    have h1 := tv_lt (l := l) (fun x hx => h x (List.mem_cons_of_mem _ hx))
    have h2 := h a (List.mem_cons_self ..)
    simp only [tv, List.length_cons, Nat.pow_succ]
    generalize 18446744073709551616 ^ l.length = B at h1 ⊢
    omega
theorem tv_append (a b : List Nat) : tv (a ++ b) = tv a + 18446744073709551616 ^ a.length * tv b := by
  induction a with
  | nil => simp [tv]
  | cons x a ih =>
    simp only [List.cons_append, tv, ih, List.length_cons, Nat.pow_succ]
    rw [Nat.mul_add, Nat.add_assoc]
    congr 2
    ac_rfl
theorem tv_take {l : List Nat} {i : Nat} (h : i < l.length) : tv (l.take (i + 1)) = tv (l.take i) + l.getD i 0 * 18446744073709551616 ^ i := by
  have : l.take (i + 1) = l.take i ++ [l.getD i 0] := by
    rw [List.take_add_one, List.getD_eq_getElem?_getD, List.getElem?_eq_getElem h]; rfl
  rw [this, tv_append, List.length_take, Nat.min_eq_left (by omega)]
  simp [tv, Nat.mul_comm]
theorem tv_zero (n : Nat) : tv (List.replicate n 0) = 0 := by
  induction n with
  | zero => rfl
  | succ n ih => simp [List.replicate_succ, tv, ih]

/-! ### Adding and taking a term -/
/-- The first k of a term's words, where they lie. -/
def trm (W : List Nat) (at_ : Nat) : Nat → Nat
  | 0 => 0
  | k + 1 => trm W at_ k + W.getD k 0 * 18446744073709551616 ^ (at_ + k)
theorem trm3 {W : List Nat} {at_ : Nat} (h : W.length = 3) : ∀ k, trm W at_ (3 + k) = tv W * 18446744073709551616 ^ at_
  | 0 => by
    match W, h with
    | [a, b, c], _ =>
      simp only [trm, tv, List.getD_cons_zero, List.getD_cons_succ, Nat.pow_add]
      generalize 18446744073709551616 ^ at_ = B
      simp only [Nat.pow_zero, Nat.pow_one, Nat.add_zero, Nat.mul_zero, Nat.mul_one, Nat.zero_add]
      rw [Nat.add_mul, Nat.mul_add, Nat.add_mul]
      have e1 : b * (B * 18446744073709551616) = 18446744073709551616 * b * B := by ac_rfl
      have e2 : c * (B * 18446744073709551616 ^ 2) = 18446744073709551616 * (18446744073709551616 * c) * B := by
        rw [show (18446744073709551616 : Nat) ^ 2 = 18446744073709551616 * 18446744073709551616 from rfl]; ac_rfl
      rw [e1, e2]; omega
  | k + 1 => by
    rw [show 3 + (k + 1) = (3 + k) + 1 by omega, trm, trm3 h k]
    have : W.getD (3 + k) 0 = 0 := by rw [List.getD_eq_getElem?_getD, List.getElem?_eq_none (by omega)]; rfl
    rw [this]; omega
/-- The state of adding: words C, carry c, i words done. -/
structure MvA (L W : List Nat) (at_ : Nat) (C : List Nat) (c i : Nat) : Prop where
  len : C.length = L.length
  w : W64 C
  lo : at_ ≤ i
  hi : i ≤ L.length
  c1 : c ≤ 1
  eq : tv C + c * 18446744073709551616 ^ i = tv L + trm W at_ (i - at_)
theorem MvA.zero {L W : List Nat} {at_ : Nat} (h : W64 L) (ha : at_ ≤ L.length) : MvA L W at_ L 0 at_ := ⟨rfl, h, Nat.le_refl _, ha, by omega, by rw [Nat.sub_self]; simp [trm]⟩
theorem MvA.step {L W C : List Nat} {at_ c i : Nat} (h : MvA L W at_ C c i) (hi : i < L.length) (hw : W.getD (i - at_) 0 < 18446744073709551616) :
    MvA L W at_ (C.set i ((C.getD i 0 + W.getD (i - at_) 0 + c) % 18446744073709551616)) ((C.getD i 0 + W.getD (i - at_) 0 + c) / 18446744073709551616) (i + 1) := by
  obtain ⟨h1, h2, h3, h4, h5, h6⟩ := h
  have hc := h2.getD i
  refine ⟨by simpa using h1, h2.set (Nat.mod_lt _ (by decide)), by omega, by omega, by omega, ?_⟩
  have hs := tv_set (l := C) (i := i) (v := (C.getD i 0 + W.getD (i - at_) 0 + c) % 18446744073709551616) (by omega)
  rw [show i + 1 - at_ = (i - at_) + 1 by omega, trm, show at_ + (i - at_) = i by omega, Nat.pow_succ]
  generalize C.getD i 0 = x at hs hc ⊢
  generalize W.getD (i - at_) 0 = y at hw hs ⊢
  have e : (x + y + c) / 18446744073709551616 * 18446744073709551616 + (x + y + c) % 18446744073709551616 = x + y + c := Nat.div_add_mod' _ _
  generalize (x + y + c) / 18446744073709551616 = q at e ⊢
  generalize (x + y + c) % 18446744073709551616 = r at e hs ⊢
  generalize trm W at_ (i - at_) = z at h6 ⊢
  generalize 18446744073709551616 ^ i = B at h6 hs ⊢
  have e2 : q * (B * 18446744073709551616) = q * 18446744073709551616 * B := by ac_rfl
  have e3 : (q * 18446744073709551616 + r) * B = (x + y + c) * B := by rw [e]
  rw [Nat.add_mul] at e3
  rw [Nat.add_mul, Nat.add_mul] at e3
  omega
/-- The state of taking. -/
structure MvS (L W : List Nat) (at_ : Nat) (C : List Nat) (c i : Nat) : Prop where
  len : C.length = L.length
  w : W64 C
  lo : at_ ≤ i
  hi : i ≤ L.length
  c1 : c ≤ 1
  eq : tv C + trm W at_ (i - at_) = tv L + c * 18446744073709551616 ^ i
theorem MvS.zero {L W : List Nat} {at_ : Nat} (h : W64 L) (ha : at_ ≤ L.length) : MvS L W at_ L 0 at_ := ⟨rfl, h, Nat.le_refl _, ha, by omega, by rw [Nat.sub_self]; simp [trm]⟩
theorem MvS.step {L W C : List Nat} {at_ c i : Nat} (h : MvS L W at_ C c i) (hi : i < L.length) (hw : W.getD (i - at_) 0 < 18446744073709551616) {d b : Nat} (hd : d < 18446744073709551616) (hb : b ≤ 1)
    (e : C.getD i 0 + b * 18446744073709551616 = d + W.getD (i - at_) 0 + c) : MvS L W at_ (C.set i d) b (i + 1) := by
  obtain ⟨h1, h2, h3, h4, h5, h6⟩ := h
  have hc := h2.getD i
  refine ⟨by simpa using h1, h2.set hd, by omega, by omega, hb, ?_⟩
  have hs := tv_set (l := C) (i := i) (v := d) (by omega)
  rw [show i + 1 - at_ = (i - at_) + 1 by omega, trm, show at_ + (i - at_) = i by omega, Nat.pow_succ]
  generalize C.getD i 0 = x at hs hc e ⊢
  generalize W.getD (i - at_) 0 = y at hw e ⊢
  generalize trm W at_ (i - at_) = z at h6 ⊢
  generalize 18446744073709551616 ^ i = B at h6 hs ⊢
  have e2 : b * (B * 18446744073709551616) = b * 18446744073709551616 * B := by ac_rfl
  have e3 : (x + b * 18446744073709551616) * B = (d + y + c) * B := by rw [e]
  rw [Nat.add_mul, Nat.add_mul, Nat.add_mul] at e3
  omega

/-- A value of 128 bits, shifted within three words. -/
def laidW (hi lo by_ : Nat) : List Nat := [lo * 2 ^ by_ % 18446744073709551616, (hi * 2 ^ by_ % 18446744073709551616) ||| (lo / 2 ^ (64 - by_)), hi / 2 ^ (64 - by_)]
theorem laid_or {hi lo k : Nat} (h : lo < 18446744073709551616) (hk : k < 64) : (hi * 2 ^ k % 18446744073709551616) ||| (lo / 2 ^ (64 - k)) = hi * 2 ^ k % 18446744073709551616 + lo / 2 ^ (64 - k) := by
  have e : (18446744073709551616 : Nat) = 2 ^ (64 - k) * 2 ^ k := by rw [← Nat.pow_add, show 64 - k + k = 64 by omega]
  have hp := Nat.two_pow_pos k
  have hq := Nat.two_pow_pos (64 - k)
  have h1 : hi * 2 ^ k % 18446744073709551616 = hi % 2 ^ (64 - k) * 2 ^ k := by rw [e, Nat.mul_mod_mul_right]
  have h2 : lo / 2 ^ (64 - k) < 2 ^ k := by
    rw [Nat.div_lt_iff_lt_mul hq, Nat.mul_comm, ← e]; exact h
  rw [h1, Nat.or_comm, or_of_mul h2, Nat.add_comm]
theorem laidW_val {hi lo k : Nat} (h : lo < 18446744073709551616) (hk : k < 64) : tv (laidW hi lo k) = (hi * 18446744073709551616 + lo) * 2 ^ k := by
  have e : (18446744073709551616 : Nat) = 2 ^ (64 - k) * 2 ^ k := by rw [← Nat.pow_add, show 64 - k + k = 64 by omega]
  simp only [laidW, tv, laid_or h hk]
  have h1 : hi * 2 ^ k % 18446744073709551616 + 18446744073709551616 * (hi / 2 ^ (64 - k)) = hi * 2 ^ k := by
    have h1 : hi * 2 ^ k % 18446744073709551616 = hi % 2 ^ (64 - k) * 2 ^ k := by rw [e, Nat.mul_mod_mul_right]
    have := Nat.mod_add_div hi (2 ^ (64 - k))
    rw [h1]
    calc _ = (hi % 2 ^ (64 - k) + 2 ^ (64 - k) * (hi / 2 ^ (64 - k))) * 2 ^ k := by rw [Nat.add_mul]; congr 1; rw [e]; ac_rfl
      _ = _ := by rw [this]
  have h2 : lo * 2 ^ k % 18446744073709551616 + 18446744073709551616 * (lo / 2 ^ (64 - k)) = lo * 2 ^ k := by
    have h1 : lo * 2 ^ k % 18446744073709551616 = lo % 2 ^ (64 - k) * 2 ^ k := by rw [e, Nat.mul_mod_mul_right]
    have := Nat.mod_add_div lo (2 ^ (64 - k))
    rw [h1]
    calc _ = (lo % 2 ^ (64 - k) + 2 ^ (64 - k) * (lo / 2 ^ (64 - k))) * 2 ^ k := by rw [Nat.add_mul]; congr 1; rw [e]; ac_rfl
      _ = _ := by rw [this]
  rw [Nat.add_mul]
  generalize hi / 2 ^ (64 - k) = p at h1 ⊢
  generalize lo / 2 ^ (64 - k) = q at h2 ⊢
  generalize lo * 2 ^ k % 18446744073709551616 = r at h2 ⊢
  generalize hi * 2 ^ k % 18446744073709551616 = t at h1 ⊢
  rw [show hi * 18446744073709551616 * 2 ^ k = 18446744073709551616 * (hi * 2 ^ k) by ac_rfl]
  generalize hi * 2 ^ k = a at h1 ⊢
  generalize lo * 2 ^ k = b at h2 ⊢
  omega
theorem laidW_w {hi lo k : Nat} (h : lo < 18446744073709551616) (h2 : hi < 18446744073709551616) (hk : k < 64) : W64 (laidW hi lo k) := by
  intro x hx
  simp only [laidW, List.mem_cons, List.not_mem_nil, or_false] at hx
  rcases hx with q | q | q
  · rw [q]; exact Nat.mod_lt _ (by decide)
  · rw [q]
    exact Nat.or_lt_two_pow (n := 64) (Nat.mod_lt _ (by decide)) (Nat.lt_of_le_of_lt (Nat.div_le_self _ _) h)
  · rw [q]; exact Nat.lt_of_le_of_lt (Nat.div_le_self _ _) h2

/-! ### Turning the sign -/
structure MinI (L C : List Nat) (c i : Nat) : Prop where
  len : C.length = L.length
  w : W64 C
  hi : i ≤ L.length
  c1 : c ≤ 1
  same : ∀ j, i ≤ j → C.getD j 0 = L.getD j 0
  eq : tv C + c * 18446744073709551616 ^ i + 2 * tv (L.take i) = tv L + 18446744073709551616 ^ i
theorem MinI.zero {L : List Nat} (h : W64 L) : MinI L L 1 0 := ⟨rfl, h, Nat.zero_le _, by omega, fun _ _ => rfl, by simp [tv]⟩
theorem min_lin {a r x y c : Nat} (e : a + r = y + 0 + c) (hy : y + x = 18446744073709551615) : a + r + x + 1 = 18446744073709551616 + c := by
  rw [e]
  omega
theorem MinI.step {L C : List Nat} {c i y : Nat} (h : MinI L C c i) (hi : i < L.length) (hy : y + C.getD i 0 = 18446744073709551615) :
    MinI L (C.set i ((y + 0 + c) % 18446744073709551616)) ((y + 0 + c) / 18446744073709551616) (i + 1) := by
  obtain ⟨h1, h2, h3, h4, h5, h6⟩ := h
  have hc := h2.getD i
  refine ⟨by simpa using h1, h2.set (Nat.mod_lt _ (by decide)), by omega, by omega, fun j hj => ?_, ?_⟩
  · rw [← h5 j (by omega)]; simp only [List.getD_eq_getElem?_getD, List.getElem?_set_ne (show i ≠ j by omega)]
  have hs := tv_set (l := C) (i := i) (v := (y + 0 + c) % 18446744073709551616) (by omega)
  rw [tv_take hi, ← h5 i (Nat.le_refl _), Nat.pow_succ]
  generalize C.getD i 0 = x at hs hc hy ⊢
  have e : (y + 0 + c) / 18446744073709551616 * 18446744073709551616 + (y + 0 + c) % 18446744073709551616 = y + 0 + c := Nat.div_add_mod' _ _
  generalize (y + 0 + c) / 18446744073709551616 = q at e ⊢
  generalize (y + 0 + c) % 18446744073709551616 = r at e hs ⊢
  generalize tv (L.take i) = z at h6 ⊢
  generalize 18446744073709551616 ^ i = B at h6 hs ⊢
  have e2 : q * (B * 18446744073709551616) = q * 18446744073709551616 * B := by ac_rfl
  have e4 : q * 18446744073709551616 + r + x + 1 = 18446744073709551616 + c := min_lin e hy
  have e3 : (q * 18446744073709551616 + r + x + 1) * B = (18446744073709551616 + c) * B := congrArg (fun t => t * B) e4
  have e5 : (q * 18446744073709551616 + r + x + 1) * B = q * 18446744073709551616 * B + r * B + x * B + B := by simp only [Nat.add_mul, Nat.one_mul]
  have e6 : (18446744073709551616 + c) * B = 18446744073709551616 * B + c * B := Nat.add_mul _ _ _
  omega
theorem MinI.done {L C : List Nat} {c : Nat} (h : MinI L C c L.length) (hL : W64 L) : tv C = (18446744073709551616 ^ L.length - tv L) % 18446744073709551616 ^ L.length := by
  obtain ⟨h1, h2, h3, h4, h5, h6⟩ := h
  rw [List.take_length] at h6
  have hl := tv_lt hL
  have hc := tv_lt h2
  rw [h1] at hc
  generalize 18446744073709551616 ^ L.length = B at h6 hl hc ⊢
  rcases (show c = 0 ∨ c = 1 by omega) with q | q
  · subst q
    rw [Nat.mod_eq_of_lt (by omega)]; omega
  · subst q
    have : tv L = 0 := by omega
    rw [this, Nat.sub_zero, Nat.mod_self]; omega
end Go.Proofs.YtphnpchmdpjabaaGreatDoor

/- Package super: New, laid, one. No condition. -/
namespace Go.Proofs.YtphnpchmdpjabaaGreatDoor
open Go Sx Wd
set_option exponentiation.threshold 5000

theorem splitP_fin {x : Nat} (h : (splitP x).cls = 1 ∨ (splitP x).cls = 2) : -1074 ≤ (splitP x).exp ∧ (splitP x).exp ≤ 971 ∧ 0 < (splitP x).frac ∧ (splitP x).frac < 9007199254740992 := by
  revert h
  unfold splitP
  split
  · intro h; simp at h
  split
  · intro h; simp at h
  split
  · intro h; dsimp only; omega
  split
  · intro h; dsimp only; omega
  · intro h; simp at h
theorem splitP_cls (x : Nat) : (splitP x).cls ≤ 4 := by
  unfold splitP
  split
  · simp
  split
  · simp
  split
  · simp
  split <;> simp
/-- A term's cells: whether it is below nought, its place, its words. -/
def termV (neg : Bool) (at_ : Nat) (W : List Nat) : List Value := .bool neg :: .int .i64 (at_ : Int) :: W.map u64v
/-- What is added or taken. -/
structure TH where
  cls : Nat
  neg : Bool
  tn : Bool
  at_ : Nat
  W : List Nat
def thingV (t : TH) : List Value := .int .i64 (t.cls : Int) :: .bool t.neg :: termV t.tn t.at_ t.W
def oneP (x : Nat) : TH :=
  if (splitP x).cls = 1 ∨ (splitP x).cls = 2 then ⟨(splitP x).cls, (splitP x).neg, (splitP x).neg, ((splitP x).exp + 2148).toNat / 64, laidW 0 (splitP x).frac (((splitP x).exp + 2148).toNat % 64)⟩
  else ⟨(splitP x).cls, (splitP x).neg, false, 0, [0, 0, 0]⟩

set_option maxRecDepth 8000 in
theorem laid_spec (neg : Bool) (hi lo e : Nat) (exp : Int) (w : World) (he : exp = (e : Int) - 2148) (he2 : e < 9000) (hhi : hi < 18446744073709551616) (hlo : lo < 18446744073709551616) : Ret Tryz.prog 121 [.bool neg, .int .u64 (hi : Int), .int .u64 (lo : Int), .int .i64 exp] w fun u w' => u = .agg (termV neg (e / 64) (laidW hi lo (e % 64))).toArray ∧ Chg [] w w' := by
 have hA : hi * 2 ^ (e % 64) % 18446744073709551616 < 2 ^ IntKind.u64.bits := Nat.mod_lt _ (by decide)
 have hB : lo / 2 ^ (64 - e % 64) < 2 ^ IntKind.u64.bits := Nat.lt_of_le_of_lt (Nat.div_le_self _ _) hlo
 have hch : Chg [] w w := Chg.refl _ _
 refine Ret.enter Tryz.func121 rfl rfl ?_
 simp only [args0, Nat.zero_add, Nat.reduceAdd]
 refine Sr fun _ kh1 => ?_
 refine WL.allocB (l := [.bool false, .int .i64 0, .int .u64 0, .int .u64 0, .int .u64 0]) rfl rfl fun b8 wm8 hb8 hcm8 hge8 => ?_
 have hgehch8 := Nat.le_trans hch.size hge8
 have hch := hch.trans (Chg.any hcm8)
 refine zz (kh1 (Sr fun _ kh3 => zm rfl ?_))
 refine WL.ev (Ev.subIn rfl rfl (by omega)) rfl ?_
 rw [show exp - -2148 = (e : Int) by omega]
 refine WL.ev (Ev.convIn rfl rfl (in_u64 (by omega))) rfl ?_
 refine WL.ev (Ev.remU (b := 64) rfl rfl (by omega)) rfl ?_
 refine za rfl (zz (kh3 (Sr fun _ kh5 => zm rfl (zm rfl ?_))))
 refine WL.ev (Ev.subIn rfl rfl (by omega)) rfl ?_
 rw [show exp - -2148 = (e : Int) by omega]
 first | refine WL.ev (Ev.quoIn rfl rfl (by omega) (by simp only [IntKind.max, IntKind.signed, IntKind.bits]; omega) (by omega)) rfl ?_ | refine WL.ev (Ev.quo rfl rfl (by omega)) rfl ?_
 refine zm rfl (zm rfl ?_)
 refine WL.ev (Ev.shlU64 rfl rfl) rfl ?_
 refine zm rfl (zm rfl ?_)
 refine WL.ev (Ev.shlU64 rfl rfl) rfl ?_
 refine zm rfl (zm rfl ?_)
 first | refine WL.ev (Ev.sub64In (a := 64) rfl rfl (by omega) (by omega)) rfl ?_ | refine WL.ev (Ev.sub64 (a := 64) rfl rfl (by omega)) rfl ?_
 refine WL.ev (Ev.shrU rfl rfl (by simp only [IntKind.bits]; omega)) rfl ?_
 refine WL.ev (Ev.orU rfl rfl rfl hA hB) rfl ?_
 refine zm rfl (zm rfl ?_)
 first | refine WL.ev (Ev.sub64In (a := 64) rfl rfl (by omega) (by omega)) rfl ?_ | refine WL.ev (Ev.sub64 (a := 64) rfl rfl (by omega)) rfl ?_
 refine WL.ev (Ev.shrU rfl rfl (by simp only [IntKind.bits]; omega)) rfl ?_
 refine WL.ev (Ev.buildA (vs := _) (cs := [_, _, _]) rfl rfl) rfl ?_
 refine WL.ev (Ev.build (vs := _) (cs := [_, _, _, _, _]) rfl rfl) rfl ?_
 refine WL.storeB rfl rfl rfl ao hb8 (by simp) rfl fun ws1 hb8_ hcs1 => ?_
 try simp only [Sx.splice, qt] at hb8_
 have hch := hch.s1 hcs1
 have hb8 := hb8_
 refine zz (kh5 ?_)
 refine CW.ret ?_
 refine bodyA.retR1 rfl (RVal.cell rfl (hb8.varA rfl rfl)) ?_
 exact ⟨rfl, hch⟩

set_option maxRecDepth 8000 in
theorem New_spec (w : World) : Ret Tryz.prog 26 [] w fun u w' => ∃ b, u = .pointer (some ⟨b, 0, none⟩) ∧ BK w' b 107 ((List.replicate 67 0).map u64v ++ SP.zero.cells) ∧ w.heap.size ≤ b ∧ Chg [] w w' := by
 have hch : Chg [] w w := Chg.refl _ _
 refine Ret.enter Tryz.func26 rfl rfl ?_
 simp only [args0, Nat.zero_add, Nat.reduceAdd]
 refine Sr fun _ kh1 => za rfl (zz (kh1 (Sr fun _ kh3 => ?_)))
 refine WL.ev (Ev.build (vs := _) (cs := [_, _, _, _, _, _, _, _, _, _, _, _, _, _, _, _, _, _, _, _, _, _, _, _, _, _, _, _, _, _, _, _, _, _, _, _, _, _, _, _, _, _, _, _, _, _, _, _, _, _, _, _, _, _, _, _, _, _, _, _, _, _, _, _, _, _, _, _, _, _, _, _, _]) rfl rfl) rfl ?_
 refine WL.boxB rfl rfl rfl fun b2 wm2 hb2 hcm2 hge2 => ?_
 have hgehch2 := Nat.le_trans hch.size hge2
 have hch := hch.trans (Chg.any hcm2)
 refine za rfl (zz (kh3 ?_))
 refine CW.ret ?_
 refine bodyA.ret1 rfl rfl ?_
 exact ⟨_, rfl, hb2, hge2, hch⟩

set_option maxRecDepth 8000 in
theorem one_spec (x : Nat) (w : World) (hx : x < 18446744073709551616) : Ret Tryz.prog 75 [.float .f64 x] w fun u w' => u = .agg (thingV (oneP x)).toArray ∧ Chg [] w w' := by
 have hch : Chg [] w w := Chg.refl _ _
 have hsf := @splitP_fin x
 refine Ret.enter Tryz.func75 rfl rfl ?_
 simp only [args0, Nat.zero_add, Nat.reduceAdd]
 refine Sr fun _ kh1 => ?_
 refine WL.allocB (l := [.int .i64 0, .bool false, .bool false, .int .i64 0, .int .u64 0, .int .u64 0, .int .u64 0]) rfl rfl fun b2 wm2 hb2 hcm2 hge2 => ?_
 have hgehch2 := Nat.le_trans hch.size hge2
 have hch := hch.trans (Chg.any hcm2)
 refine zz (kh1 (Sr fun _ kh3 => zm rfl ?_))
 refine WL.call hasF44 rfl rfl (Split_spec x _ hx) fun v w1 h' => ?_
 obtain ⟨rfl, hC6⟩ := h'
 have hch := hch.trans (Chg.any hC6)
 have hb2 := hb2.keep0 hC6
 refine WL.allocB (l := [.bool false, .int .i64 0, .int .i64 0, .int .u64 0]) rfl rfl fun b3 wm3 hb3 hcm3 hge3 => ?_
 have hgehch3 := Nat.le_trans hch.size hge3
 have hch := hch.trans (Chg.any hcm3)
 have hneb23 : b2 ≠ b3 := by have := hb2.lt; omega
 have hb2 := hb2.keep0 hcm3
 refine WL.storeB rfl rfl rfl ao hb3 (by simp) rfl fun ws2 hb3_ hcs2 => ?_
 try simp only [Sx.splice, qt] at hb3_
 have hch := hch.s1 hcs2
 have hb2 := hb2.keep hcs2 (by simp; omega)
 have hb3 := hb3_
 refine zz (kh3 (Sr fun _ kh5 => zf rfl (zl hb3 rfl rfl (zf rfl (zl hb3 rfl rfl ?_)))))
 refine WL.ev (Ev.build (vs := _) (cs := [_, _, _, _, _, _, _]) rfl rfl) rfl ?_
 refine WL.allocB (l := [.int .i64 0, .bool false, .bool false, .int .i64 0, .int .u64 0, .int .u64 0, .int .u64 0]) rfl rfl fun b4 wm4 hb4 hcm4 hge4 => ?_
 have hgehch4 := Nat.le_trans hch.size hge4
 have hch := hch.trans (Chg.any hcm4)
 have hneb24 : b2 ≠ b4 := by have := hb2.lt; omega
 have hb2 := hb2.keep0 hcm4
 have hneb34 : b3 ≠ b4 := by have := hb3.lt; omega
 have hb3 := hb3.keep0 hcm4
 refine WL.storeB rfl rfl rfl ao hb4 (by simp) rfl fun ws3 hb4_ hcs3 => ?_
 try simp only [Sx.splice, qt] at hb4_
 have hch := hch.s1 hcs3
 have hb2 := hb2.keep hcs3 (by simp; omega)
 have hb3 := hb3.keep hcs3 (by simp; omega)
 have hb4 := hb4_
 refine zz (kh5 (zc fun _ kh7 => ?_))
 refine CW.seqM 19 (decide ((splitP x).cls = 1 ∨ (splitP x).cls = 2)) ?_ ?_
 ·
  refine CW.region fun kR8 kr8 => ?_
  refine zf rfl (zl hb3 rfl rfl (zq rfl rfl (zm rfl ?_)))
  refine WL.boolCase (fun hg1 => ?_) (fun hg1 => ?_)
  ·
   try simp only [qs] at hg1
   refine zv rfl (zv rfl (zv rfl (zt rfl rfl ?_)))
   refine WL.nil (kr8 _ _ _ ?_)
   refine ⟨rfl, rfl, Subs.consB rfl ?_ ?_⟩
   ·
    first | (simp; omega) | (refine decide_eq_decide.2 ?_; omega)
   ·
    exact SMg
  ·
   try simp only [qs] at hg1
   refine zw rfl (zf rfl (zw rfl (zl hb3 rfl rfl (zw rfl (zq rfl rfl (ze rfl rfl ?_))))))
   refine WL.nil (kr8 _ _ _ ?_)
   refine ⟨rfl, rfl, Subs.consB rfl ?_ ?_⟩
   ·
    first | (simp; omega) | (refine decide_eq_decide.2 ?_; omega)
   ·
    exact SMg
 ·
  refine CW.cond rfl (fun hc2 => ?_) (fun hc2 => ?_)
  ·
   try simp only [qs] at hc2
   have hcl : (splitP x).cls = 1 ∨ (splitP x).cls = 2 := hc2
   have hsf2 := hsf hcl
   refine CW.region fun kR9 kr9 => ?_
   refine zf rfl (zl hb3 rfl rfl (zf rfl (zl hb3 rfl rfl (zf rfl (zl hb3 rfl rfl ?_)))))
   refine WL.call hasF121 rfl rfl (laid_spec (splitP x).neg 0 (splitP x).frac ((splitP x).exp + 2148).toNat (splitP x).exp _ (by omega) (by omega) (by decide) (by omega)) fun v w2 h' => ?_
   obtain ⟨rfl, hC26⟩ := h'
   show WL _ _ _ _ _ _ ((26, Value.agg [_, _, _, _, _].toArray) :: _) _
   have hch := hch.trans (Chg.any hC26)
   have hb2 := hb2.keep0 hC26
   have hb3 := hb3.keep0 hC26
   have hb4 := hb4.keep0 hC26
   refine zf rfl ?_
   refine WL.storeB rfl rfl rfl ao hb4 (by simp) rfl fun ws4 hb4_ hcs4 => ?_
   try simp only [Sx.splice, qt] at hb4_
   have hch := hch.s1 hcs4
   have hb2 := hb2.keep hcs4 (by simp; omega)
   have hb3 := hb3.keep hcs4 (by simp; omega)
   have hb4 := hb4_
   refine WL.nil (kr9 _ _ _ (kh7 ?_))
   refine Sr fun _ kh10 => zg hb4 rfl ?_
   refine WL.storeB rfl rfl rfl ao hb2 (by simp) rfl fun ws5 hb2_ hcs5 => ?_
   try simp only [Sx.splice, qt] at hb2_
   have hch := hch.s1 hcs5
   have hb3 := hb3.keep hcs5 (by simp; omega)
   have hb4 := hb4.keep hcs5 (by simp; omega)
   have hb2 := hb2_
   refine zz (kh10 ?_)
   refine CW.ret ?_
   refine bodyA.retR1 rfl (RVal.cell rfl (hb2.varA rfl rfl)) ?_
   refine ⟨?_, hch⟩
   unfold oneP; rw [if_pos hcl]; rfl
  ·
   try simp only [qs] at hc2
   have hcl : ¬ ((splitP x).cls = 1 ∨ (splitP x).cls = 2) := fun q => by have q2 := hc2; omega
   refine CW.skip ?_
   refine kh7 (Sr fun _ kh12 => zg hb4 rfl ?_)
   refine WL.storeB rfl rfl rfl ao hb2 (by simp) rfl fun ws6 hb2_ hcs6 => ?_
   try simp only [Sx.splice, qt] at hb2_
   have hch := hch.s1 hcs6
   have hb3 := hb3.keep hcs6 (by simp; omega)
   have hb4 := hb4.keep hcs6 (by simp; omega)
   have hb2 := hb2_
   refine zz (kh12 ?_)
   refine CW.ret ?_
   refine bodyA.retR1 rfl (RVal.cell rfl (hb2.varA rfl rfl)) ?_
   refine ⟨?_, hch⟩
   unfold oneP; rw [if_neg hcl]; rfl

end Go.Proofs.YtphnpchmdpjabaaGreatDoor

/- Package super: neg, minus, move. No condition. -/
namespace Go.Proofs.YtphnpchmdpjabaaGreatDoor
open Go Sx Wd
set_option exponentiation.threshold 5000

set_option maxRecDepth 8000 in
theorem neg_spec {T : TypeId} {R : List Value} (b : Nat) (L : List Nat) (w : World) (hB : TB w b T L R) (hL : L.length = 67) (hW : W64 L) : Ret Tryz.prog 77 [.pointer (some ⟨b, 0, none⟩)] w fun u w' => u = .bool (decide (9223372036854775808 ≤ L.getD 66 0)) ∧ w = w' := by
 have h66 := hW.getD 66
 refine Ret.enter Tryz.func77 rfl rfl ?_
 simp only [args0, Nat.zero_add, Nat.reduceAdd]
 refine Sr fun _ kh1 => za rfl (zz (kh1 (Sr fun _ kh3 => zm rfl ?_)))
 refine WL.ev (Ev.nilPtr rfl) rfl ?_
 refine WL.ev (Ev.ixT (66) rfl rfl (by omega) (by omega)) rfl ?_
 refine WL.ev (Ev.load rfl rfl (hB.t64 (by first | omega | (simp; omega)))) rfl ?_
 refine WL.ev (Ev.shrU (b := 63) rfl rfl (by simp only [IntKind.bits]; omega)) rfl ?_
 rw [show L.getD 66 0 / 2 ^ 63 = L.getD 66 0 / 9223372036854775808 by omega]
 refine zq rfl rfl (za rfl (zz (kh3 ?_)))
 refine CW.ret ?_
 refine bodyA.ret1 rfl rfl ?_
 refine ⟨congrArg Value.bool (decide_eq_decide.2 (by omega)), rfl⟩

structure KMin (L : List Nat) (R : List Value) (T : TypeId) (b : Nat) (w0 : World) (g : Nat × Nat × List Nat) (w : World) : Prop where
  m : MinI L g.2.2 g.2.1 g.1
  hB : TB w b T g.2.2 R
  ch : Chg [b] w0 w

set_option maxRecDepth 8000 in
theorem minus_spec {T : TypeId} {R : List Value} (b : Nat) (L : List Nat) (w : World) (hB : TB w b T L R) (hL : L.length = 67) (hW : W64 L) : Ret Tryz.prog 122 [.pointer (some ⟨b, 0, none⟩)] w fun u w' => ∃ C, TB w' b T C R ∧ C.length = 67 ∧ W64 C ∧ tv C = (18446744073709551616 ^ 67 - tv L) % 18446744073709551616 ^ 67 ∧ Chg [b] w w' := by
 have hch : Chg [b] w w := Chg.refl _ _
 refine Ret.enter Tryz.func122 rfl rfl ?_
 simp only [args0, Nat.zero_add, Nat.reduceAdd]
 refine Sr fun _ kh1 => za rfl (zz (kh1 (Sr fun _ kh3 => zm rfl (zz (kh3 ?_)))))
 refine CW.block ?_
 refine CW.loop (S := fun g : Nat × Nat × List Nat => [(0, .pointer (some ⟨b, 0, none⟩)), (2, .int .u64 (g.2.1 : Int)), (4, .int .i64 (g.1 : Int))]) (Inv := KMin L R T b w) (mu := fun g => 67 - g.1) ((0, 1, L)) ?_ ?_ ?_
 ·
  exact ⟨MinI.zero hW, hB, hch⟩
 ·
  exact SLp
 ·
  rintro ⟨i, c, C⟩ wr ⟨hM, hB, hch⟩
  dsimp only at hM hB hch
  dsimp only
  have hi67 := hM.hi
  have hCl := hM.len
  have hcc := hM.c1
  have hCi := hM.w.getD i
  refine Sr fun _ kh5 => ?_
  refine WL.ev (Ev.lss rfl rfl) rfl ?_
  refine zz (kh5 (zc fun _ kh7 => ?_))
  refine CW.cond rfl (fun hc1 => ?_) (fun hc1 => ?_)
  ·
   try simp only [qs] at hc1
   refine CW.skip ?_
   refine kh7 (zc fun _ kh8 => ?_)
   refine CW.block ?_
   refine Sr fun _ kh9 => zm rfl (za rfl (zz (kh9 ?_)))
   refine CW.regionKC 15 17 rfl hmix fun kR11 kr11 hS hdr => ?_
   have hch := hch.trans (Chg.any hdr)
   have hB := hB.keep0 hdr
   have hch_r := hch
   have hB_r := hB
   refine wk 0 rfl hS (fun _ _ => Ev.move rfl) (wk 1 rfl hS (fun _ _ => Ev.move rfl) (wk 2 rfl hS (fun _ _ => Ev.move rfl) (wk 3 rfl hS (fun _ _ => Ev.move rfl) (wk 4 rfl hS (fun _ _ => Ev.nilPtr rfl) (wk 5 rfl hS (fun _ _ => Ev.ixT (i) rfl rfl (by omega) (by omega)) (wk 6 rfl hS (fun _ hw' => Ev.load rfl rfl ((hB_r.keep0 hw').t64 (by first | omega | (simp; omega)))) (wk 7 rfl hS (fun _ _ => Ev.complU rfl rfl (by simp only [IntKind.bits]; omega)) (wk 8 rfl hS (fun _ _ => Ev.move rfl) (wk 9 rfl hS (fun _ _ => Ev.ext rfl (ext162 (18446744073709551615 - C.getD i 0) 0 c hcc _)) (wk 10 rfl hS (fun _ _ => Ev.move rfl) (wk 11 rfl hS (fun _ _ => Ev.extract rfl rfl) ?_)))))))))))
   refine WK.takeT 12 rfl (by kernel_rfl) (by kernel_rfl) (by kernel_rfl) (by kernel_rfl) (fun _ => hS) (fun w' => Ev.extract rfl rfl) rfl ?_
   refine WK.takeT 13 rfl (by kernel_rfl) (by kernel_rfl) (by kernel_rfl) (by kernel_rfl) (fun _ => hS) (fun w' => Ev.nilPtr rfl) rfl ?_
   refine wk 14 rfl hS (fun _ _ => Ev.ixT (i) rfl rfl (by omega) (by omega)) ?_
   refine WK.storeT 15 rfl (by kernel_rfl) (by kernel_rfl) rfl rfl hB (by first | omega | (simp; omega)) fun ws7 hB_ hcs7 => ?_
   have hch := hch.s1 hcs7
   have hB := hB_
   refine WK.after 16 rfl (by kernel_rfl) (by kernel_rfl) (Ev.assign rfl) rfl ?_
   refine WK.done (by kernel_rfl) (kr11 _ _ _ ?_)
   refine kh8 ?_
   refine CW.region fun kR12 kr12 => ?_
   first | refine WL.ev (Ev.addIn rfl rfl (by omega)) rfl ?_ | refine WL.ev (Ev.add rfl rfl) rfl ?_
   refine zm rfl ?_
   refine WL.nil (kr12 _ _ _ ?_)
   refine ⟨rfl, (i + 1, ((18446744073709551615 - C.getD i 0) + 0 + c) / 18446744073709551616, C.set i (((18446744073709551615 - C.getD i 0) + 0 + c) % 18446744073709551616)), ?_, ?_, ?_⟩
   ·
    exact SLp
   ·
    exact ⟨hM.step (by omega) (by omega), hB, hch⟩
   ·
    show 67 - (i + 1) < 67 - i; omega
  ·
   try simp only [qs] at hc1
   have hiX : i = L.length := by omega
   subst hiX
   have hfin := hM.done hW
   rw [hL] at hfin
   refine CW.exit ?_
   refine bodyA.norm0 rfl ?_
   exact ⟨C, hB, by omega, hM.w, hfin, hch⟩

end Go.Proofs.YtphnpchmdpjabaaGreatDoor

/- Package super: move. No condition. -/
namespace Go.Proofs.YtphnpchmdpjabaaGreatDoor
open Go Sx Wd
set_option exponentiation.threshold 5000

theorem term_at {n : Bool} {a_ w0 w1 w2 : Nat} : ∀ {j : Nat}, j < 3 → (termV n a_ [w0, w1, w2])[2 + j]? = some (.int .u64 (([w0, w1, w2].getD j 0 : Nat) : Int))
  | 0, _ => rfl
  | 1, _ => rfl
  | 2, _ => rfl
/-- What adding (sub false) or taking a term has come to. -/
def MvR (sub : Bool) (L W : List Nat) (a_ : Nat) (C : List Nat) : Prop :=
  (sub = false → ∃ c, c ≤ 1 ∧ tv C + c * 18446744073709551616 ^ 67 = tv L + tv W * 18446744073709551616 ^ a_) ∧ (sub = true → ∃ c, c ≤ 1 ∧ tv C + tv W * 18446744073709551616 ^ a_ = tv L + c * 18446744073709551616 ^ 67)
structure MvI (sub : Bool) (L W : List Nat) (a_ : Nat) (C : List Nat) (c i : Nat) : Prop where
  a : sub = false → MvA L W a_ C c i
  s : sub = true → MvS L W a_ C c i
theorem MvI.all {sub : Bool} {L W C : List Nat} {a_ c i : Nat} (h : MvI sub L W a_ C c i) : C.length = L.length ∧ W64 C ∧ a_ ≤ i ∧ i ≤ L.length ∧ c ≤ 1 := by
  cases sub
  · have := h.a rfl; exact ⟨this.len, this.w, this.lo, this.hi, this.c1⟩
  · have := h.s rfl; exact ⟨this.len, this.w, this.lo, this.hi, this.c1⟩
theorem MvI.done {sub : Bool} {L W C : List Nat} {a_ c i : Nat} (h : MvI sub L W a_ C c i) (hW : W.length = 3) (hL : L.length = 67) (ha : a_ ≤ 64) (hx : ¬ (i < 67 ∧ (i < a_ + 3 ∨ 0 < c))) : MvR sub L W a_ C := by
  obtain ⟨h1, h2, h3, h4, h5⟩ := h.all
  have e1 : i - a_ = 3 + (i - a_ - 3) := by omega
  have e2 : c * 18446744073709551616 ^ i = c * 18446744073709551616 ^ 67 := by
    by_cases q : i = 67
    · rw [q]
    · have : c = 0 := by omega
      rw [this, Nat.zero_mul, Nat.zero_mul]
  refine ⟨fun q => ⟨c, h5, ?_⟩, fun q => ⟨c, h5, ?_⟩⟩
  · have := (h.a q).eq
    rw [e1, trm3 hW, e2] at this; exact this
  · have := (h.s q).eq
    rw [e1, trm3 hW, e2] at this; exact this
theorem sub_step {x y c : Nat} (hx : x < 18446744073709551616) (hy : y < 18446744073709551616) (hc : c ≤ 1) : x + (if x < y + c then 1 else 0) * 18446744073709551616 = (x + 18446744073709551616 - y - c) % 18446744073709551616 + y + c := by
  split <;> omega
structure KMv (sub : Bool) (L W : List Nat) (a_ : Nat) (tn : Bool) (R : List Value) (T : TypeId) (b b4 : Nat) (w0 : World) (g : Nat × Nat × List Nat) (w : World) : Prop where
  m : MvI sub L W a_ g.2.2 g.2.1 g.1
  hB : TB w b T g.2.2 R
  h4 : BK w b4 111 (termV tn a_ W)
  ch : Chg [b] w0 w

set_option maxRecDepth 8000 in
theorem move_spec {T : TypeId} {R : List Value} (b : Nat) (L W : List Nat) (a_ : Nat) (tn less : Bool) (w : World) (hB : TB w b T L R) (hL : L.length = 67) (hW : W64 L) (hW3 : W.length = 3) (hWW : W64 W) (ha : a_ ≤ 64) : Ret Tryz.prog 160 [.pointer (some ⟨b, 0, none⟩), .agg (termV tn a_ W).toArray, .bool less] w fun u w' => ∃ C, TB w' b T C R ∧ C.length = 67 ∧ W64 C ∧ MvR (tn != less) L W a_ C ∧ Chg [b] w w' := by
 obtain ⟨w0, w1, w2, rfl⟩ : ∃ w0 w1 w2, W = [w0, w1, w2] := by match W, hW3 with | [x, y, z], _ => exact ⟨_, _, _, rfl⟩
 have hch : Chg [b] w w := Chg.refl _ _
 refine Ret.enter Tryz.func160 rfl rfl ?_
 simp only [args0, Nat.zero_add, Nat.reduceAdd]
 refine Sr fun _ kh1 => ?_
 refine WL.boxB rfl rfl rfl fun b4 wm4 hb4 hcm4 hge4 => ?_
 have hgehch4 := Nat.le_trans hch.size hge4
 have hch := hch.trans (Chg.any hcm4)
 have hneb4 : b ≠ b4 := by have := hB.lt; omega
 have hB := hB.keep0 hcm4
 refine zz (kh1 (Sr fun _ kh3 => za rfl (zz (kh3 (Sr fun _ kh5 => zf rfl (zl hb4 rfl rfl (za rfl (zz (kh5 ?_)))))))))
 refine CW.block ?_
 refine CW.loop (S := fun g : Nat × Nat × List Nat => [(0, .pointer (some ⟨b, 0, none⟩)), (2, .bool less), (4, .pointer (some ⟨b4, 0, none⟩)), (6, .int .u64 (g.2.1 : Int)), (7, .int .i64 (g.1 : Int))]) (Inv := KMv (tn != less) L [w0, w1, w2] a_ tn R T b b4 w) (mu := fun g => 67 - g.1) ((a_, 0, L)) ?_ ?_ ?_
 ·
  exact ⟨⟨fun _ => MvA.zero hW (by omega), fun _ => MvS.zero hW (by omega)⟩, hB, hb4, hch⟩
 ·
  exact SLp
 ·
  rintro ⟨i, c, C⟩ wr ⟨hM, hB, hb4, hch⟩
  dsimp only at hM hB hb4 hch
  dsimp only
  obtain ⟨hCl, hCw, hia, hi67, hcc⟩ := hM.all
  have hCi := hCw.getD i
  have hwv := hWW.getD (i - a_)
  unfold termV at hb4
  refine zc fun _ kh7 => ?_
  refine CW.seqM 23 (decide (i < 67 ∧ (i < a_ + 3 ∨ 0 < c))) ?_ ?_
  ·
   refine CW.region fun kR8 kr8 => ?_
   refine zm rfl ?_
   refine WL.ev (Ev.lss rfl rfl) rfl ?_
   refine zm rfl ?_
   refine WL.boolCase (fun hg1 => ?_) (fun hg1 => ?_)
   ·
    try simp only [qs] at hg1
    refine zw rfl (zm rfl (zw rfl (zf rfl (zw rfl (zl hb4 rfl rfl (zw rfl ?_))))))
    first | refine WL.ev (Ev.addIn rfl rfl (by omega)) rfl ?_ | refine WL.ev (Ev.add rfl rfl) rfl ?_
    refine zw rfl ?_
    refine WL.ev (Ev.lss rfl rfl) rfl ?_
    refine zw rfl (zm rfl ?_)
    refine WL.boolCase (fun hg2 => ?_) (fun hg2 => ?_)
    ·
     try simp only [qs] at hg2
     refine zv rfl (zv rfl (zw rfl (zt rfl rfl (zt rfl rfl ?_))))
     refine WL.nil (kr8 _ _ _ ?_)
     refine ⟨rfl, rfl, Subs.consB rfl ?_ ?_⟩
     ·
      first | (simp; omega) | (refine decide_eq_decide.2 ?_; omega)
     ·
      exact SMg
    ·
     try simp only [qs] at hg2
     refine zw rfl (zm rfl (zw rfl ?_))
     refine WL.ev (Ev.gtr rfl rfl) rfl ?_
     refine zw rfl (ze rfl rfl (zt rfl rfl ?_))
     refine WL.nil (kr8 _ _ _ ?_)
     refine ⟨rfl, rfl, Subs.consB rfl ?_ ?_⟩
     ·
      first | (simp; omega) | (refine decide_eq_decide.2 ?_; omega)
     ·
      exact SMg
   ·
    try simp only [qs] at hg1
    refine zv rfl (zv rfl (zv rfl (zv rfl (zv rfl (zv rfl (zu rfl (zu rfl (zv rfl (ze rfl rfl ?_)))))))))
    refine WL.nil (kr8 _ _ _ ?_)
    refine ⟨rfl, rfl, Subs.consB rfl ?_ ?_⟩
    ·
     first | (simp; omega) | (refine decide_eq_decide.2 ?_; omega)
    ·
     exact SMg
  ·
   refine CW.cond rfl (fun hc3 => ?_) (fun hc3 => ?_)
   ·
    try simp only [qs] at hc3
    have hgo := hc3
    refine CW.skip ?_
    refine kh7 (zc fun _ kh9 => ?_)
    refine CW.block ?_
    refine Sr fun _ kh10 => za rfl (zz (kh10 (zc fun _ kh12 => Sr fun _ kh13 => zm rfl (zf rfl (zl hb4 rfl rfl ?_)))))
    first | refine WL.ev (Ev.addIn rfl rfl (by omega)) rfl ?_ | refine WL.ev (Ev.add rfl rfl) rfl ?_
    refine WL.ev (Ev.lss rfl rfl) rfl ?_
    refine zz (kh13 ?_)
    refine CW.cond rfl (fun hc4 => ?_) (fun hc4 => ?_)
    ·
     try simp only [qs] at hc4
     refine CW.region fun kR15 kr15 => ?_
     refine zm rfl (zf rfl (zl hb4 rfl rfl ?_))
     first | refine WL.ev (Ev.subIn rfl rfl (by omega)) rfl ?_ | refine WL.ev (Ev.sub rfl rfl) rfl ?_
     refine zf rfl ?_
     refine WL.ev (Ev.indexAddrArr rfl rfl (by omega) (by omega)) rfl ?_
     rw [show 2 + ((i : Int) - (a_ : Int)).toNat * 1 = 2 + (i - a_) by omega]
     refine WL.ev (Ev.load rfl rfl (hb4.at_ (term_at (n := tn) (by omega)))) rfl ?_
     refine za rfl ?_
     refine WL.nil (kr15 _ _ _ (kh12 ?_))
     refine Sr fun _ kh16 => zf rfl (zl hb4 rfl rfl (zm rfl ?_))
     refine WL.ev (Ev.neq_bool rfl rfl) rfl ?_
     refine zz (kh16 ?_)
     refine CW.cond rfl (fun hc5 => ?_) (fun hc5 => ?_)
     ·
      try simp only [qs] at hc5
      have hneq := hc5
      refine CW.regionKC 15 17 rfl hmix fun kR18 kr18 hS hdr => ?_
      have hch := hch.trans (Chg.any hdr)
      have hB := hB.keep0 hdr
      have hb4 := hb4.keep0 hdr
      have hch_r := hch
      have hB_r := hB
      have hb4_r := hb4
      refine wk 0 rfl hS (fun _ _ => Ev.move rfl) (wk 1 rfl hS (fun _ _ => Ev.move rfl) (wk 2 rfl hS (fun _ _ => Ev.move rfl) (wk 3 rfl hS (fun _ _ => Ev.move rfl) (wk 4 rfl hS (fun _ _ => Ev.nilPtr rfl) (wk 5 rfl hS (fun _ _ => Ev.ixT (i) rfl rfl (by omega) (by omega)) (wk 6 rfl hS (fun _ hw' => Ev.load rfl rfl ((hB_r.keep0 hw').t64 (by first | omega | (simp; omega)))) (wk 7 rfl hS (fun _ _ => Ev.move rfl) (wk 8 rfl hS (fun _ _ => Ev.move rfl) (wk 9 rfl hS (fun _ _ => Ev.ext rfl (ext193 (C.getD i 0) ([w0, w1, w2].getD (i - a_) 0) c hcc _)) (wk 10 rfl hS (fun _ _ => Ev.move rfl) (wk 11 rfl hS (fun _ _ => Ev.extract rfl rfl) ?_)))))))))))
      refine WK.takeT 12 rfl (by kernel_rfl) (by kernel_rfl) (by kernel_rfl) (by kernel_rfl) (fun _ => hS) (fun w' => Ev.extract rfl rfl) rfl ?_
      refine WK.takeT 13 rfl (by kernel_rfl) (by kernel_rfl) (by kernel_rfl) (by kernel_rfl) (fun _ => hS) (fun w' => Ev.nilPtr rfl) rfl ?_
      refine wk 14 rfl hS (fun _ _ => Ev.ixT (i) rfl rfl (by omega) (by omega)) ?_
      refine WK.storeT 15 rfl (by kernel_rfl) (by kernel_rfl) rfl rfl hB (by first | omega | (simp; omega)) fun ws8 hB_ hcs8 => ?_
      have hch := hch.s1 hcs8
      have hb4 := hb4.keep hcs8 (by simp; omega)
      have hB := hB_
      refine WK.after 16 rfl (by kernel_rfl) (by kernel_rfl) (Ev.assign rfl) rfl ?_
      refine WK.done (by kernel_rfl) (kr18 _ _ _ ?_)
      refine kh9 ?_
      refine CW.region fun kR19 kr19 => ?_
      refine zm rfl ?_
      first | refine WL.ev (Ev.addIn rfl rfl (by omega)) rfl ?_ | refine WL.ev (Ev.add rfl rfl) rfl ?_
      refine za rfl ?_
      refine WL.nil (kr19 _ _ _ ?_)
      refine ⟨rfl, (i + 1, (if C.getD i 0 < ([w0, w1, w2].getD (i - a_) 0) + c then 1 else 0), C.set i ((C.getD i 0 + 18446744073709551616 - ([w0, w1, w2].getD (i - a_) 0) - c) % 18446744073709551616)), ?_, ?_, ?_⟩
      ·
       exact SLp
      ·
       have hsub : (tn != less) = true := by simpa using hneq
       refine ⟨⟨fun q => (by rw [hsub] at q; cases q), fun q => ?_⟩, hB, hb4, hch⟩
       exact (hM.s q).step (by omega) hwv (Nat.mod_lt _ (by decide)) (by show (if C.getD i 0 < ([w0, w1, w2].getD (i - a_) 0) + c then 1 else 0) ≤ 1; split <;> omega) (by rw [show [w0, w1, w2].getD (i - a_) 0 = ([w0, w1, w2].getD (i - a_) 0) from rfl]; exact sub_step hCi hwv hcc)
      ·
       show 67 - (i + 1) < 67 - i; omega
     ·
      try simp only [qs] at hc5
      have hneq := hc5
      refine CW.regionKC 15 17 rfl hmix fun kR20 kr20 hS hdr => ?_
      have hch := hch.trans (Chg.any hdr)
      have hB := hB.keep0 hdr
      have hb4 := hb4.keep0 hdr
      have hch_r := hch
      have hB_r := hB
      have hb4_r := hb4
      refine wk 0 rfl hS (fun _ _ => Ev.move rfl) (wk 1 rfl hS (fun _ _ => Ev.move rfl) (wk 2 rfl hS (fun _ _ => Ev.move rfl) (wk 3 rfl hS (fun _ _ => Ev.move rfl) (wk 4 rfl hS (fun _ _ => Ev.nilPtr rfl) (wk 5 rfl hS (fun _ _ => Ev.ixT (i) rfl rfl (by omega) (by omega)) (wk 6 rfl hS (fun _ hw' => Ev.load rfl rfl ((hB_r.keep0 hw').t64 (by first | omega | (simp; omega)))) (wk 7 rfl hS (fun _ _ => Ev.move rfl) (wk 8 rfl hS (fun _ _ => Ev.move rfl) (wk 9 rfl hS (fun _ _ => Ev.ext rfl (ext162 (C.getD i 0) ([w0, w1, w2].getD (i - a_) 0) c hcc _)) (wk 10 rfl hS (fun _ _ => Ev.move rfl) (wk 11 rfl hS (fun _ _ => Ev.extract rfl rfl) ?_)))))))))))
      refine WK.takeT 12 rfl (by kernel_rfl) (by kernel_rfl) (by kernel_rfl) (by kernel_rfl) (fun _ => hS) (fun w' => Ev.extract rfl rfl) rfl ?_
      refine WK.takeT 13 rfl (by kernel_rfl) (by kernel_rfl) (by kernel_rfl) (by kernel_rfl) (fun _ => hS) (fun w' => Ev.nilPtr rfl) rfl ?_
      refine wk 14 rfl hS (fun _ _ => Ev.ixT (i) rfl rfl (by omega) (by omega)) ?_
      refine WK.storeT 15 rfl (by kernel_rfl) (by kernel_rfl) rfl rfl hB (by first | omega | (simp; omega)) fun ws9 hB_ hcs9 => ?_
      have hch := hch.s1 hcs9
      have hb4 := hb4.keep hcs9 (by simp; omega)
      have hB := hB_
      refine WK.after 16 rfl (by kernel_rfl) (by kernel_rfl) (Ev.assign rfl) rfl ?_
      refine WK.done (by kernel_rfl) (kr20 _ _ _ ?_)
      refine kh9 ?_
      refine CW.region fun kR21 kr21 => ?_
      refine zm rfl ?_
      first | refine WL.ev (Ev.addIn rfl rfl (by omega)) rfl ?_ | refine WL.ev (Ev.add rfl rfl) rfl ?_
      refine za rfl ?_
      refine WL.nil (kr21 _ _ _ ?_)
      refine ⟨rfl, (i + 1, ((C.getD i 0 + ([w0, w1, w2].getD (i - a_) 0) + c) / 18446744073709551616), C.set i ((C.getD i 0 + ([w0, w1, w2].getD (i - a_) 0) + c) % 18446744073709551616)), ?_, ?_, ?_⟩
      ·
       exact SLp
      ·
       have hsub : (tn != less) = false := by simpa using hneq
       refine ⟨⟨fun q => ?_, fun q => (by rw [hsub] at q; cases q)⟩, hB, hb4, hch⟩
       have hst := (hM.a q).step (by omega) hwv
       exact hst
      ·
       show 67 - (i + 1) < 67 - i; omega
    ·
     try simp only [qs] at hc4
     have hz : [w0, w1, w2].getD (i - a_) 0 = 0 := by rw [List.getD_eq_getElem?_getD, List.getElem?_eq_none (by simp; omega)]; rfl
     refine CW.skip ?_
     refine kh12 (Sr fun _ kh22 => zf rfl (zl hb4 rfl rfl (zm rfl ?_)))
     refine WL.ev (Ev.neq_bool rfl rfl) rfl ?_
     refine zz (kh22 ?_)
     refine CW.cond rfl (fun hc6 => ?_) (fun hc6 => ?_)
     ·
      try simp only [qs] at hc6
      have hneq := hc6
      refine CW.regionKC 15 17 rfl hmix fun kR24 kr24 hS hdr => ?_
      have hch := hch.trans (Chg.any hdr)
      have hB := hB.keep0 hdr
      have hb4 := hb4.keep0 hdr
      have hch_r := hch
      have hB_r := hB
      have hb4_r := hb4
      refine wk 0 rfl hS (fun _ _ => Ev.move rfl) (wk 1 rfl hS (fun _ _ => Ev.move rfl) (wk 2 rfl hS (fun _ _ => Ev.move rfl) (wk 3 rfl hS (fun _ _ => Ev.move rfl) (wk 4 rfl hS (fun _ _ => Ev.nilPtr rfl) (wk 5 rfl hS (fun _ _ => Ev.ixT (i) rfl rfl (by omega) (by omega)) (wk 6 rfl hS (fun _ hw' => Ev.load rfl rfl ((hB_r.keep0 hw').t64 (by first | omega | (simp; omega)))) (wk 7 rfl hS (fun _ _ => Ev.move rfl) (wk 8 rfl hS (fun _ _ => Ev.move rfl) (wk 9 rfl hS (fun _ _ => Ev.ext rfl (ext193 (C.getD i 0) 0 c hcc _)) (wk 10 rfl hS (fun _ _ => Ev.move rfl) (wk 11 rfl hS (fun _ _ => Ev.extract rfl rfl) ?_)))))))))))
      refine WK.takeT 12 rfl (by kernel_rfl) (by kernel_rfl) (by kernel_rfl) (by kernel_rfl) (fun _ => hS) (fun w' => Ev.extract rfl rfl) rfl ?_
      refine WK.takeT 13 rfl (by kernel_rfl) (by kernel_rfl) (by kernel_rfl) (by kernel_rfl) (fun _ => hS) (fun w' => Ev.nilPtr rfl) rfl ?_
      refine wk 14 rfl hS (fun _ _ => Ev.ixT (i) rfl rfl (by omega) (by omega)) ?_
      refine WK.storeT 15 rfl (by kernel_rfl) (by kernel_rfl) rfl rfl hB (by first | omega | (simp; omega)) fun ws10 hB_ hcs10 => ?_
      have hch := hch.s1 hcs10
      have hb4 := hb4.keep hcs10 (by simp; omega)
      have hB := hB_
      refine WK.after 16 rfl (by kernel_rfl) (by kernel_rfl) (Ev.assign rfl) rfl ?_
      refine WK.done (by kernel_rfl) (kr24 _ _ _ ?_)
      refine kh9 ?_
      refine CW.region fun kR25 kr25 => ?_
      refine zm rfl ?_
      first | refine WL.ev (Ev.addIn rfl rfl (by omega)) rfl ?_ | refine WL.ev (Ev.add rfl rfl) rfl ?_
      refine za rfl ?_
      refine WL.nil (kr25 _ _ _ ?_)
      refine ⟨rfl, (i + 1, (if C.getD i 0 < 0 + c then 1 else 0), C.set i ((C.getD i 0 + 18446744073709551616 - 0 - c) % 18446744073709551616)), ?_, ?_, ?_⟩
      ·
       exact SLp
      ·
       have hsub : (tn != less) = true := by simpa using hneq
       refine ⟨⟨fun q => (by rw [hsub] at q; cases q), fun q => ?_⟩, hB, hb4, hch⟩
       exact (hM.s q).step (by omega) hwv (Nat.mod_lt _ (by decide)) (by show (if C.getD i 0 < 0 + c then 1 else 0) ≤ 1; split <;> omega) (by rw [show [w0, w1, w2].getD (i - a_) 0 = 0 from hz]; exact sub_step hCi (by decide) hcc)
      ·
       show 67 - (i + 1) < 67 - i; omega
     ·
      try simp only [qs] at hc6
      have hneq := hc6
      refine CW.regionKC 15 17 rfl hmix fun kR26 kr26 hS hdr => ?_
      have hch := hch.trans (Chg.any hdr)
      have hB := hB.keep0 hdr
      have hb4 := hb4.keep0 hdr
      have hch_r := hch
      have hB_r := hB
      have hb4_r := hb4
      refine wk 0 rfl hS (fun _ _ => Ev.move rfl) (wk 1 rfl hS (fun _ _ => Ev.move rfl) (wk 2 rfl hS (fun _ _ => Ev.move rfl) (wk 3 rfl hS (fun _ _ => Ev.move rfl) (wk 4 rfl hS (fun _ _ => Ev.nilPtr rfl) (wk 5 rfl hS (fun _ _ => Ev.ixT (i) rfl rfl (by omega) (by omega)) (wk 6 rfl hS (fun _ hw' => Ev.load rfl rfl ((hB_r.keep0 hw').t64 (by first | omega | (simp; omega)))) (wk 7 rfl hS (fun _ _ => Ev.move rfl) (wk 8 rfl hS (fun _ _ => Ev.move rfl) (wk 9 rfl hS (fun _ _ => Ev.ext rfl (ext162 (C.getD i 0) 0 c hcc _)) (wk 10 rfl hS (fun _ _ => Ev.move rfl) (wk 11 rfl hS (fun _ _ => Ev.extract rfl rfl) ?_)))))))))))
      refine WK.takeT 12 rfl (by kernel_rfl) (by kernel_rfl) (by kernel_rfl) (by kernel_rfl) (fun _ => hS) (fun w' => Ev.extract rfl rfl) rfl ?_
      refine WK.takeT 13 rfl (by kernel_rfl) (by kernel_rfl) (by kernel_rfl) (by kernel_rfl) (fun _ => hS) (fun w' => Ev.nilPtr rfl) rfl ?_
      refine wk 14 rfl hS (fun _ _ => Ev.ixT (i) rfl rfl (by omega) (by omega)) ?_
      refine WK.storeT 15 rfl (by kernel_rfl) (by kernel_rfl) rfl rfl hB (by first | omega | (simp; omega)) fun ws11 hB_ hcs11 => ?_
      have hch := hch.s1 hcs11
      have hb4 := hb4.keep hcs11 (by simp; omega)
      have hB := hB_
      refine WK.after 16 rfl (by kernel_rfl) (by kernel_rfl) (Ev.assign rfl) rfl ?_
      refine WK.done (by kernel_rfl) (kr26 _ _ _ ?_)
      refine kh9 ?_
      refine CW.region fun kR27 kr27 => ?_
      refine zm rfl ?_
      first | refine WL.ev (Ev.addIn rfl rfl (by omega)) rfl ?_ | refine WL.ev (Ev.add rfl rfl) rfl ?_
      refine za rfl ?_
      refine WL.nil (kr27 _ _ _ ?_)
      refine ⟨rfl, (i + 1, ((C.getD i 0 + 0 + c) / 18446744073709551616), C.set i ((C.getD i 0 + 0 + c) % 18446744073709551616)), ?_, ?_, ?_⟩
      ·
       exact SLp
      ·
       have hsub : (tn != less) = false := by simpa using hneq
       refine ⟨⟨fun q => ?_, fun q => (by rw [hsub] at q; cases q)⟩, hB, hb4, hch⟩
       have hst := (hM.a q).step (by omega) hwv
       rw [hz] at hst
       exact hst
      ·
       show 67 - (i + 1) < 67 - i; omega
   ·
    try simp only [qs] at hc3
    have hstop := hc3
    refine CW.exit ?_
    refine bodyA.norm0 rfl ?_
    exact ⟨C, hB, by omega, hCw, hM.done rfl hL ha hstop, hch⟩

end Go.Proofs.YtphnpchmdpjabaaGreatDoor

/- Two's complement: what a whole sum is. No condition. -/
namespace Go.Proofs.YtphnpchmdpjabaaGreatDoor
open Go Sx Wd
set_option exponentiation.threshold 5000

def BB : Nat := 18446744073709551616 ^ 66
def MM : Nat := 18446744073709551616 ^ 67
theorem MM_eq : MM = BB * 18446744073709551616 := Nat.pow_succ ..
theorem BB_pos : 0 < BB := Nat.pow_pos (by decide)
/-- Words that stand for S. -/
structure Rep (L : List Nat) (S : Int) : Prop where
  len : L.length = 67
  w : W64 L
  eq : (tv L : Int) = S % (MM : Int)
theorem Rep.zero : Rep (List.replicate 67 0) 0 := ⟨by simp, fun x hx => by rw [List.mem_replicate] at hx; rw [hx.2]; decide, by rw [tv_zero]; simp⟩
theorem emod_of {a S M c : Int} (h0 : 0 ≤ a) (h1 : a < M) (h : a = S + c * M) : a = S % M := by
  have := Int.emod_eq_of_lt h0 h1
  rw [← this, h]
  exact Int.add_mul_emod_self_right ..
theorem MvR.rep {sub : Bool} {L W C : List Nat} {a_ : Nat} {S : Int} (h : MvR sub L W a_ C) (hr : Rep L S) (hC : C.length = 67) (hw : W64 C) :
    Rep C (if sub = true then S - ((tv W * 18446744073709551616 ^ a_ : Nat) : Int) else S + ((tv W * 18446744073709551616 ^ a_ : Nat) : Int)) := by
  have h1 : tv C < MM := by have := tv_lt hw; rw [hC] at this; exact this
  obtain ⟨_, _, he⟩ := hr
  have hd := Int.emod_add_mul_ediv S (MM : Int)
  refine ⟨hC, hw, ?_⟩
  generalize hX : tv W * 18446744073709551616 ^ a_ = X at h ⊢
  cases sub
  · obtain ⟨c, hc, e⟩ := h.1 rfl
    rw [hX, show (18446744073709551616 : Nat) ^ 67 = MM from rfl] at e
    rw [if_neg (by simp)]
    refine emod_of (c := -(S / (MM : Int)) - (c : Int)) (by omega) (by omega) ?_
    have e' : (tv C : Int) + (c : Int) * (MM : Int) = (tv L : Int) + (X : Int) := by exact_mod_cast e
    rw [Int.sub_mul, Int.neg_mul, Int.mul_comm (S / (MM : Int))]
    omega
  · obtain ⟨c, hc, e⟩ := h.2 rfl
    rw [hX, show (18446744073709551616 : Nat) ^ 67 = MM from rfl] at e
    rw [if_pos rfl]
    refine emod_of (c := -(S / (MM : Int)) + (c : Int)) (by omega) (by omega) ?_
    have e' : (tv C : Int) + (X : Int) = (tv L : Int) + (c : Int) * (MM : Int) := by exact_mod_cast e
    rw [Int.add_mul, Int.neg_mul, Int.mul_comm (S / (MM : Int))]
    omega
theorem Rep.split {L : List Nat} {S : Int} (hr : Rep L S) : tv L = tv (L.take 66) + L.getD 66 0 * BB ∧ tv (L.take 66) < BB := by
  have h1 := tv_take (l := L) (i := 66) (by rw [hr.len]; decide)
  rw [show L.take (66 + 1) = L from List.take_of_length_le (by rw [hr.len]; decide)] at h1
  refine ⟨h1, ?_⟩
  have := tv_lt (l := L.take 66) (fun x hx => hr.w x (List.mem_of_mem_take hx))
  rwa [List.length_take, hr.len] at this
/-- A sum within its bounds: the highest word, and what is below. -/
theorem Rep.pos {L : List Nat} {S : Int} (hr : Rep L S) (h0 : 0 ≤ S) (h1 : S < (16384 * BB : Nat)) : L.getD 66 0 < 16384 ∧ (tv L : Int) = S := by
  obtain ⟨h2, h3⟩ := hr.split
  have hM := MM_eq
  have he := hr.eq
  rw [Int.emod_eq_of_lt h0 (by omega)] at he
  refine ⟨?_, he⟩
  generalize L.getD 66 0 = x at h2 ⊢
  have h4 : x * BB < 16384 * BB := by omega
  exact Nat.lt_of_mul_lt_mul_right h4
theorem Rep.neg {L : List Nat} {S : Int} (hr : Rep L S) (h0 : S < 0) (h1 : -((16384 * BB : Nat) : Int) < S) : 18446744073709535232 ≤ L.getD 66 0 ∧ (L.getD 66 0 = 18446744073709535232 → 0 < tv (L.take 66)) ∧ (tv L : Int) = S + (MM : Int) := by
  obtain ⟨h2, h3⟩ := hr.split
  have hM := MM_eq
  have he := hr.eq
  have e : S % (MM : Int) = S + (MM : Int) := (emod_of (c := 1) (by omega) (by omega) (by omega)).symm
  rw [e] at he
  refine ⟨?_, fun q => ?_, he⟩
  · generalize L.getD 66 0 = x at h2 ⊢
    have h4 : 18446744073709551616 * BB < (x + 16385) * BB := by rw [Nat.add_mul]; omega
    have := Nat.lt_of_mul_lt_mul_right h4
    omega
  · rw [q] at h2; omega
theorem i64shr14 {x : Nat} (hx : x < 18446744073709551616) : (IntKind.i64.wrap (x : Int)).fdiv (2 ^ (min (14 : Int).toNat IntKind.i64.bits)) = if x < 9223372036854775808 then ((x / 16384 : Nat) : Int) else ((x : Int) - 18446744073709551616) / 16384 := by
  show (IntKind.i64.wrap (x : Int)).fdiv 16384 = _
  rw [Int.fdiv_eq_ediv_of_nonneg _ (by omega), IntKind.wrap_i64]
  split <;> omega
end Go.Proofs.YtphnpchmdpjabaaGreatDoor

/- Package super: great. No condition. -/
namespace Go.Proofs.YtphnpchmdpjabaaGreatDoor
open Go Sx Wd
set_option exponentiation.threshold 5000

theorem tv_take0 {L : List Nat} : ∀ {i : Nat}, i ≤ L.length → (∀ j, j < i → L.getD j 0 = 0) → tv (L.take i) = 0
  | 0, _, _ => by simp [tv]
  | i + 1, h, hz => by rw [tv_take (by omega), tv_take0 (by omega) (fun j hj => hz j (by omega)), hz i (by omega)]; simp
section
variable {P : Program} {s : Sl} {w : World} {ty : TypeId} {x q : Operand}
/-- a[:j] of an array by its address. -/
theorem Sx.Ev.sliceAH (j : Nat) {t b m e : Nat} {es be : Nat} {k' : IntKind} {hi : Int} {de : TypeDesc} {ze : Value} {sz by_ : Nat} {z : Value} [hT : HasT P t (.array m e) sz by_ z] [hE : HasT P e de es be ze]
    (hx : opnd s x = some (.pointer (some ⟨b, 0, none⟩))) (hq : opnd s q = some (.int k' hi)) (hj : hi = (j : Int)) (h2 : j ≤ m) : Ev P s (.slice t x none (some q) none) ty w (.slice (some ⟨b, 0, none⟩) j m) w := fun ρ d' pos af g hρ => by
  have e1 := hρ x _ hx
  have e3 := hρ q _ hq
  subst hj
  have h1 : (0 : Int) ≤ (j : Int) := by omega
  have h3 : (j : Int) ≤ (m : Int) := by omega
  simp [execOp, e1, e3, Instr.sliceAt, Instr.slice, hT.underlying, Instr.sliceBounds, Instr.sliceBound, asIntOf, Instr.sureAddr, h1, h2, h3, hE.sizeOf]
  try (intro _; simp [Addr.add])
end
structure KGr (L : List Nat) (R : List Value) (T : TypeId) (b : Nat) (w0 : World) (i : Nat) (w : World) : Prop where
  le : i ≤ 66
  z : ∀ j, j < i → L.getD j 0 = 0
  hB : TB w b T L R
  ch : Chg [] w0 w

set_option maxRecDepth 8000 in
theorem great_spec {T : TypeId} {R : List Value} (b : Nat) (L : List Nat) (S : Int) (w : World) (hB : TB w b T L R) (hr : Rep L S) (h1 : -((16384 * BB : Nat) : Int) < S) (h2 : S < (16384 * BB : Nat)) : Ret Tryz.prog 161 [.pointer (some ⟨b, 0, none⟩)] w fun u w' => u = .bool false ∧ Chg [] w w' := by
 have hL := hr.len
 have h66 := hr.w.getD 66
 have hch : Chg [] w w := Chg.refl _ _
 refine Ret.enter Tryz.func161 rfl rfl ?_
 simp only [args0, Nat.zero_add, Nat.reduceAdd]
 refine Sr fun _ kh1 => za rfl (zz (kh1 (Sr fun _ kh3 => za rfl (zz (kh3 (Sr fun _ kh5 => zm rfl (zm rfl ?_)))))))
 refine WL.ev (Ev.quoIn rfl rfl (by decide) (by decide) (by decide)) rfl ?_
 rw [show (4238 : Int) / 64 = ((66 : Nat) : Int) by decide]
 refine WL.ev (Ev.nilPtr rfl) rfl ?_
 refine WL.ev (Ev.ixT (66) rfl rfl (by omega) (by omega)) rfl ?_
 refine WL.ev (Ev.load rfl rfl (hB.t64 (by first | omega | (simp; omega)))) rfl ?_
 refine WL.ev (Ev.conv rfl rfl) rfl ?_
 refine zm rfl ?_
 refine WL.ev (Ev.remIn rfl rfl (by decide) (by decide)) rfl ?_
 rw [show (4238 : Int) % 64 = 14 by decide]
 refine WL.ev (Ev.shr rfl rfl (by decide)) rfl ?_
 rw [i64shr14 h66]
 rcases Int.lt_or_le S 0 with hS | hS
 ·
  have hn := hr.neg hS h1
  rw [if_neg (by omega), show ((L.getD 66 0 : Nat) : Int) - 18446744073709551616 = -16384 + (((L.getD 66 0 : Nat) : Int) - 18446744073709535232) by omega, show (-16384 + (((L.getD 66 0 : Nat) : Int) - 18446744073709535232)) / 16384 = -1 by omega]
  refine za rfl (zz (kh5 (zc fun _ kh7 => Sr fun _ kh8 => zm rfl ?_)))
  refine WL.ev (Ev.neq rfl rfl) rfl ?_
  refine zz (kh8 ?_)
  refine CW.cond rfl (fun hc1 => ?_) (fun hc1 => ?_)
  ·
   try simp only [qs] at hc1
   simp at hc1
  ·
   try simp only [qs] at hc1
   refine CW.skip ?_
   refine kh7 (zc fun _ kh10 => Sr fun _ kh11 => zm rfl (zm rfl ?_))
   refine WL.ev (Ev.quoIn rfl rfl (by decide) (by decide) (by decide)) rfl ?_
   rw [show (4238 : Int) / 64 = ((66 : Nat) : Int) by decide]
   refine WL.ev (Ev.nilPtr rfl) rfl ?_
   refine WL.ev (Ev.ixT (66) rfl rfl (by omega) (by omega)) rfl ?_
   refine WL.ev (Ev.load rfl rfl (hB.t64 (by first | omega | (simp; omega)))) rfl ?_
   refine zm rfl ?_
   refine WL.ev (Ev.remIn rfl rfl (by decide) (by decide)) rfl ?_
   rw [show (4238 : Int) % 64 = 14 by decide]
   refine WL.ev (Ev.subIn rfl rfl (by decide)) rfl ?_
   rw [show (64 : Int) - 14 = ((50 : Nat) : Int) by decide]
   refine WL.ev (Ev.shlU64 rfl rfl) rfl ?_
   refine WL.ev (Ev.neq rfl rfl) rfl ?_
   refine zz (kh11 ?_)
   refine CW.cond rfl (fun hc2 => ?_) (fun hc2 => ?_)
   ·
    try simp only [qs] at hc2
    refine Sr fun _ kh13 => za rfl (zz (kh13 ?_))
    refine CW.ret ?_
    refine bodyA.ret1 rfl rfl ?_
    exact ⟨rfl, hch⟩
   ·
    try simp only [qs] at hc2
    have hx50 := hc2
    refine CW.skip ?_
    refine kh10 (zc fun _ kh15 => Sr fun _ kh16 => zm rfl ?_)
    refine WL.ev (Ev.nilPtr rfl) rfl ?_
    refine zm rfl ?_
    refine WL.ev (Ev.quoIn rfl rfl (by decide) (by decide) (by decide)) rfl ?_
    rw [show (4238 : Int) / 64 = ((66 : Nat) : Int) by decide]
    refine WL.ev (Ev.sliceAH 66 rfl rfl rfl (by decide)) rfl ?_
    refine zn rfl (zm rfl (zz (kh16 ?_)))
    refine CW.block ?_
    refine CW.loop (S := fun i : Nat => [(36, .slice (some ⟨b, 0, none⟩) 66 67), (37, .int .i64 66), (38, .int .i64 (i : Int))]) (Inv := KGr L R T b w) (mu := fun i => 66 - i) (0) ?_ ?_ ?_
    ·
     exact ⟨by omega, fun j hj => by omega, hB, hch⟩
    ·
     exact SLp
    ·
     rintro i wr ⟨hi66, hz, hB, hch⟩
     have hCi := hr.w.getD i
     refine Sr fun _ kh18 => ?_
     refine WL.ev (Ev.lss rfl rfl) rfl ?_
     refine zz (kh18 (zc fun _ kh20 => ?_))
     refine CW.cond rfl (fun hc3 => ?_) (fun hc3 => ?_)
     ·
      try simp only [qs] at hc3
      refine CW.skip ?_
      refine kh20 (zc fun _ kh21 => ?_)
      refine CW.block ?_
      refine Sr fun _ kh22 => ?_
      refine WL.ev (Ev.ixB (i) rfl rfl (by omega) (by omega)) rfl ?_
      refine WL.ev (Ev.load rfl rfl (hB.t64 (by first | omega | (simp; omega)))) rfl ?_
      refine za rfl (zz (kh22 (Sr fun _ kh24 => zm rfl ?_)))
      refine WL.ev (Ev.neq rfl rfl) rfl ?_
      refine zz (kh24 ?_)
      refine CW.cond rfl (fun hc4 => ?_) (fun hc4 => ?_)
      ·
       try simp only [qs] at hc4
       refine Sr fun _ kh26 => za rfl (zz (kh26 ?_))
       refine CW.ret ?_
       refine bodyA.ret1 rfl rfl ?_
       exact ⟨rfl, hch⟩
      ·
       try simp only [qs] at hc4
       refine CW.skip ?_
       refine kh21 ?_
       refine CW.region fun kR28 kr28 => ?_
       first | refine WL.ev (Ev.addIn rfl rfl (by omega)) rfl ?_ | refine WL.ev (Ev.add rfl rfl) rfl ?_
       refine zm rfl ?_
       refine WL.nil (kr28 _ _ _ ?_)
       refine ⟨rfl, i + 1, ?_, ?_, ?_⟩
       ·
        exact SLp
       ·
        exact ⟨by omega, fun j hj => by rcases Nat.lt_or_ge j i with q | q; exact hz j q; rw [show j = i by omega]; omega, hB, hch⟩
       ·
        omega
     ·
      try simp only [qs] at hc3
      exfalso
      have h0 := tv_take0 (L := L) (i := 66) (by omega) (fun j hj => hz j (by omega))
      have := hn.2.1 (by omega)
      omega
 ·
  have hp := hr.pos hS h2
  rw [if_pos (by omega), show L.getD 66 0 / 16384 = 0 by omega]
  refine za rfl (zz (kh5 (zc fun _ kh29 => Sr fun _ kh30 => zm rfl ?_)))
  refine WL.ev (Ev.neq rfl rfl) rfl ?_
  refine zz (kh30 ?_)
  refine CW.cond rfl (fun hc5 => ?_) (fun hc5 => ?_)
  ·
   try simp only [qs] at hc5
   refine Sr fun _ kh32 => zm rfl ?_
   refine WL.ev (Ev.neq rfl rfl) rfl ?_
   refine za rfl (zz (kh32 ?_))
   refine CW.ret ?_
   refine bodyA.ret1 rfl rfl ?_
   exact ⟨rfl, hch⟩
  ·
   try simp only [qs] at hc5
   simp at hc5

end Go.Proofs.YtphnpchmdpjabaaGreatDoor

/- Package super: size. No condition. -/
namespace Go.Proofs.YtphnpchmdpjabaaGreatDoor
open Go Sx Wd
set_option exponentiation.threshold 5000

theorem splice_all : ∀ (vs pre l : List Value), l.length = vs.length → Sx.splice (pre ++ l) pre.length vs = pre ++ vs
  | [], pre, l, h => by
    have : l = [] := List.length_eq_zero_iff.1 (by simpa using h)
    subst this; simp [Sx.splice]
  | v :: vs, pre, [], h => by simp at h
  | v :: vs, pre, x :: l, h => by
    have := splice_all vs (pre ++ [v]) l (by simpa using h)
    simp only [Sx.splice]
    rw [show (pre ++ x :: l).set pre.length v = pre ++ [v] ++ l by simp]
    simpa using this
theorem TB.nil {w : World} {b : Nat} {T : TypeId} {L : List Nat} (h : TB w b T L []) : BK w b T (L.map u64v) := by
  unfold TB at h; rwa [List.append_nil] at h
theorem TB.of {w : World} {b : Nat} {T : TypeId} {L : List Nat} (h : BK w b T (L.map u64v)) : TB w b T L [] := by
  unfold TB; rwa [List.append_nil]

set_option maxRecDepth 8000 in
theorem size_spec (L : List Nat) (w : World) (hL : L.length = 67) (hW : W64 L) : Ret Tryz.prog 76 [.agg (L.map u64v).toArray] w fun u w' => ∃ C, u = .agg (C.map u64v).toArray ∧ C.length = 67 ∧ W64 C ∧ tv C = (if 9223372036854775808 ≤ L.getD 66 0 then (MM - tv L) % MM else tv L) ∧ Chg [] w w' := by
 have hch : Chg [] w w := Chg.refl _ _
 refine Ret.enter Tryz.func76 rfl rfl ?_
 simp only [args0, Nat.zero_add, Nat.reduceAdd]
 refine Sr fun _ kh1 => ?_
 refine WL.boxB (l := L.map u64v) rfl rfl rfl fun b1 wm1 hb1 hcm1 hge1 => ?_
 have hB1 : TB wm1 b1 105 L [] := TB.of hb1
 have hch := hch.trans hcm1
 refine WL.allocB (l := (List.replicate 67 0).map u64v) rfl rfl fun b2 wm2 hb2 hcm2 hge2 => ?_
 have hne : b1 ≠ b2 := by have := hB1.lt; omega
 have hB1 := hB1.keep0 hcm2
 have hch := hch.trans hcm2
 have hw2 := hcm1.size
 have hw3 := hcm2.size
 refine zz (kh1 (zc fun _ kh3 => Sr fun _ kh4 => ?_))
 refine WL.call hasF77 rfl rfl (neg_spec b1 L _ hB1 hL hW) fun v w1 h' => ?_
 obtain ⟨rfl, rfl⟩ := h'
 refine zz (kh4 ?_)
 refine CW.cond rfl (fun hc1 => ?_) (fun hc1 => ?_)
 ·
  try simp only [qs] at hc1
  have hc63 : 9223372036854775808 ≤ L.getD 66 0 := by simpa using hc1
  refine CW.region fun kR6 kr6 => ?_
  refine WL.call hasF122 rfl rfl (minus_spec b1 L _ hB1 hL hW) fun v w2 h' => ?_
  obtain ⟨C, hB1, hC67, hCW, hCt, hC4⟩ := h'
  have hb2 := hb2.keep hC4 (by simp; omega)
  have hch := hch.step hC4 (fun y hy => by simp only [List.mem_singleton] at hy; subst hy; exact .inr (by omega))
  refine WL.nil (kr6 _ _ _ (kh3 ?_))
  refine Sr fun _ kh7 => ?_
  refine WL.ev (Ev.loadA rfl rfl (TB.nil hB1) (by simp [hC67])) rfl ?_
  refine WL.storeB (l' := C.map u64v) rfl rfl (by simp [hC67]) (by intro v hv; obtain ⟨x, _, rfl⟩ := List.mem_map.1 hv; rfl) hb2 (by simp [hC67]) (splice_all (C.map u64v) [] ((List.replicate 67 0).map u64v) (by simp [hC67])) fun ws hb2_ hcs => ?_
  have hch := hch.step hcs (fun y hy => by simp only [List.mem_singleton] at hy; subst hy; exact .inr (by omega))
  refine zz (kh7 ?_)
  refine CW.ret ?_
  refine bodyA.retR1 rfl (RVal.cell rfl (BK.varA hb2_ rfl (by simp [hC67]))) ?_
  exact ⟨C, rfl, hC67, hCW, by rw [if_pos hc63]; exact hCt, hch⟩
 ·
  try simp only [qs] at hc1
  have hc63 : ¬ 9223372036854775808 ≤ L.getD 66 0 := by simpa using hc1
  refine CW.skip ?_
  refine kh3 (Sr fun _ kh9 => ?_)
  refine WL.ev (Ev.loadA rfl rfl (TB.nil hB1) (by simp [hL])) rfl ?_
  refine WL.storeB (l' := L.map u64v) rfl rfl (by simp [hL]) (by intro v hv; obtain ⟨x, _, rfl⟩ := List.mem_map.1 hv; rfl) hb2 (by simp [hL]) (splice_all (L.map u64v) [] ((List.replicate 67 0).map u64v) (by simp [hL])) fun ws hb2_ hcs => ?_
  have hch := hch.step hcs (fun y hy => by simp only [List.mem_singleton] at hy; subst hy; exact .inr (by omega))
  refine zz (kh9 ?_)
  refine CW.ret ?_
  refine bodyA.retR1 rfl (RVal.cell rfl (BK.varA hb2_ rfl (by simp [hL]))) ?_
  exact ⟨L, rfl, hL, hW, by rw [if_neg hc63], hch⟩

end Go.Proofs.YtphnpchmdpjabaaGreatDoor

/- Package super: count, put. No condition. -/
namespace Go.Proofs.YtphnpchmdpjabaaGreatDoor
open Go Sx Wd
set_option exponentiation.threshold 5000

/-- Where things of a sort are counted. -/
def countA (cls : Nat) (neg : Bool) (b : Nat) : Option Addr :=
  if cls = 4 then some ⟨b, 67, none⟩ else if cls = 3 ∧ neg = true then some ⟨b, 69, none⟩ else if cls = 3 then some ⟨b, 68, none⟩
  else if cls = 0 ∧ neg = true then some ⟨b, 70, none⟩ else if cls = 0 then some ⟨b, 71, none⟩ else none

set_option maxRecDepth 8000 in
theorem acount_spec (b : Nat) (t : TH) (w : World) (hW3 : t.W.length = 3) : Ret Tryz.prog 119 [.pointer (some ⟨b, 0, none⟩), .agg (thingV t).toArray] w fun u w' => u = .pointer (countA t.cls t.neg b) ∧ Chg [] w w' := by
 obtain ⟨cls, neg, tn, a_, W⟩ := t
 dsimp only at hW3
 obtain ⟨w0, w1, w2, rfl⟩ : ∃ w0 w1 w2, W = [w0, w1, w2] := by match W, hW3 with | [x, y, z], _ => exact ⟨_, _, _, rfl⟩
 dsimp only
 have hch : Chg [] w w := Chg.refl _ _
 refine Ret.enter Tryz.func119 rfl rfl ?_
 simp only [args0, Nat.zero_add, Nat.reduceAdd]
 refine Sr fun _ kh1 => ?_
 refine WL.boxB rfl rfl rfl fun b3 wm3 hb3 hcm3 hge3 => ?_
 have hgehch3 := Nat.le_trans hch.size hge3
 have hch := hch.trans (Chg.any hcm3)
 refine za rfl (zz (kh1 (zc fun _ kh3 => ?_)))
 refine CW.block ?_
 refine Sr fun _ kh4 => zf rfl (zl hb3 rfl rfl (zq rfl rfl (za rfl (zz (kh4 ?_)))))
 refine CW.cond rfl (fun hc1 => ?_) (fun hc1 => ?_)
 ·
  try simp only [qs] at hc1
  refine Sr fun _ kh6 => zm rfl ?_
  refine WL.ev (Ev.nilPtr rfl) rfl ?_
  refine zf rfl (zf rfl (za rfl (zz (kh6 ?_))))
  refine CW.ret ?_
  refine bodyA.ret1 rfl rfl ?_
  refine ⟨?_, hch⟩
  unfold countA
  rw [if_pos (by omega)]
 ·
  try simp only [qs] at hc1
  refine CW.seqM 13 (decide (cls = 3 ∧ neg = true)) ?_ ?_
  ·
   refine CW.region fun kR8 kr8 => ?_
   refine zf rfl (zl hb3 rfl rfl (zq rfl rfl (zm rfl ?_)))
   refine WL.boolCase (fun hg2 => ?_) (fun hg2 => ?_)
   ·
    try simp only [qs] at hg2
    refine zw rfl (zf rfl (zw rfl (zl hb3 rfl rfl (zt rfl rfl (za rfl ?_)))))
    refine WL.nil (kr8 _ _ _ ?_)
    refine ⟨rfl, rfl, Subs.consB rfl ?_ ?_⟩
    ·
     first | (simp_all; done) | (simp; omega) | (cases neg <;> simp_all <;> omega)
    ·
     exact SMg
   ·
    try simp only [qs] at hg2
    refine zv rfl (zv rfl (ze rfl rfl (za rfl ?_)))
    refine WL.nil (kr8 _ _ _ ?_)
    refine ⟨rfl, rfl, Subs.consB rfl ?_ ?_⟩
    ·
     first | (simp_all; done) | (simp; omega) | (cases neg <;> simp_all <;> omega)
    ·
     exact SMg
  ·
   refine CW.cond rfl (fun hc3 => ?_) (fun hc3 => ?_)
   ·
    try simp only [qs] at hc3
    have hk3n := hc3
    refine Sr fun _ kh9 => zm rfl ?_
    refine WL.ev (Ev.nilPtr rfl) rfl ?_
    refine zf rfl (zf rfl (za rfl (zz (kh9 ?_))))
    refine CW.ret ?_
    refine bodyA.ret1 rfl rfl ?_
    refine ⟨?_, hch⟩
    unfold countA
    rw [if_neg (by omega), if_pos hk3n]
   ·
    try simp only [qs] at hc3
    have hk3n := hc3
    refine Sr fun _ kh11 => zf rfl (zl hb3 rfl rfl (zq rfl rfl (za rfl (zz (kh11 ?_)))))
    refine CW.cond rfl (fun hc4 => ?_) (fun hc4 => ?_)
    ·
     try simp only [qs] at hc4
     refine Sr fun _ kh13 => zm rfl ?_
     refine WL.ev (Ev.nilPtr rfl) rfl ?_
     refine zf rfl (zf rfl (za rfl (zz (kh13 ?_))))
     refine CW.ret ?_
     refine bodyA.ret1 rfl rfl ?_
     refine ⟨?_, hch⟩
     unfold countA
     rw [if_neg (by omega), if_neg hk3n, if_pos (by omega)]
    ·
     try simp only [qs] at hc4
     refine CW.seqM 33 (decide (cls = 0 ∧ neg = true)) ?_ ?_
     ·
      refine CW.region fun kR15 kr15 => ?_
      refine zf rfl (zl hb3 rfl rfl (zq rfl rfl (zm rfl ?_)))
      refine WL.boolCase (fun hg5 => ?_) (fun hg5 => ?_)
      ·
       try simp only [qs] at hg5
       refine zw rfl (zf rfl (zw rfl (zl hb3 rfl rfl (zt rfl rfl (za rfl ?_)))))
       refine WL.nil (kr15 _ _ _ ?_)
       refine ⟨rfl, rfl, Subs.consB rfl ?_ ?_⟩
       ·
        first | (simp_all; done) | (simp; omega) | (cases neg <;> simp_all <;> omega)
       ·
        exact SMg
      ·
       try simp only [qs] at hg5
       refine zv rfl (zv rfl (ze rfl rfl (za rfl ?_)))
       refine WL.nil (kr15 _ _ _ ?_)
       refine ⟨rfl, rfl, Subs.consB rfl ?_ ?_⟩
       ·
        first | (simp_all; done) | (simp; omega) | (cases neg <;> simp_all <;> omega)
       ·
        exact SMg
     ·
      refine CW.cond rfl (fun hc6 => ?_) (fun hc6 => ?_)
      ·
       try simp only [qs] at hc6
       have hk0n := hc6
       refine Sr fun _ kh16 => zm rfl ?_
       refine WL.ev (Ev.nilPtr rfl) rfl ?_
       refine zf rfl (zf rfl (za rfl (zz (kh16 ?_))))
       refine CW.ret ?_
       refine bodyA.ret1 rfl rfl ?_
       refine ⟨?_, hch⟩
       unfold countA
       rw [if_neg (by omega), if_neg hk3n, if_neg (by omega), if_pos hk0n]
      ·
       try simp only [qs] at hc6
       have hk0n := hc6
       refine Sr fun _ kh18 => zf rfl (zl hb3 rfl rfl (zq rfl rfl (za rfl (zz (kh18 ?_)))))
       refine CW.cond rfl (fun hc7 => ?_) (fun hc7 => ?_)
       ·
        try simp only [qs] at hc7
        refine Sr fun _ kh20 => zm rfl ?_
        refine WL.ev (Ev.nilPtr rfl) rfl ?_
        refine zf rfl (zf rfl (za rfl (zz (kh20 ?_))))
        refine CW.ret ?_
        refine bodyA.ret1 rfl rfl ?_
        refine ⟨?_, hch⟩
        unfold countA
        rw [if_neg (by omega), if_neg hk3n, if_neg (by omega), if_neg hk0n, if_pos (by omega)]
       ·
        try simp only [qs] at hc7
        refine CW.skip ?_
        refine kh3 (Sr fun _ kh22 => za rfl (zz (kh22 ?_)))
        refine CW.ret ?_
        refine bodyA.ret1 rfl rfl ?_
        refine ⟨?_, hch⟩
        unfold countA
        rw [if_neg (by omega), if_neg hk3n, if_neg (by omega), if_neg hk0n, if_neg (by omega)]

set_option maxRecDepth 8000 in
theorem aput_spec {R : List Value} (b : Nat) (L W : List Nat) (a_ : Nat) (tn less : Bool) (S : Int) (w : World) (hB : TB w b 107 L R) (hr : Rep L S) (hW3 : W.length = 3) (hWW : W64 W) (ha : a_ ≤ 64) (S2 : Int) (hS2 : S2 = if (tn != less) = true then S - ((tv W * 18446744073709551616 ^ a_ : Nat) : Int) else S + ((tv W * 18446744073709551616 ^ a_ : Nat) : Int)) (h1 : -((16384 * BB : Nat) : Int) < S2) (h2 : S2 < (16384 * BB : Nat)) : Ret Tryz.prog 120 [.pointer (some ⟨b, 0, none⟩), .agg (termV tn a_ W).toArray, .bool less] w fun u w' => u = .bool true ∧ ∃ C, TB w' b 107 C R ∧ Rep C S2 ∧ Chg [b] w w' := by
 obtain ⟨x0, x1, x2, rfl⟩ : ∃ x0 x1 x2, W = [x0, x1, x2] := by match W, hW3 with | [x, y, z], _ => exact ⟨_, _, _, rfl⟩
 have hch : Chg [b] w w := Chg.refl _ _
 refine Ret.enter Tryz.func120 rfl rfl ?_
 simp only [args0, Nat.zero_add, Nat.reduceAdd]
 refine Sr fun _ kh1 => ?_
 refine WL.boxB rfl rfl rfl fun b4 wm4 hb4 hcm4 hge4 => ?_
 have hgehch4 := Nat.le_trans hch.size hge4
 have hch := hch.trans (Chg.any hcm4)
 have hneb4 : b ≠ b4 := by have := hB.lt; omega
 have hB := hB.keep0 hcm4
 refine za rfl (zz (kh1 (zc fun _ kh3 => ?_)))
 refine CW.regionTC 5 hmix (by kernel_rfl) fun kR4 kr4 hdr => ?_
 have hch := hch.trans (Chg.any hdr)
 have hB := hB.keep0 hdr
 have hb4 := hb4.keep0 hdr
 refine ym rfl ?_
 refine WS.ev (Ev.nilPtr rfl) rfl ?_
 refine WS.ev (Ev.fieldAddr rfl) rfl ?_
 refine WS.ev (Ev.loadA rfl rfl hb4 rfl) rfl ?_
 refine ym rfl ?_
 refine WS.nil ?_
 refine WL.call hasF160 rfl rfl (move_spec b L [x0, x1, x2] a_ tn less _ hB hr.len hr.w rfl hWW ha) fun v w1 h' => ?_
 obtain ⟨C, hB, hCl, hCw, hMv, hC12⟩ := h'
 have hRC := hMv.rep hr hCl hCw
 rw [← hS2] at hRC
 have hb4 := hb4.keep hC12 (by simp; omega)
 have hch := hch.step hC12 (fun y hy => by simp only [List.mem_singleton] at hy; subst hy; exact .inl (by simp))
 refine WL.nil (kr4 _ _ _ (kh3 ?_))
 refine zc fun _ kh5 => Sr fun _ kh6 => zm rfl ?_
 refine WL.ev (Ev.nilPtr rfl) rfl ?_
 refine zf rfl ?_
 refine WL.call hasF161 rfl rfl (great_spec b C S2 _ hB hRC h1 h2) fun v w2 h' => ?_
 obtain ⟨rfl, hC16⟩ := h'
 have hch := hch.trans (Chg.any hC16)
 have hB := hB.keep0 hC16
 have hb4 := hb4.keep0 hC16
 refine zz (kh6 ?_)
 refine CW.condF rfl ?_
 refine CW.skip ?_
 refine kh5 (Sr fun _ kh8 => za rfl (zz (kh8 ?_)))
 refine CW.ret ?_
 refine bodyA.ret1 rfl rfl ?_
 exact ⟨rfl, C, hB, hRC, hch⟩

end Go.Proofs.YtphnpchmdpjabaaGreatDoor

/- Package super: more, Add. No condition. -/
namespace Go.Proofs.YtphnpchmdpjabaaGreatDoor
open Go Sx Wd
set_option exponentiation.threshold 5000

/-- The counts when one more is put. -/
def cnt1 (s : SP) (cls : Nat) (neg : Bool) : SP :=
  if cls = 4 then ⟨s.na + 1, s.up, s.dn, s.mi, s.pl, s.al + 1⟩ else if cls = 3 ∧ neg = true then ⟨s.na, s.up, s.dn + 1, s.mi, s.pl, s.al + 1⟩ else if cls = 3 then ⟨s.na, s.up + 1, s.dn, s.mi, s.pl, s.al + 1⟩
  else if cls = 0 ∧ neg = true then ⟨s.na, s.up, s.dn, s.mi + 1, s.pl, s.al + 1⟩ else if cls = 0 then ⟨s.na, s.up, s.dn, s.mi, s.pl + 1, s.al + 1⟩ else ⟨s.na, s.up, s.dn, s.mi, s.pl, s.al + 1⟩
/-- What a thing adds, in units of the lowest bit. -/
def thv (t : TH) : Int := if t.cls = 1 ∨ t.cls = 2 then (if t.tn = true then -((tv t.W * 18446744073709551616 ^ t.at_ : Nat) : Int) else ((tv t.W * 18446744073709551616 ^ t.at_ : Nat) : Int)) else 0
theorem TB.tl {w : World} {b : Nat} {T : TypeId} {L : List Nat} {R : List Value} {j : Nat} {v : Value} (h : TB w b T L R) (hL : L.length = 67) (hv : R[j]? = some v) : w.cell? ⟨b, 67 + j, none⟩ = some v := by rw [← hL]; exact h.tail_ hv
theorem TB.setr {L : List Nat} {R R' : List Value} {i j : Nat} {v : Value} (hL : L.length = 67) (hi : i = 67 + j) (hR : R.set j v = R') : (L.map u64v ++ R).set i v = L.map u64v ++ R' := by
  subst hi
  rw [List.set_append_right _ _ (by simp; omega), List.length_map, hL, Nat.add_sub_cancel_left, hR]

theorem countA_cases (s : SP) (cls : Nat) (neg : Bool) (b N : Nat) (hs : s.le N) (hc : cls ≤ 4) :
    (∃ k v : Nat, countA cls neg b = some ⟨b, 67 + k, none⟩ ∧ k < 5 ∧ s.cells[k]? = some (.int .i64 (v : Int)) ∧ v ≤ N ∧ (s.cells.set k (.int .i64 ((v : Int) + 1))).set 5 (.int .i64 ((s.al : Int) + 1)) = (cnt1 s cls neg).cells ∧ (s.cells.set k (.int .i64 ((v : Int) + 1)))[5]? = some (.int .i64 (s.al : Int)) ∧ ¬ (cls = 1 ∨ cls = 2))
    ∨ (countA cls neg b = none ∧ s.cells.set 5 (.int .i64 ((s.al : Int) + 1)) = (cnt1 s cls neg).cells ∧ (cls = 1 ∨ cls = 2)) := by
  obtain ⟨a1, a2, a3, a4, a5, a6⟩ := hs
  unfold countA cnt1
  by_cases q1 : cls = 4
  · rw [if_pos q1, if_pos q1]; exact .inl ⟨0, s.na, rfl, by decide, rfl, a1, by simp [SP.cells], rfl, by omega⟩
  rw [if_neg q1, if_neg q1]
  by_cases q2 : cls = 3 ∧ neg = true
  · rw [if_pos q2, if_pos q2]; exact .inl ⟨2, s.dn, rfl, by decide, rfl, a3, by simp [SP.cells], rfl, by omega⟩
  rw [if_neg q2, if_neg q2]
  by_cases q3 : cls = 3
  · rw [if_pos q3, if_pos q3]; exact .inl ⟨1, s.up, rfl, by decide, rfl, a2, by simp [SP.cells], rfl, by omega⟩
  rw [if_neg q3, if_neg q3]
  by_cases q4 : cls = 0 ∧ neg = true
  · rw [if_pos q4, if_pos q4]; exact .inl ⟨3, s.mi, rfl, by decide, rfl, a4, by simp [SP.cells], rfl, by omega⟩
  rw [if_neg q4, if_neg q4]
  by_cases q5 : cls = 0
  · rw [if_pos q5, if_pos q5]; exact .inl ⟨4, s.pl, rfl, by decide, rfl, a5, by simp [SP.cells], rfl, by omega⟩
  rw [if_neg q5, if_neg q5]
  exact .inr ⟨rfl, by simp [SP.cells], by omega⟩

set_option maxRecDepth 8000 in
theorem more_spec (b : Nat) (L : List Nat) (t : TH) (s : SP) (S : Int) (w : World) (hB : TB w b 107 L s.cells) (hr : Rep L S) (hW3 : t.W.length = 3) (hWW : W64 t.W) (ha : t.at_ ≤ 64) (hcl : t.cls ≤ 4) (hs : s.le 1099511627775) (h1 : -((16384 * BB : Nat) : Int) < S + thv t) (h2 : S + thv t < (16384 * BB : Nat)) : Ret Tryz.prog 74 [.pointer (some ⟨b, 0, none⟩), .agg (thingV t).toArray] w fun u w' => u = .int .i64 0 ∧ ∃ C, TB w' b 107 C (cnt1 s t.cls t.neg).cells ∧ Rep C (S + thv t) ∧ Chg [b] w w' := by
 obtain ⟨cls, neg, tn, a_, W⟩ := t
 dsimp only at hW3 hWW ha hcl
 obtain ⟨x0, x1, x2, rfl⟩ : ∃ x0 x1 x2, W = [x0, x1, x2] := by match W, hW3 with | [x, y, z], _ => exact ⟨_, _, _, rfl⟩
 dsimp only
 have hs6 := hs.2.2.2.2.2
 have hL := hr.len
 have hch : Chg [b] w w := Chg.refl _ _
 refine Ret.enter Tryz.func74 rfl rfl ?_
 simp only [args0, Nat.zero_add, Nat.reduceAdd]
 refine Sr fun _ kh1 => ?_
 refine WL.boxB rfl rfl rfl fun b3 wm3 hb3 hcm3 hge3 => ?_
 have hgehch3 := Nat.le_trans hch.size hge3
 have hch := hch.trans (Chg.any hcm3)
 have hneb3 : b ≠ b3 := by have := hB.lt; omega
 have hB := hB.keep0 hcm3
 refine za rfl (zz (kh1 (zc fun _ kh3 => Sr fun _ kh4 => zm rfl ?_)))
 refine WL.ev (Ev.nilPtr rfl) rfl ?_
 refine zf rfl (zf rfl ?_)
 refine WL.ev (Ev.load rfl rfl (TB.tl (j := 5) hB hL rfl)) rfl ?_
 refine zq rfl rfl (zz (kh4 ?_))
 refine CW.cond rfl (fun hc1 => ?_) (fun hc1 => ?_)
 ·
  try simp only [qs] at hc1
  exfalso; omega
 ·
  try simp only [qs] at hc1
  refine CW.skip ?_
  refine kh3 (zc fun _ kh6 => Sr fun _ kh7 => zm rfl (zg hb3 rfl ?_))
  refine WL.call hasF119 rfl rfl (acount_spec b ⟨cls, neg, tn, a_, [x0, x1, x2]⟩ _ rfl) fun v w1 h' => ?_
  obtain ⟨rfl, hC14⟩ := h'
  have hch := hch.trans (Chg.any hC14)
  have hB := hB.keep0 hC14
  have hb3 := hb3.keep0 hC14
  dsimp only; rcases countA_cases s cls neg b _ hs hcl with ⟨k, v, hk1, hk2, hk3, hk4, hk5, hk6, hk7⟩ | ⟨hk1, hk5, hk7⟩
  ·
   rw [hk1]
   refine za rfl (zz (kh7 (Sr fun _ kh9 => zm rfl ?_)))
   refine WL.ev (Ev.neqPtrNil rfl rfl) rfl ?_
   refine zz (kh9 ?_)
   refine CW.condT rfl ?_
   refine CW.region fun kR11 kr11 => ?_
   refine zm rfl ?_
   refine WL.ev (Ev.nilPtr rfl) rfl ?_
   refine WL.ev (Ev.load rfl rfl (TB.tl (j := k) hB hL hk3)) rfl ?_
   first | refine WL.ev (Ev.addIn rfl rfl (by omega)) rfl ?_ | refine WL.ev (Ev.add rfl rfl) rfl ?_
   refine WL.ev (Ev.nilPtr rfl) rfl ?_
   refine WL.storeC (l' := L.map u64v ++ s.cells.set k (.int .i64 ((v : Int) + 1))) rfl rfl rfl hB (by simp [SP.cells, hL]; omega) (TB.setr (j := k) hL rfl rfl) fun ws5 hB_ hcs5 => ?_
   have hch := hch.step hcs5 (fun y hy => by simp only [List.mem_singleton] at hy; subst hy; exact .inl (by simp))
   have hb3 := hb3.keep hcs5 (by simp; omega)
   have hB := hB_
   refine WL.nil (kr11 _ _ _ (kh6 ?_))
   refine Sr fun _ kh12 => zm rfl ?_
   refine WL.ev (Ev.nilPtr rfl) rfl ?_
   refine zf rfl (zf rfl ?_)
   refine WL.ev (Ev.load rfl rfl (TB.tl (j := 5) hB hL hk6)) rfl ?_
   first | refine WL.ev (Ev.addIn rfl rfl (by omega)) rfl ?_ | refine WL.ev (Ev.add rfl rfl) rfl ?_
   refine WL.ev (Ev.nilPtr rfl) rfl ?_
   refine zf rfl (zf rfl ?_)
   refine WL.storeC (l' := L.map u64v ++ (cnt1 s cls neg).cells) rfl rfl rfl hB (by simp [SP.cells, hL]) (TB.setr (j := 5) hL rfl hk5) fun ws8 hB_ hcs8 => ?_
   have hch := hch.step hcs8 (fun y hy => by simp only [List.mem_singleton] at hy; subst hy; exact .inl (by simp))
   have hb3 := hb3.keep hcs8 (by simp; omega)
   have hB := hB_
   refine zz (kh12 (Sr fun _ kh14 => za rfl (zz (kh14 ?_))))
   refine CW.ret ?_
   refine bodyA.ret1 rfl rfl ?_
   have e0 : thv ⟨cls, neg, tn, a_, [x0, x1, x2]⟩ = 0 := if_neg hk7
   rw [e0, Int.add_zero]
   exact ⟨rfl, L, hB, hr, hch⟩
  ·
   rw [hk1]
   have hb3 : BK _ b3 _ [.int .i64 (cls : Int), .bool neg, .bool tn, .int .i64 (a_ : Int), u64v x0, u64v x1, u64v x2] := hb3
   refine za rfl (zz (kh7 (Sr fun _ kh16 => zm rfl ?_)))
   refine WL.ev (Ev.neqPtrNil rfl rfl) rfl ?_
   refine zz (kh16 ?_)
   refine CW.condF rfl ?_
   refine Sr fun _ kh18 => zm rfl (zf rfl ?_)
   refine WL.ev (Ev.loadB rfl rfl hb3 rfl rfl) rfl ?_
   simp only [List.drop_succ_cons, List.drop_zero, List.take_succ_cons, List.take_zero]
   refine WL.call hasF120 rfl rfl (aput_spec b L [x0, x1, x2] a_ tn false S _ hB hr rfl hWW ha (S + thv ⟨cls, neg, tn, a_, [x0, x1, x2]⟩) (by show S + (if cls = 1 ∨ cls = 2 then _ else _) = _; rw [if_pos hk7]; cases tn <;> simp [Int.sub_eq_add_neg]) h1 h2) fun v w2 h' => ?_
   obtain ⟨rfl, C, hB_, hRC, hC25⟩ := h'
   have hch := hch.step hC25 (fun y hy => by simp only [List.mem_singleton] at hy; subst hy; exact .inl (by simp))
   have hb3 := hb3.keep hC25 (by simp; omega)
   have hB := hB_
   refine WL.ev (Ev.not rfl) rfl ?_
   refine zz (kh18 ?_)
   refine CW.condF rfl ?_
   refine CW.skip ?_
   refine kh6 (Sr fun _ kh20 => zm rfl ?_)
   refine WL.ev (Ev.nilPtr rfl) rfl ?_
   refine zf rfl (zf rfl ?_)
   refine WL.ev (Ev.load rfl rfl (TB.tl (j := 5) hB hRC.len rfl)) rfl ?_
   first | refine WL.ev (Ev.addIn rfl rfl (by omega)) rfl ?_ | refine WL.ev (Ev.add rfl rfl) rfl ?_
   refine WL.ev (Ev.nilPtr rfl) rfl ?_
   refine zf rfl (zf rfl ?_)
   refine WL.storeC (l' := C.map u64v ++ (cnt1 s cls neg).cells) rfl rfl rfl hB (by simp [SP.cells, hRC.len]) (TB.setr (j := 5) hRC.len rfl hk5) fun ws8 hB_ hcs8 => ?_
   have hch := hch.step hcs8 (fun y hy => by simp only [List.mem_singleton] at hy; subst hy; exact .inl (by simp))
   have hb3 := hb3.keep hcs8 (by simp; omega)
   have hB := hB_
   refine zz (kh20 (Sr fun _ kh22 => za rfl (zz (kh22 ?_))))
   refine CW.ret ?_
   refine bodyA.ret1 rfl rfl ?_
   exact ⟨rfl, C, hB, hRC, hch⟩

end Go.Proofs.YtphnpchmdpjabaaGreatDoor

/- Package super: Add. No condition. -/
namespace Go.Proofs.YtphnpchmdpjabaaGreatDoor
open Go Sx Wd
set_option exponentiation.threshold 5000

theorem oneP_ok {x : Nat} : (oneP x).W.length = 3 ∧ W64 (oneP x).W ∧ (oneP x).at_ ≤ 64 ∧ (oneP x).cls ≤ 4 ∧ (oneP x).cls = (splitP x).cls ∧ (oneP x).neg = (splitP x).neg := by
  have hc := splitP_cls x
  unfold oneP
  split
  · rename_i h
    have hf := splitP_fin h
    exact ⟨rfl, laidW_w (by omega) (by decide) (by omega), by dsimp only; omega, hc, rfl, rfl⟩
  · exact ⟨rfl, fun y hy => by simp at hy; omega, by dsimp only; omega, hc, rfl, rfl⟩

set_option maxRecDepth 8000 in
theorem acAdd_spec (b : Nat) (L : List Nat) (x : Nat) (s : SP) (S : Int) (w : World) (hB : TB w b 107 L s.cells) (hr : Rep L S) (hx : x < 18446744073709551616) (hs : s.le 1099511627775) (h1 : -((16384 * BB : Nat) : Int) < S + thv (oneP x)) (h2 : S + thv (oneP x) < (16384 * BB : Nat)) : Ret Tryz.prog 27 [.pointer (some ⟨b, 0, none⟩), .float .f64 x] w fun u w' => u = .int .i64 0 ∧ ∃ C, TB w' b 107 C (cnt1 s (splitP x).cls (splitP x).neg).cells ∧ Rep C (S + thv (oneP x)) ∧ Chg [b] w w' := by
 have hch : Chg [b] w w := Chg.refl _ _
 obtain ⟨ho1, ho2, ho3, ho4, ho5, ho6⟩ := @oneP_ok x
 refine Ret.enter Tryz.func27 rfl rfl ?_
 simp only [args0, Nat.zero_add, Nat.reduceAdd]
 refine Sr fun _ kh1 => za rfl (zz (kh1 (Sr fun _ kh3 => zm rfl (zm rfl ?_))))
 refine WL.call hasF75 rfl rfl (one_spec x _ hx) fun v w1 h' => ?_
 obtain ⟨rfl, hC7⟩ := h'
 have hch := hch.trans (Chg.any hC7)
 have hB := hB.keep0 hC7
 refine WL.call hasF74 rfl rfl (more_spec b L (oneP x) s S _ hB hr ho1 ho2 ho3 ho4 hs h1 h2) fun v w2 h' => ?_
 obtain ⟨rfl, C, hB, hRC, hC8⟩ := h'
 rw [ho5, ho6] at hB
 have hch := hch.step hC8 (fun y hy => by simp only [List.mem_singleton] at hy; subst hy; exact .inl (by simp))
 refine za rfl (zz (kh3 ?_))
 refine CW.ret ?_
 refine bodyA.ret1 rfl rfl ?_
 exact ⟨rfl, C, hB, hRC, hch⟩

end Go.Proofs.YtphnpchmdpjabaaGreatDoor

/- math/bits: Mul64. No condition. -/
namespace Go.Proofs.YtphnpchmdpjabaaGreatDoor
open Go Sx Wd
set_option exponentiation.threshold 5000

theorem mul64_hi (x y : Nat) : ((x / 4294967296) * (y / 4294967296) + ((x / 4294967296) * (y % 4294967296) + ((x % 4294967296) * (y % 4294967296)) / 4294967296) / 4294967296 + (((x / 4294967296) * (y % 4294967296) + ((x % 4294967296) * (y % 4294967296)) / 4294967296) % 4294967296 + (x % 4294967296) * (y / 4294967296)) / 4294967296) = x * y / 18446744073709551616 := by
  have hx := Nat.div_add_mod x 4294967296
  have hy := Nat.div_add_mod y 4294967296
  generalize x / 4294967296 = a at hx ⊢
  generalize x % 4294967296 = b at hx ⊢
  generalize y / 4294967296 = c at hy ⊢
  generalize y % 4294967296 = d at hy ⊢
  subst hx; subst hy
  have e : (4294967296 * a + b) * (4294967296 * c + d) = 18446744073709551616 * (a * c) + 4294967296 * (a * d) + 4294967296 * (b * c) + b * d := by
    simp only [Nat.add_mul, Nat.mul_add]
    rw [show 4294967296 * a * (4294967296 * c) = 18446744073709551616 * (a * c) by rw [show (18446744073709551616 : Nat) = 4294967296 * 4294967296 from rfl]; ac_rfl, show 4294967296 * a * d = 4294967296 * (a * d) by ac_rfl, show b * (4294967296 * c) = 4294967296 * (b * c) by ac_rfl]
    omega
  rw [e]
  omega

set_option maxRecDepth 8000 in
theorem Mul64_spec (x y : Nat) (w : World) (hx : x < 18446744073709551616) (hy : y < 18446744073709551616) : Ret Tryz.prog 154 [.int .u64 (x : Int), .int .u64 (y : Int)] w fun u w' => u = .tuple [.int .u64 ((x * y / 18446744073709551616 : Nat) : Int), .int .u64 ((x * y % 18446744073709551616 : Nat) : Int)].toArray ∧ w = w' := by
 have hHI := mul64_hi x y
 have hb0 : (x % 4294967296) * (y % 4294967296) ≤ 4294967295 * 4294967295 := Nat.mul_le_mul (by omega) (by omega)
 have hb1 : (x / 4294967296) * (y % 4294967296) ≤ 4294967295 * 4294967295 := Nat.mul_le_mul (by omega) (by omega)
 have hb2 : (x % 4294967296) * (y / 4294967296) ≤ 4294967295 * 4294967295 := Nat.mul_le_mul (by omega) (by omega)
 have hb3 : (x / 4294967296) * (y / 4294967296) ≤ 4294967295 * 4294967295 := Nat.mul_le_mul (by omega) (by omega)
 have hlt : x * y / 18446744073709551616 < 18446744073709551616 := Nat.div_lt_of_lt_mul (Nat.mul_lt_mul_of_lt_of_lt hx hy)
 refine Ret.enter Tryz.func154 rfl rfl ?_
 simp only [args0, Nat.zero_add, Nat.reduceAdd]
 refine Sr fun _ kh1 => za rfl (za rfl (zz (kh1 (Sr fun _ kh3 => zm rfl ?_))))
 refine WL.ev (Ev.andU (b := 4294967295) rfl rfl rfl (by simp only [IntKind.bits]; omega) (by decide)) rfl ?_
 rw [show x &&& 4294967295 = x % 4294967296 from Nat.and_two_pow_sub_one_eq_mod _ 32]
 refine za rfl (zz (kh3 (Sr fun _ kh5 => zm rfl ?_)))
 refine WL.ev (Ev.shrU (b := 32) rfl rfl (by simp only [IntKind.bits]; omega)) rfl ?_
 rw [show x / 2 ^ 32 = x / 4294967296 by omega]
 refine za rfl (zz (kh5 (Sr fun _ kh7 => zm rfl ?_)))
 refine WL.ev (Ev.andU (b := 4294967295) rfl rfl rfl (by simp only [IntKind.bits]; omega) (by decide)) rfl ?_
 rw [show y &&& 4294967295 = y % 4294967296 from Nat.and_two_pow_sub_one_eq_mod _ 32]
 refine za rfl (zz (kh7 (Sr fun _ kh9 => zm rfl ?_)))
 refine WL.ev (Ev.shrU (b := 32) rfl rfl (by simp only [IntKind.bits]; omega)) rfl ?_
 rw [show y / 2 ^ 32 = y / 4294967296 by omega]
 refine za rfl (zz (kh9 (Sr fun _ kh11 => zm rfl (zm rfl ?_))))
 first | refine WL.ev (Ev.mul64In rfl rfl (by omega)) rfl ?_ | refine WL.ev (Ev.mul64 rfl rfl) rfl ?_
 refine za rfl (zz (kh11 (Sr fun _ kh13 => zm rfl (zm rfl ?_))))
 first | refine WL.ev (Ev.mul64In rfl rfl (by omega)) rfl ?_ | refine WL.ev (Ev.mul64 rfl rfl) rfl ?_
 refine zm rfl ?_
 refine WL.ev (Ev.shrU (b := 32) rfl rfl (by simp only [IntKind.bits]; omega)) rfl ?_
 rw [show ((x % 4294967296) * (y % 4294967296)) / 2 ^ 32 = ((x % 4294967296) * (y % 4294967296)) / 4294967296 by omega]
 first | refine WL.ev (Ev.add64In rfl rfl (by omega)) rfl ?_ | refine WL.ev (Ev.add64 rfl rfl) rfl ?_
 refine za rfl (zz (kh13 (Sr fun _ kh15 => zm rfl ?_)))
 refine WL.ev (Ev.andU (b := 4294967295) rfl rfl rfl (by simp only [IntKind.bits]; omega) (by decide)) rfl ?_
 rw [show ((x / 4294967296) * (y % 4294967296) + ((x % 4294967296) * (y % 4294967296)) / 4294967296) &&& 4294967295 = ((x / 4294967296) * (y % 4294967296) + ((x % 4294967296) * (y % 4294967296)) / 4294967296) % 4294967296 from Nat.and_two_pow_sub_one_eq_mod _ 32]
 refine za rfl (zz (kh15 (Sr fun _ kh17 => zm rfl ?_)))
 refine WL.ev (Ev.shrU (b := 32) rfl rfl (by simp only [IntKind.bits]; omega)) rfl ?_
 rw [show ((x / 4294967296) * (y % 4294967296) + ((x % 4294967296) * (y % 4294967296)) / 4294967296) / 2 ^ 32 = ((x / 4294967296) * (y % 4294967296) + ((x % 4294967296) * (y % 4294967296)) / 4294967296) / 4294967296 by omega]
 refine za rfl (zz (kh17 (Sr fun _ kh19 => zm rfl (zm rfl (zm rfl ?_)))))
 first | refine WL.ev (Ev.mul64In rfl rfl (by omega)) rfl ?_ | refine WL.ev (Ev.mul64 rfl rfl) rfl ?_
 first | refine WL.ev (Ev.add64In rfl rfl (by omega)) rfl ?_ | refine WL.ev (Ev.add64 rfl rfl) rfl ?_
 refine za rfl (zz (kh19 (Sr fun _ kh21 => zm rfl (zm rfl ?_))))
 first | refine WL.ev (Ev.mul64In rfl rfl (by omega)) rfl ?_ | refine WL.ev (Ev.mul64 rfl rfl) rfl ?_
 refine zm rfl ?_
 first | refine WL.ev (Ev.add64In rfl rfl (by omega)) rfl ?_ | refine WL.ev (Ev.add64 rfl rfl) rfl ?_
 refine zm rfl ?_
 refine WL.ev (Ev.shrU (b := 32) rfl rfl (by simp only [IntKind.bits]; omega)) rfl ?_
 rw [show (((x / 4294967296) * (y % 4294967296) + ((x % 4294967296) * (y % 4294967296)) / 4294967296) % 4294967296 + (x % 4294967296) * (y / 4294967296)) / 2 ^ 32 = (((x / 4294967296) * (y % 4294967296) + ((x % 4294967296) * (y % 4294967296)) / 4294967296) % 4294967296 + (x % 4294967296) * (y / 4294967296)) / 4294967296 by omega]
 first | refine WL.ev (Ev.add64In rfl rfl (by omega)) rfl ?_ | refine WL.ev (Ev.add64 rfl rfl) rfl ?_
 refine za rfl (zz (kh21 (Sr fun _ kh23 => zm rfl (zm rfl ?_))))
 refine WL.ev (Ev.mul64 rfl rfl) rfl ?_
 refine za rfl (zz (kh23 ?_))
 refine CW.ret ?_
 refine bodyA.ret2 rfl rfl rfl ?_
 exact ⟨by rw [hHI], rfl⟩

end Go.Proofs.YtphnpchmdpjabaaGreatDoor

/- Package super: product. No condition. -/
namespace Go.Proofs.YtphnpchmdpjabaaGreatDoor
open Go Sx Wd
set_option exponentiation.threshold 5000

def prodP (x y : Nat) : TH :=
  if (splitP x).cls = 4 ∨ (splitP y).cls = 4 ∨ (min (splitP x).cls (splitP y).cls = 0 ∧ max (splitP x).cls (splitP y).cls = 3) then ⟨4, false, false, 0, [0, 0, 0]⟩
  else if (splitP x).cls = 3 ∨ (splitP y).cls = 3 then ⟨3, (splitP x).neg != (splitP y).neg, false, 0, [0, 0, 0]⟩
  else if (splitP x).cls = 0 ∨ (splitP y).cls = 0 then ⟨0, (splitP x).neg != (splitP y).neg, false, 0, [0, 0, 0]⟩
  else ⟨2, (splitP x).neg != (splitP y).neg, (splitP x).neg != (splitP y).neg, ((splitP x).exp + (splitP y).exp + 2148).toNat / 64, laidW ((splitP x).frac * (splitP y).frac / 18446744073709551616) ((splitP x).frac * (splitP y).frac % 18446744073709551616) (((splitP x).exp + (splitP y).exp + 2148).toNat % 64)⟩
theorem prodP_fin {x y : Nat} (hx : (splitP x).cls ≤ 2) (hy : (splitP y).cls ≤ 2) : (prodP x y).W.length = 3 ∧ W64 (prodP x y).W ∧ (prodP x y).at_ ≤ 64 ∧ (prodP x y).cls ≤ 2 := by
  unfold prodP
  rw [if_neg (by omega), if_neg (by omega)]
  split
  · exact ⟨rfl, fun y hy => by simp at hy; omega, by simp, by simp⟩
  · have h1 := splitP_fin (x := x) (by omega)
    have h2 := splitP_fin (x := y) (by omega)
    have h3 : (splitP x).frac * (splitP y).frac < 9007199254740992 * 9007199254740992 := Nat.mul_lt_mul_of_lt_of_lt h1.2.2.2 h2.2.2.2
    exact ⟨rfl, laidW_w (Nat.mod_lt _ (by decide)) (by omega) (Nat.mod_lt _ (by decide)), by dsimp only; omega, by simp⟩

set_option maxRecDepth 8000 in
theorem product_spec (x y : Nat) (w : World) (hx : x < 18446744073709551616) (hy : y < 18446744073709551616) : Ret Tryz.prog 116 [.float .f64 x, .float .f64 y] w fun u w' => u = .agg (thingV (prodP x y)).toArray ∧ Chg [] w w' := by
 have hch : Chg [] w w := Chg.refl _ _
 have hsx := @splitP_fin x
 have hsy := @splitP_fin y
 have hcx := splitP_cls x
 have hcy := splitP_cls y
 refine Ret.enter Tryz.func116 rfl rfl ?_
 simp only [args0, Nat.zero_add, Nat.reduceAdd]
 refine Sr fun _ kh1 => ?_
 refine WL.allocB (l := [.int .i64 0, .bool false, .bool false, .int .i64 0, .int .u64 0, .int .u64 0, .int .u64 0]) rfl rfl fun b4 wm4 hb4 hcm4 hge4 => ?_
 have hgehch4 := Nat.le_trans hch.size hge4
 have hch := hch.trans (Chg.any hcm4)
 refine zz (kh1 (Sr fun _ kh3 => zm rfl ?_))
 refine WL.call hasF44 rfl rfl (Split_spec x _ hx) fun v w1 h' => ?_
 obtain ⟨rfl, hC11⟩ := h'
 have hch := hch.trans (Chg.any hC11)
 have hb4 := hb4.keep0 hC11
 refine zm rfl ?_
 refine WL.call hasF44 rfl rfl (Split_spec y _ hy) fun v w2 h' => ?_
 obtain ⟨rfl, hC13⟩ := h'
 have hch := hch.trans (Chg.any hC13)
 have hb4 := hb4.keep0 hC13
 refine WL.allocB (l := [.bool false, .int .i64 0, .int .i64 0, .int .u64 0]) rfl rfl fun b5 wm5 hb5 hcm5 hge5 => ?_
 have hgehch5 := Nat.le_trans hch.size hge5
 have hch := hch.trans (Chg.any hcm5)
 have hneb45 : b4 ≠ b5 := by have := hb4.lt; omega
 have hb4 := hb4.keep0 hcm5
 refine WL.allocB (l := [.bool false, .int .i64 0, .int .i64 0, .int .u64 0]) rfl rfl fun b6 wm6 hb6 hcm6 hge6 => ?_
 have hgehch6 := Nat.le_trans hch.size hge6
 have hch := hch.trans (Chg.any hcm6)
 have hneb46 : b4 ≠ b6 := by have := hb4.lt; omega
 have hb4 := hb4.keep0 hcm6
 have hneb56 : b5 ≠ b6 := by have := hb5.lt; omega
 have hb5 := hb5.keep0 hcm6
 refine WL.storeB rfl rfl rfl ao hb5 (by simp) rfl fun ws1 hb5_ hcs1 => ?_
 try simp only [Sx.splice, qt] at hb5_
 have hch := hch.s1 hcs1
 have hb4 := hb4.keep hcs1 (by simp; omega)
 have hb6 := hb6.keep hcs1 (by simp; omega)
 have hb5 := hb5_
 refine WL.storeB rfl rfl rfl ao hb6 (by simp) rfl fun ws2 hb6_ hcs2 => ?_
 try simp only [Sx.splice, qt] at hb6_
 have hch := hch.s1 hcs2
 have hb4 := hb4.keep hcs2 (by simp; omega)
 have hb5 := hb5.keep hcs2 (by simp; omega)
 have hb6 := hb6_
 refine zz (kh3 (Sr fun _ kh5 => zf rfl (zl hb5 rfl rfl (zf rfl (zl hb6 rfl rfl ?_)))))
 refine WL.ev (Ev.neq_bool rfl rfl) rfl ?_
 refine za rfl (zz (kh5 (zc fun _ kh7 => ?_)))
 refine CW.block ?_
 refine CW.seqM 19 (decide ((splitP x).cls = 4 ∨ (splitP y).cls = 4 ∨ (min (splitP x).cls (splitP y).cls = 0 ∧ max (splitP x).cls (splitP y).cls = 3))) ?_ ?_
 ·
  refine CW.region fun kR8 kr8 => ?_
  refine zf rfl (zl hb5 rfl rfl (zq rfl rfl (zm rfl ?_)))
  refine WL.boolCase (fun hg1 => ?_) (fun hg1 => ?_)
  ·
   try simp only [qs] at hg1
   refine zv rfl (zv rfl (zv rfl (zt rfl rfl (zm rfl (zv rfl (zv rfl (zv rfl (zv rfl (zv rfl (zv rfl (zv rfl (zu rfl (zu rfl (zu rfl (zu rfl (zu rfl (zu rfl (zv rfl (zt rfl rfl (za rfl ?_))))))))))))))))))))
   refine WL.nil (kr8 _ _ _ ?_)
   refine ⟨rfl, rfl, Subs.consB rfl ?_ ?_⟩
   ·
    first | (simp; omega) | (refine decide_eq_decide.2 ?_; omega)
   ·
    exact SMg
  ·
   try simp only [qs] at hg1
   refine zw rfl (zf rfl (zw rfl (zl hb6 rfl rfl (zw rfl (zq rfl rfl (ze rfl rfl (zm rfl ?_)))))))
   refine WL.boolCase (fun hg2 => ?_) (fun hg2 => ?_)
   ·
    try simp only [qs] at hg2
    refine zv rfl (zv rfl (zv rfl (zv rfl (zv rfl (zv rfl (zv rfl (zu rfl (zu rfl (zu rfl (zu rfl (zu rfl (zu rfl (zv rfl (zt rfl rfl (za rfl ?_)))))))))))))))
    refine WL.nil (kr8 _ _ _ ?_)
    refine ⟨rfl, rfl, Subs.consB rfl ?_ ?_⟩
    ·
     first | (simp; omega) | (refine decide_eq_decide.2 ?_; omega)
    ·
     exact SMg
   ·
    try simp only [qs] at hg2
    refine zw rfl (zf rfl (zw rfl (zl hb5 rfl rfl (zw rfl (zf rfl (zw rfl (zl hb6 rfl rfl (zw rfl ?_))))))))
    refine WL.ev (Ev.minI rfl rfl) rfl ?_
    refine zw rfl (zq rfl rfl (zw rfl (zm rfl ?_)))
    refine WL.boolCase (fun hg3 => ?_) (fun hg3 => ?_)
    ·
     try simp only [qs] at hg3
     refine zw rfl (zf rfl (zw rfl (zl hb5 rfl rfl (zw rfl (zf rfl (zw rfl (zl hb6 rfl rfl (zw rfl ?_))))))))
     refine WL.ev (Ev.maxI rfl rfl) rfl ?_
     refine zw rfl (zq rfl rfl (zw rfl (zt rfl rfl (ze rfl rfl (za rfl ?_)))))
     refine WL.nil (kr8 _ _ _ ?_)
     refine ⟨rfl, rfl, Subs.consB rfl ?_ ?_⟩
     ·
      first | (simp; omega) | (refine decide_eq_decide.2 ?_; omega)
     ·
      exact SMg
    ·
     try simp only [qs] at hg3
     refine zv rfl (zv rfl (zv rfl (zv rfl (zv rfl (zv rfl (zw rfl (ze rfl rfl (ze rfl rfl (za rfl ?_)))))))))
     refine WL.nil (kr8 _ _ _ ?_)
     refine ⟨rfl, rfl, Subs.consB rfl ?_ ?_⟩
     ·
      first | (simp; omega) | (refine decide_eq_decide.2 ?_; omega)
     ·
      exact SMg
 ·
  refine CW.cond rfl (fun hc4 => ?_) (fun hc4 => ?_)
  ·
   try simp only [qs] at hc4
   have h1 := hc4
   refine Sr fun _ kh9 => ?_
   refine WL.ev (Ev.build (vs := _) (cs := [_, _, _, _, _, _, _]) rfl rfl) rfl ?_
   refine WL.storeB rfl rfl rfl ao hb4 (by simp) rfl fun ws3 hb4_ hcs3 => ?_
   try simp only [Sx.splice, qt] at hb4_
   have hch := hch.s1 hcs3
   have hb5 := hb5.keep hcs3 (by simp; omega)
   have hb6 := hb6.keep hcs3 (by simp; omega)
   have hb4 := hb4_
   refine zz (kh9 ?_)
   refine CW.ret ?_
   refine bodyA.retR1 rfl (RVal.cell rfl (hb4.varA rfl rfl)) ?_
   refine ⟨?_, hch⟩
   unfold prodP
   rw [if_pos h1]
   rfl
  ·
   try simp only [qs] at hc4
   have h1 : ¬ ((splitP x).cls = 4 ∨ (splitP y).cls = 4 ∨ (min (splitP x).cls (splitP y).cls = 0 ∧ max (splitP x).cls (splitP y).cls = 3)) := hc4
   refine CW.seqM 45 (decide ((splitP x).cls = 3 ∨ (splitP y).cls = 3)) ?_ ?_
   ·
    refine CW.region fun kR11 kr11 => ?_
    refine zf rfl (zl hb5 rfl rfl (zq rfl rfl (zm rfl ?_)))
    refine WL.boolCase (fun hg5 => ?_) (fun hg5 => ?_)
    ·
     try simp only [qs] at hg5
     refine zv rfl (zv rfl (zv rfl (zt rfl rfl (za rfl ?_))))
     refine WL.nil (kr11 _ _ _ ?_)
     refine ⟨rfl, rfl, Subs.consB rfl ?_ ?_⟩
     ·
      first | (simp; omega) | (refine decide_eq_decide.2 ?_; omega)
     ·
      exact SMg
    ·
     try simp only [qs] at hg5
     refine zw rfl (zf rfl (zw rfl (zl hb6 rfl rfl (zw rfl (zq rfl rfl (ze rfl rfl (za rfl ?_)))))))
     refine WL.nil (kr11 _ _ _ ?_)
     refine ⟨rfl, rfl, Subs.consB rfl ?_ ?_⟩
     ·
      first | (simp; omega) | (refine decide_eq_decide.2 ?_; omega)
     ·
      exact SMg
   ·
    refine CW.cond rfl (fun hc6 => ?_) (fun hc6 => ?_)
    ·
     try simp only [qs] at hc6
     have h2 := hc6
     refine Sr fun _ kh12 => zm rfl ?_
     refine WL.ev (Ev.build (vs := _) (cs := [_, _, _, _, _, _, _]) rfl rfl) rfl ?_
     refine WL.storeB rfl rfl rfl ao hb4 (by simp) rfl fun ws4 hb4_ hcs4 => ?_
     try simp only [Sx.splice, qt] at hb4_
     have hch := hch.s1 hcs4
     have hb5 := hb5.keep hcs4 (by simp; omega)
     have hb6 := hb6.keep hcs4 (by simp; omega)
     have hb4 := hb4_
     refine zz (kh12 ?_)
     refine CW.ret ?_
     refine bodyA.retR1 rfl (RVal.cell rfl (hb4.varA rfl rfl)) ?_
     refine ⟨?_, hch⟩
     unfold prodP
     rw [if_neg h1, if_pos h2]
     rfl
    ·
     try simp only [qs] at hc6
     have h2 : ¬ ((splitP x).cls = 3 ∨ (splitP y).cls = 3) := hc6
     refine CW.seqM 56 (decide ((splitP x).cls = 0 ∨ (splitP y).cls = 0)) ?_ ?_
     ·
      refine CW.region fun kR14 kr14 => ?_
      refine zf rfl (zl hb5 rfl rfl (zq rfl rfl (zm rfl ?_)))
      refine WL.boolCase (fun hg7 => ?_) (fun hg7 => ?_)
      ·
       try simp only [qs] at hg7
       refine zv rfl (zv rfl (zv rfl (zt rfl rfl (za rfl ?_))))
       refine WL.nil (kr14 _ _ _ ?_)
       refine ⟨rfl, rfl, Subs.consB rfl ?_ ?_⟩
       ·
        first | (simp; omega) | (refine decide_eq_decide.2 ?_; omega)
       ·
        exact SMg
      ·
       try simp only [qs] at hg7
       refine zw rfl (zf rfl (zw rfl (zl hb6 rfl rfl (zw rfl (zq rfl rfl (ze rfl rfl (za rfl ?_)))))))
       refine WL.nil (kr14 _ _ _ ?_)
       refine ⟨rfl, rfl, Subs.consB rfl ?_ ?_⟩
       ·
        first | (simp; omega) | (refine decide_eq_decide.2 ?_; omega)
       ·
        exact SMg
     ·
      refine CW.cond rfl (fun hc8 => ?_) (fun hc8 => ?_)
      ·
       try simp only [qs] at hc8
       have h3 := hc8
       refine Sr fun _ kh15 => zm rfl ?_
       refine WL.ev (Ev.build (vs := _) (cs := [_, _, _, _, _, _, _]) rfl rfl) rfl ?_
       refine WL.storeB rfl rfl rfl ao hb4 (by simp) rfl fun ws5 hb4_ hcs5 => ?_
       try simp only [Sx.splice, qt] at hb4_
       have hch := hch.s1 hcs5
       have hb5 := hb5.keep hcs5 (by simp; omega)
       have hb6 := hb6.keep hcs5 (by simp; omega)
       have hb4 := hb4_
       refine zz (kh15 ?_)
       refine CW.ret ?_
       refine bodyA.retR1 rfl (RVal.cell rfl (hb4.varA rfl rfl)) ?_
       refine ⟨?_, hch⟩
       unfold prodP
       rw [if_neg h1, if_neg h2, if_pos h3]
       rfl
      ·
       try simp only [qs] at hc8
       have h3 : ¬ ((splitP x).cls = 0 ∨ (splitP y).cls = 0) := hc8
       have f1 := hsx (by omega)
       have f2 := hsy (by omega)
       refine CW.skip ?_
       refine kh7 (Sr fun _ kh17 => zf rfl (zl hb5 rfl rfl (zf rfl (zl hb6 rfl rfl ?_))))
       refine WL.call hasF154 rfl rfl (Mul64_spec (splitP x).frac (splitP y).frac _ (by omega) (by omega)) fun v w3 h' => ?_
       obtain ⟨rfl, rfl⟩ := h'
       refine zm rfl (zx rfl rfl (zx rfl rfl (za rfl (za rfl (zz (kh17 (Sr fun _ kh19 => zm rfl (zm rfl (zm rfl (zm rfl (zf rfl (zl hb5 rfl rfl (zf rfl (zl hb6 rfl rfl ?_))))))))))))))
       first | refine WL.ev (Ev.addIn rfl rfl (by omega)) rfl ?_ | refine WL.ev (Ev.add rfl rfl) rfl ?_
       refine WL.call hasF121 rfl rfl (laid_spec ((splitP x).neg != (splitP y).neg) ((splitP x).frac * (splitP y).frac / 18446744073709551616) ((splitP x).frac * (splitP y).frac % 18446744073709551616) ((splitP x).exp + (splitP y).exp + 2148).toNat ((splitP x).exp + (splitP y).exp) _ (by omega) (by omega) (Nat.div_lt_of_lt_mul (Nat.mul_lt_mul_of_lt_of_lt (by omega) (by omega))) (Nat.mod_lt _ (by decide))) fun v w4 h' => ?_
       obtain ⟨rfl, hC84⟩ := h'
       obtain ⟨q0, q1, q2, hq⟩ : ∃ q0 q1 q2, laidW ((splitP x).frac * (splitP y).frac / 18446744073709551616) ((splitP x).frac * (splitP y).frac % 18446744073709551616) (((splitP x).exp + (splitP y).exp + 2148).toNat % 64) = [q0, q1, q2] := ⟨_, _, _, rfl⟩
       rw [hq]
       obtain ⟨a_, ha_⟩ : ∃ a_, a_ = ((splitP x).exp + (splitP y).exp + 2148).toNat / 64 := ⟨_, rfl⟩
       rw [← ha_]
       obtain ⟨ng, hng⟩ : ∃ ng, ng = ((splitP x).neg != (splitP y).neg) := ⟨_, rfl⟩
       rw [← hng]
       show WL _ _ _ _ _ _ ((84, Value.agg [_, _, _, _, _].toArray) :: _) _
       have hch := hch.trans (Chg.any hC84)
       have hb4 := hb4.keep0 hC84
       have hb5 := hb5.keep0 hC84
       have hb6 := hb6.keep0 hC84
       refine WL.ev (Ev.build (vs := [(0, .int .i64 2), (1, .bool ng), (2, .agg [.bool ng, .int .i64 (a_ : Int), .int .u64 (q0 : Int), .int .u64 (q1 : Int), .int .u64 (q2 : Int)].toArray)]) (cs := [.int .i64 2, .bool ng, .bool ng, .int .i64 (a_ : Int), .int .u64 (q0 : Int), .int .u64 (q1 : Int), .int .u64 (q2 : Int)]) rfl (by kernel_rfl)) rfl ?_
       refine WL.storeB rfl rfl rfl ao hb4 (by simp) rfl fun ws6 hb4_ hcs6 => ?_
       try simp only [Sx.splice, qt] at hb4_
       have hch := hch.s1 hcs6
       have hb5 := hb5.keep hcs6 (by simp; omega)
       have hb6 := hb6.keep hcs6 (by simp; omega)
       have hb4 := hb4_
       refine zz (kh19 ?_)
       refine CW.ret ?_
       refine bodyA.retR1 rfl (RVal.cell rfl (hb4.varA rfl rfl)) ?_
       refine ⟨?_, hch⟩
       unfold prodP
       rw [if_neg h1, if_neg h2, if_neg h3, hq, ← ha_, ← hng]
       rfl

end Go.Proofs.YtphnpchmdpjabaaGreatDoor

/- Package super: AddProduct. No condition. -/
namespace Go.Proofs.YtphnpchmdpjabaaGreatDoor
open Go Sx Wd
set_option exponentiation.threshold 5000

set_option maxRecDepth 8000 in
theorem acAddProduct_spec (b : Nat) (L : List Nat) (x y : Nat) (s : SP) (S : Int) (w : World) (hB : TB w b 107 L s.cells) (hr : Rep L S) (hx : x < 18446744073709551616) (hy : y < 18446744073709551616) (hfx : (splitP x).cls ≤ 2) (hfy : (splitP y).cls ≤ 2) (hs : s.le 1099511627775) (h1 : -((16384 * BB : Nat) : Int) < S + thv (prodP x y)) (h2 : S + thv (prodP x y) < (16384 * BB : Nat)) : Ret Tryz.prog 72 [.pointer (some ⟨b, 0, none⟩), .float .f64 x, .float .f64 y] w fun u w' => u = .int .i64 0 ∧ ∃ C, TB w' b 107 C (cnt1 s (prodP x y).cls (prodP x y).neg).cells ∧ Rep C (S + thv (prodP x y)) ∧ Chg [b] w w' := by
 have hch : Chg [b] w w := Chg.refl _ _
 obtain ⟨ho1, ho2, ho3, ho4⟩ := prodP_fin hfx hfy
 refine Ret.enter Tryz.func72 rfl rfl ?_
 simp only [args0, Nat.zero_add, Nat.reduceAdd]
 refine Sr fun _ kh1 => za rfl (zz (kh1 (Sr fun _ kh3 => zm rfl (zm rfl (zm rfl ?_)))))
 refine WL.call hasF116 rfl rfl (product_spec x y _ hx hy) fun v w1 h' => ?_
 obtain ⟨rfl, hC7⟩ := h'
 have hch := hch.trans (Chg.any hC7)
 have hB := hB.keep0 hC7
 refine WL.call hasF74 rfl rfl (more_spec b L (prodP x y) s S _ hB hr ho1 ho2 ho3 (by omega) hs h1 h2) fun v w2 h' => ?_
 obtain ⟨rfl, C, hB, hRC, hC8⟩ := h'
 have hch := hch.step hC8 (fun y hy => by simp only [List.mem_singleton] at hy; subst hy; exact .inl (by simp))
 refine za rfl (zz (kh3 ?_))
 refine CW.ret ?_
 refine bodyA.ret1 rfl rfl ?_
 exact ⟨rfl, C, hB, hRC, hch⟩

end Go.Proofs.YtphnpchmdpjabaaGreatDoor

/- Package super: Exact. No condition. -/
namespace Go.Proofs.YtphnpchmdpjabaaGreatDoor
open Go Sx Wd
set_option exponentiation.threshold 5000

/-- Words of 64 bits as pairs of words. -/
def prs : List Nat → List Nat
  | [] => []
  | x :: l => x % 4294967296 :: x / 4294967296 :: prs l
theorem prs_len : ∀ l, (prs l).length = 2 * l.length
  | [] => rfl
  | x :: l => by simp only [prs, List.length_cons, prs_len l]; omega
theorem prs_snoc : ∀ (l : List Nat) (x : Nat), prs (l ++ [x]) = prs l ++ [x % 4294967296, x / 4294967296]
  | [], x => rfl
  | y :: l, x => by simp only [List.cons_append, prs, prs_snoc l x]
theorem prs_val : ∀ l, val (prs l) = tv l
  | [] => rfl
  | x :: l => by simp only [prs, val, tv, prs_val l]; omega
theorem prs_W : ∀ {l : List Nat}, W64 l → W (prs l)
  | [], _ => fun y hy => by cases hy
  | x :: l, h => by
    have hx := h x (List.mem_cons_self ..)
    exact W_cons.2 ⟨Nat.mod_lt _ (by decide), W_cons.2 ⟨by omega, prs_W fun y hy => h y (List.mem_cons_of_mem _ hy)⟩⟩
theorem prs_step {C : List Nat} {i : Nat} (h : i < C.length) (hW : W64 C) : prs (C.take i) ++ [C.getD i 0 % 4294967296, C.getD i 0 / 4294967296 % 4294967296] = prs (C.take (i + 1)) := by
  have hx := hW.getD i
  rw [show C.take (i + 1) = C.take i ++ [C.getD i 0] by rw [List.take_add_one, List.getD_eq_getElem?_getD, List.getElem?_eq_getElem h]; rfl, prs_snoc, Nat.mod_eq_of_lt (a := C.getD i 0 / 4294967296) (by omega)]
theorem lt_of_some {l : List Value} {j : Nat} {v : Value} (h : l[j]? = some v) : j < l.length := (List.getElem?_eq_some_iff.1 h).1
theorem wd_len_gen {n k K : Nat} (h : n < 2 ^ k) (hk : k ≤ 32 * K) : (wd n).length ≤ K := wd_length_le.2 (Nat.lt_of_lt_of_le h (Nat.pow_le_pow_right (by decide) hk))
/-- What an accumulator's sum is, as a dyad. -/
def sumD (S : Int) : Dy := (formD (decide (S < 0)) S.natAbs (-2148)).getD Dy.zero
theorem sumD_eq {S : Int} (h1 : -((16384 * BB : Nat) : Int) < S) (h2 : S < (16384 * BB : Nat)) (neg : Bool) : formD neg S.natAbs (-2148) = some (if S = 0 then Dy.zero else ⟨neg, S.natAbs / 2 ^ tz S.natAbs, -2148 + tz S.natAbs⟩) := by
  by_cases h0 : S = 0
  · subst h0; rfl
  · have hn : S.natAbs ≠ 0 := by omega
    have hlt : S.natAbs < 2 ^ 4238 := by
      have : 16384 * BB = 2 ^ 4238 := by unfold BB; rw [show (18446744073709551616 : Nat) = 2 ^ 64 from rfl, ← Nat.pow_mul, show (16384 : Nat) = 2 ^ 14 from rfl, ← Nat.pow_add]
      rw [← this]; omega
    have hb := bl_le.2 hlt
    have ht := tz_lt_bl hn
    rw [if_neg h0, formD_some hn]
    have h3 : (wd (S.natAbs / 2 ^ tz S.natAbs)).length ≤ 8192 := wd_len_gen (Nat.lt_of_le_of_lt (Nat.div_le_self _ _) hlt) (by omega)
    omega
theorem prs_step' {C : List Nat} {i : Nat} (h : i < C.length) (hW : W64 C) : prs (C.take i) ++ [C.getD i 0 % 4294967296, C.getD i 0 / 2 ^ 32 % 4294967296] = prs (C.take (i + 1)) := prs_step h hW
structure KEx (C : List Nat) (b2 : Nat) (w0 : World) (g : Nat × Value) (w : World) : Prop where
  i : g.1 ≤ 67
  gr : GR w 116 u32v w0.heap.size [b2] g.2 (prs (C.take g.1))
  h2 : BK w b2 25 [.bool false, .slice none 0 0, .int .i64 0]
  ge : w0.heap.size ≤ b2
  ch : Chg [] w0 w
theorem rep_abs {L C : List Nat} {S : Int} (hr : Rep L S) (h1 : -((16384 * BB : Nat) : Int) < S) (h2 : S < (16384 * BB : Nat)) (hC : tv C = (if 9223372036854775808 ≤ L.getD 66 0 then (MM - tv L) % MM else tv L)) :
    decide (9223372036854775808 ≤ L.getD 66 0) = decide (S < 0) ∧ tv C = S.natAbs := by
  have hM := MM_eq
  by_cases h0 : S < 0
  · obtain ⟨a, _, c⟩ := hr.neg h0 h1
    rw [if_pos (by omega)] at hC
    refine ⟨decide_eq_decide.2 (by omega), ?_⟩
    rw [hC, Nat.mod_eq_of_lt (by omega)]
    omega
  · obtain ⟨a, c⟩ := hr.pos (by omega) h2
    rw [if_neg (by omega)] at hC
    refine ⟨decide_eq_decide.2 (by omega), ?_⟩
    rw [hC]; omega

set_option maxRecDepth 20000 in
theorem Exact_spec {R : List Value} (b : Nat) (L : List Nat) (S : Int) (w : World) (hB : TB w b 107 L R) (hr : Rep L S) (hg : GW w) (h1 : -((16384 * BB : Nat) : Int) < S) (h2 : S < (16384 * BB : Nat)) : Ret Tryz.prog 28 [.pointer (some ⟨b, 0, none⟩)] w fun u w' => DY w' u (sumD S) ∧ Chg [] w w' := by
 have hch : Chg [] w w := Chg.refl _ _
 have hLL := hr.len
 have hB0 := hB
 have hg0 := hg
 refine Ret.enter Tryz.func28 rfl rfl ?_
 simp only [args0, Nat.zero_add, Nat.reduceAdd]
 refine Sr fun _ kh1 => ?_
 refine WL.allocB (l := [.bool false, .slice none 0 0, .int .i64 0]) rfl rfl fun b2 wm2 hb2 hcm2 hge2 => ?_
 have hgehch2 := Nat.le_trans hch.size hge2
 have hch := hch.trans (Chg.any hcm2)
 have hneb2 : b ≠ b2 := by have := hB.lt; omega
 have hB := hB.keep0 hcm2
 refine zz (kh1 (Sr fun _ kh3 => zm rfl ?_))
 refine WL.ev (Ev.nilPtr rfl) rfl ?_
 refine zf rfl ?_
 refine WL.ev (Ev.loadAgg (cs := L.map u64v) rfl (by simp [hLL]) rfl (fun j v hv => by rw [add_addr, Nat.zero_add]; exact BK.at_ hB (by rw [List.getElem?_append_left (lt_of_some hv)]; exact hv))) rfl ?_
 refine WL.call hasF76 rfl rfl (size_spec L _ hLL hr.w) fun v w1 h' => ?_
 obtain ⟨C, rfl, hCl, hCw, hCv, hC13⟩ := h'
 have hch := hch.trans (Chg.any hC13)
 have hB := hB.keep0 hC13
 have hb2 := hb2.keep0 hC13
 refine WL.allocB (l := (List.replicate 67 0).map u64v) rfl rfl fun b3 wm3 hb3 hcm3 hge3 => ?_
 have hne3 : b ≠ b3 := by have := hB.lt; omega
 have hne23 : b2 ≠ b3 := by have := hb2.lt; omega
 have hw3 := hch.size
 have hch := hch.trans hcm3
 have hb2 := hb2.keep0 hcm3
 have hB := hB.keep0 hcm3
 refine WL.storeB (l' := C.map u64v) rfl rfl (by simp [hCl]) (by intro v hv; obtain ⟨x, _, rfl⟩ := List.mem_map.1 hv; rfl) hb3 (by simp [hCl]) (splice_all (C.map u64v) [] ((List.replicate 67 0).map u64v) (by simp [hCl])) fun ws3 hb3 hcs3 => ?_
 have hch := hch.step hcs3 (fun y hy => by simp only [List.mem_singleton] at hy; subst hy; exact .inr (by omega))
 have hb2 := hb2.keep hcs3 (by simp; omega)
 have hB := hB.keep hcs3 (by simp; omega)
 refine zz (kh3 (Sr fun _ kh5 => za rfl (zz (kh5 (zc fun _ kh7 => Sr fun _ kh8 => ?_)))))
 refine WL.ev (Ev.loadA rfl rfl hb3 (by simp [hCl])) rfl ?_
 refine zm rfl (zz (kh8 ?_))
 refine CW.block ?_
 refine CW.loop (S := fun g : Nat × Value => [(0, .pointer (some ⟨b, 0, none⟩)), (2, .pointer (some ⟨b2, 0, none⟩)), (4, g.2), (14, .agg (C.map u64v).toArray), (15, .int .i64 (g.1 : Int))]) (Inv := KEx C b2 w) (mu := fun g => 67 - g.1) ((0, .slice none 0 0)) ?_ ?_ ?_
 ·
  exact ⟨by omega, GR.nil, hb2, hge2, hch⟩
 ·
  exact SLp
 ·
  rintro ⟨i, vo⟩ wr ⟨hi, hgr, hb2, hge2, hch⟩
  dsimp only at hi hgr hb2 hge2 hch
  dsimp only
  have hx := hCw.getD i
  have hpl := prs_len (C.take i)
  rw [List.length_take] at hpl
  have hws := hch.size
  refine Sr fun _ kh10 => ?_
  refine WL.ev (Ev.lss rfl rfl) rfl ?_
  refine zz (kh10 (zc fun _ kh12 => ?_))
  refine CW.cond rfl (fun hc1 => ?_) (fun hc1 => ?_)
  ·
   try simp only [qs] at hc1
   refine CW.skip ?_
   refine kh12 (zc fun _ kh13 => ?_)
   refine CW.block ?_
   refine Sr fun _ kh14 => ?_
   refine WL.ev (Ev.indexAr (i := i) (v := u64v (C.getD i 0)) rfl rfl (by omega) rfl (map_at u64v 0 (by omega))) rfl ?_
   refine za rfl (zz (kh14 ?_))
   refine CW.region fun kR16 kr16 => ?_
   refine zm rfl (zm rfl ?_)
   refine WL.ev (Ev.conv32 rfl rfl) rfl ?_
   refine zm rfl ?_
   refine WL.ev (Ev.shrU (b := 32) rfl rfl (by simp only [IntKind.bits]; omega)) rfl ?_
   refine WL.ev (Ev.conv32 rfl rfl) rfl ?_
   refine WL.buildSlice (m := 2) (cs := [u32v (((C.getD i 0) % 4294967296)), u32v ((((C.getD i 0) / 2 ^ 32) % 4294967296))]) (by decide) (by decide) rfl (by kernel_rfl) rfl fun b24 w24 hn24 => ?_
   have hcm24 := hn24.chg
   have hge24 := hn24.ge
   have hb24 : OB w24 b24 _ [((C.getD i 0) % 4294967296), (((C.getD i 0) / 2 ^ 32) % 4294967296)] := hn24.at_
   have hgehch24 := Nat.le_trans hch.size hge24
   have hch := hch.trans (Chg.any hcm24)
   have hneb224 : b2 ≠ b24 := by have := hb2.lt; omega
   have hb2 := hb2.keep0 hcm24
   have hgr := hgr.keep0 hcm24
   refine WL.growR (f := u32v) (lo := w.heap.size) (X := [b2]) (l := prs (C.take i)) (news := [((C.getD i 0) % 4294967296), (((C.getD i 0) / 2 ^ 32) % 4294967296)]) (by rfl) (fun i => rfl) rfl rfl hgr (by first | rfl | (simp; done) | (simp; omega) | omega) hb24.row (by first | omega | exact hch.size | exact Nat.le_refl _) (by intro y hy; simp only [List.mem_singleton] at hy; subst hy; exact hb2.lt) (by simp only [List.length_append, List.length_cons, List.length_nil]; omega) (by simp only [List.length_append, List.length_cons, List.length_nil]; omega) rfl fun v25 w25 hg25 hcg25 => ?_
   have hch := GR.frame hgr hcg25 hch (by first | omega | exact Nat.le_refl _)
   have hb2 := hb2.keep hcg25 (hgr.notin (by first | exact .inl (by simp) | exact .inr (by omega)))
   have hgr := hg25
   rw [show (prs (C.take i) ++ [((C.getD i 0) % 4294967296), (((C.getD i 0) / 2 ^ 32) % 4294967296)]) = prs (C.take (i + 1)) from by exact prs_step' (by omega) hCw] at hgr
   refine za rfl ?_
   refine WL.nil (kr16 _ _ _ (kh13 ?_))
   refine CW.region fun kR17 kr17 => ?_
   first | refine WL.ev (Ev.addIn rfl rfl (by omega)) rfl ?_ | refine WL.ev (Ev.add rfl rfl) rfl ?_
   refine zm rfl ?_
   refine WL.nil (kr17 _ _ _ ?_)
   refine ⟨rfl, (i + 1, v25), ?_, ?_, ?_⟩
   ·
    exact SLp
   ·
    exact ⟨by omega, hgr, hb2, hge2, hch⟩
   ·
    show 67 - (i + 1) < 67 - i; omega
  ·
   try simp only [qs] at hc1
   have hi67 : i = 67 := by omega
   subst hi67
   have hB := hB0.keep0 hch
   have hg := hg0.keep0 hch
   have hNU := hgr.nu (by rw [List.take_of_length_le (by omega)]; exact prs_W hCw) (by omega)
   rw [List.take_of_length_le (by omega)] at hNU
   obtain ⟨ea, ec⟩ := rep_abs hr h1 h2 hCv
   refine CW.exit ?_
   refine kh7 (Sr fun _ kh18 => zm rfl ?_)
   refine WL.ev (Ev.nilPtr rfl) rfl ?_
   refine zf rfl ?_
   refine WL.call hasF77 rfl rfl (neg_spec b L _ hB hLL hr.w) fun v w2 h' => ?_
   obtain ⟨rfl, rfl⟩ := h'
   rw [ea]
   refine zm rfl ?_
   refine WL.call hasF33 rfl rfl (Make_spec (decide (S < 0)) vo (prs C) (-2148) _ hNU hg (by omega)) fun v w3 h' => ?_
   obtain ⟨hDR, hC33⟩ := h'
   have hfe := sumD_eq h1 h2 (decide (S < 0))
   rw [prs_val, ec] at hDR
   have hsD : formD (decide (S < 0)) S.natAbs (-2148) = some (sumD S) := by unfold sumD; rw [hfe]; rfl
   rcases hDR with ⟨r, dd, he33, rfl, hN33⟩ | ⟨he33, _⟩
   rotate_left
   · rw [hsD] at he33; cases he33
   rw [hsD] at he33
   cases he33
   have hch := hch.trans (Chg.any hC33)
   have hb2 := hb2.keep0 hC33
   refine zm rfl (zx rfl rfl (zx rfl rfl ?_))
   refine WL.allocB (l := [.bool false, .slice none 0 0, .int .i64 0]) rfl rfl fun b7 wm7 hb7 hcm7 hge7 => ?_
   have hgehch7 := Nat.le_trans hch.size hge7
   have hch := hch.trans (Chg.any hcm7)
   have hN33 := hN33.keep0 hcm7
   have hneb27 : b2 ≠ b7 := by have := hb2.lt; omega
   have hb2 := hb2.keep0 hcm7
   refine WL.storeB rfl rfl rfl ao hb7 (by simp) rfl fun ws8 hb7_ hcs8 => ?_
   try simp only [Sx.splice, qt] at hb7_
   have hch := hch.s1 hcs8
   have hb2 := hb2.keep hcs8 (by simp; omega)
   have hN33 := hN33.keepBK hb7 hcs8 an
   have hb7 := hb7_
   refine za rfl (zz (kh18 (Sr fun _ kh20 => zg hb7 rfl ?_)))
   refine WL.storeB rfl rfl rfl ao hb2 (by simp) rfl fun ws9 hb2_ hcs9 => ?_
   try simp only [Sx.splice, qt] at hb2_
   have hch := hch.s1 hcs9
   have hb7 := hb7.keep hcs9 (by simp; omega)
   have hN33 := hN33.keepBK hb2 hcs9 an
   have hb2 := hb2_
   refine zz (kh20 ?_)
   refine CW.ret ?_
   refine bodyA.retR1 rfl (RVal.cell rfl (hb2.varA rfl rfl)) ?_
   exact ⟨⟨_, rfl, hN33⟩, hch⟩

end Go.Proofs.YtphnpchmdpjabaaGreatDoor
