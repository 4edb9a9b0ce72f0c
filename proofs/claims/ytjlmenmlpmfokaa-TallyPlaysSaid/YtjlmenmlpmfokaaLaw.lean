/- Package steelyardlaw18: same, awake. No condition. -/
import Derived.Test.YtjlmenmlpmfokaaRefM
namespace Go.Proofs.Ytjlmenmlpmfokaa
open Go Sx Fl Ty
set_option linter.unusedVariables false
set_option linter.unusedSimpArgs false

structure SameInv (w : World) (u v : Value) (l m : KV) (i : Nat) (wr : World) : Prop where
  le : i ≤ l.length
  eq : l.take i = m.take i
  o1 : wr.ownsRow 0 50 2 u l.length (flatE l)
  o2 : wr.ownsRow 0 50 2 v m.length (flatE m)
  chg : Chg [] w wr
theorem own_ptr {w : World} {e : Nat} {a : Option Addr} {cap : Nat} {l : KV} {i : Nat} {p : Nat × Nat} (h : w.ownsRow 0 e 2 (.slice a l.length cap) l.length (flatE l)) (hp : l[i]? = some p) : ∃ g, a = some ⟨g, 0, none⟩ ∧ w.cell? ⟨g, i * 2, none⟩ = some (.float .f64 p.1) ∧ w.cell? ⟨g, i * 2 + 1, none⟩ = some (.int .i64 (p.2 : Int)) := by
  obtain ⟨f1, f2⟩ := flatE_get l i p hp
  have hl : 0 < l.length := by cases l with
    | nil => simp at hp
    | cons q l => simp
  obtain ⟨g, hg, hc⟩ := own_cell h (by rw [flatE_length]; omega)
  exact ⟨g, hg, hc _ _ f1, hc _ _ f2⟩

set_option maxRecDepth 20000 in
theorem same_spec (u v : Value) (l m : KV) (hl : l.length ≤ 1099511627776) (w : World) (h1 : w.ownsRow 0 50 2 u l.length (flatE l)) (h2 : w.ownsRow 0 50 2 v m.length (flatE m)) : Ret Try.prog 14 [u, v] w fun x w' => x = .bool (decide (l = m)) ∧ Chg [] w w' := by
  obtain ⟨a, cap, hv⟩ := own_form h1
  subst hv
  obtain ⟨a2, cap2, hv2⟩ := own_form h2
  subst hv2
  have b1 : l.length * 2 = (flatE l).length := (flatE_length l).symm
  refine Ret.enter Try.func14 rfl rfl ?_
  refine CW.seq fun kK1 kh1 => ?_
  refine CW.region fun kR2 kr2 => ?_  -- region 0
  refine WL.ev (Ev.assign rfl) rfl ?_
  refine WL.nil (kr2 _ _ _ ?_)
  refine kh1 _ _ _ ?_
  refine CW.seq fun kK3 kh3 => ?_
  refine CW.seq fun kK4 kh4 => ?_
  refine CW.region fun kR5 kr5 => ?_  -- region 1
  refine WL.ev (Ev.move rfl) rfl ?_
  refine WL.ev (Ev.len rfl) rfl ?_
  refine WL.ev (Ev.move rfl) rfl ?_
  refine WL.ev (Ev.len rfl) rfl ?_
  refine WL.ev (Ev.neq rfl rfl) rfl ?_
  refine WL.nil (kr5 _ _ _ ?_)
  refine kh4 _ _ _ ?_
  refine CW.cond rfl (fun hc1 => ?_) (fun hc1 => ?_)  -- if 10
  ·
    simp only [decide_eq_true_eq, decide_eq_false_iff_not, Decidable.not_not, Bool.and_eq_true, Bool.or_eq_true, Bool.not_eq_true', ne_eq, Int.not_lt, Int.not_le] at hc1
    refine CW.seq fun kK6 kh6 => ?_
    refine CW.region fun kR7 kr7 => ?_  -- region 2
    refine WL.ev (Ev.assign rfl) rfl ?_
    refine WL.nil (kr7 _ _ _ ?_)
    refine kh6 _ _ _ ?_
    refine CW.ret ?_
    refine bodyA.ret1 rfl rfl ?_
    have hne : ¬ l = m := fun e => by subst e; omega
    exact ⟨by rw [decide_eq_false hne], Chg.refl _ _⟩
  ·
    simp only [decide_eq_true_eq, decide_eq_false_iff_not, Decidable.not_not, Bool.and_eq_true, Bool.or_eq_true, Bool.not_eq_true', ne_eq, Int.not_lt, Int.not_le] at hc1
    refine CW.skip ?_
    refine kh3 _ _ _ ?_
    refine CW.seq fun kK8 kh8 => ?_
    refine CW.seq fun kK9 kh9 => ?_
    have hlm : l.length = m.length := by omega
    refine CW.region fun kR10 kr10 => ?_  -- region 3
    refine WL.ev (Ev.assign rfl) rfl ?_
    refine WL.nil (kr10 _ _ _ ?_)
    refine kh9 _ _ _ ?_
    refine CW.block ?_
    refine CW.loop (S := fun i : Nat => [(0, .slice a l.length cap), (1, .slice a2 m.length cap2), (5, .int .i64 (i : Int)), (4, .bool false)]) (Inv := SameInv w (.slice a l.length cap) (.slice a2 m.length cap2) l m) (mu := fun i => l.length - i) (0) ?_ ?_ ?_
    ·
      exact ⟨Nat.zero_le _, rfl, h1, h2, Chg.refl _ _⟩
    ·
      repeat (first | exact Subs.nil | refine Subs.cons rfl ?_)
    ·
      intro i wr hi
      have hle := hi.le
      refine CW.seq fun kK11 kh11 => ?_
      refine CW.seq fun kK12 kh12 => ?_
      refine CW.region fun kR13 kr13 => ?_  -- region 4
      refine WL.ev (Ev.move rfl) rfl ?_
      refine WL.ev (Ev.move rfl) rfl ?_
      refine WL.ev (Ev.len rfl) rfl ?_
      refine WL.ev (Ev.lss rfl rfl) rfl ?_
      refine WL.nil (kr13 _ _ _ ?_)
      refine kh12 _ _ _ ?_
      refine CW.cond rfl (fun hc2 => ?_) (fun hc2 => ?_)  -- if 14
      ·
        simp only [decide_eq_true_eq, decide_eq_false_iff_not, Decidable.not_not, Bool.and_eq_true, Bool.or_eq_true, Bool.not_eq_true', ne_eq, Int.not_lt, Int.not_le] at hc2
        refine CW.skip ?_
        refine kh11 _ _ _ ?_
        refine CW.seq fun kK14 kh14 => ?_
        refine CW.block ?_
        refine CW.seq fun kK15 kh15 => ?_
        by_cases hcc : (l[i]?.map (·.2)) = (m[i]?.map (·.2))
        ·
          obtain ⟨p, hp⟩ : ∃ p, l[i]? = some p := ⟨l[i]'(by omega), by simp⟩
          obtain ⟨q, hq⟩ : ∃ q, m[i]? = some q := ⟨m[i]'(by omega), by simp⟩
          obtain ⟨g1, hg1, hp1, hp2⟩ := own_ptr hi.o1 hp
          obtain ⟨g2, hg2, hq1, hq2⟩ := own_ptr hi.o2 hq
          subst hg1
          subst hg2
          rw [hp, hq] at hcc
          have hcc2 : p.2 = q.2 := by simpa using hcc
          have hd : decide ((p.2 : Int) ≠ (q.2 : Int)) = false := by rw [hcc2]; simp
          refine CW.regionS hmix (by kernel_rfl) fun kR17 kr17 => ?_  -- region 6
          refine WS.ev (Ev.move rfl) rfl ?_
          refine WS.ev (Ev.move rfl) rfl ?_
          refine WS.ev (Ev.indexAddr rfl rfl (by omega) (by omega)) rfl ?_
          rw [show 0 + (((i : Nat) : Int)).toNat * 2 = i * 2 by omega]
          refine WS.ev (Ev.fieldAddr rfl) rfl ?_
          refine WS.ev (Ev.load rfl rfl ((Chg.drew [] wr).cell hp2 (by simp))) rfl ?_
          refine WS.ev (Ev.move rfl) rfl ?_
          refine WS.ev (Ev.move rfl) rfl ?_
          refine WS.ev (Ev.indexAddr rfl rfl (by omega) (by omega)) rfl ?_
          rw [show 0 + (((i : Nat) : Int)).toNat * 2 = i * 2 by omega]
          refine WS.ev (Ev.fieldAddr rfl) rfl ?_
          refine WS.ev (Ev.load rfl rfl ((Chg.drew [] wr).cell hq2 (by simp))) rfl ?_
          refine WS.ev (Ev.neq rfl rfl) rfl ?_
          refine WS.ev (Ev.move rfl) rfl ?_
          refine WS.want rfl rfl rfl (by rw [hd]; rfl) ?_
          refine WS.ev (Ev.move rfl) rfl ?_
          refine WS.want rfl rfl rfl (by rw [hd]; rfl) ?_
          refine WS.ev (Ev.move rfl) rfl ?_
          refine WS.want rfl rfl rfl (by rw [hd]; rfl) ?_
          refine WS.ev (Ev.indexAddr rfl rfl (by omega) (by omega)) rfl ?_
          rw [show 0 + (((i : Nat) : Int)).toNat * 2 = i * 2 by omega]
          refine WS.want rfl rfl rfl (by rw [hd]; rfl) ?_
          refine WS.ev (Ev.fieldAddr rfl) rfl ?_
          refine WS.want rfl rfl rfl (by rw [hd]; rfl) ?_
          refine WS.ev (Ev.load rfl rfl ((Chg.drew [] wr).cell hp1 (by simp))) rfl ?_
          refine WS.want rfl rfl rfl (by rw [hd]; rfl) ?_
          refine WS.ev (Ev.move rfl) rfl ?_
          refine WS.want rfl rfl rfl (by rw [hd]; rfl) ?_
          refine WS.ev (Ev.move rfl) rfl ?_
          refine WS.want rfl rfl rfl (by rw [hd]; rfl) ?_
          refine WS.ev (Ev.indexAddr rfl rfl (by omega) (by omega)) rfl ?_
          rw [show 0 + (((i : Nat) : Int)).toNat * 2 = i * 2 by omega]
          refine WS.want rfl rfl rfl (by rw [hd]; rfl) ?_
          refine WS.ev (Ev.fieldAddr rfl) rfl ?_
          refine WS.want rfl rfl rfl (by rw [hd]; rfl) ?_
          refine WS.ev (Ev.load rfl rfl ((Chg.drew [] wr).cell hq1 (by simp))) rfl ?_
          refine WS.want rfl rfl rfl (by rw [hd]; rfl) ?_
          refine WS.call hasF29 rfl rfl (steelyardref03_Alike_spec _ _ _) ?_
          refine WS.want rfl rfl rfl (by rw [hd]; rfl) ?_
          refine WS.ev (Ev.not rfl) rfl ?_
          refine WS.ev (Ev.pickF rfl hd rfl) rfl ?_
          refine WS.nil (kr17 _ _ ?_)
          refine kh15 _ _ _ ?_
          refine CW.cond rfl (fun hc3 => ?_) (fun hc3 => ?_)  -- if 41
          ·
            simp at hc3
            have hne : ¬ l = m := fun e => by subst e; rw [hp] at hq; cases hq; exact hc3 rfl
            refine CW.seq fun kK18 kh18 => ?_
            refine CW.region fun kR19 kr19 => ?_  -- region 7
            refine WL.ev (Ev.assign rfl) rfl ?_
            refine WL.nil (kr19 _ _ _ ?_)
            refine kh18 _ _ _ ?_
            refine CW.ret ?_
            refine bodyA.ret1 rfl rfl ?_
            exact ⟨by rw [decide_eq_false hne], hi.chg.trans (Chg.drew _ _)⟩
          ·
            simp at hc3
            have hpq : p = q := Prod.ext hc3 hcc2
            refine CW.skip ?_
            refine kh14 _ _ _ ?_
            refine CW.region fun kR20 kr20 => ?_  -- region 5
            refine WL.ev (Ev.move rfl) rfl ?_
            first | refine WL.ev (Ev.addIn rfl rfl (by omega)) rfl ?_ | refine WL.ev (Ev.add rfl rfl) rfl ?_
            refine WL.ev (Ev.assign rfl) rfl ?_
            refine WL.nil (kr20 _ _ _ ?_)
            refine ⟨rfl, i + 1, ?_, ?_, ?_⟩
            ·
              repeat (first | exact Subs.nil | refine Subs.cons rfl ?_)
            ·
              refine ⟨by omega, by rw [take_next hp, take_next hq, hi.eq, hpq], own_keep hi.o1 (Chg.drew [] wr) (by simp), own_keep hi.o2 (Chg.drew [] wr) (by simp), hi.chg.trans (Chg.drew _ _)⟩
            ·
              show l.length - (i + 1) < l.length - i; omega
        ·
          obtain ⟨p, hp⟩ : ∃ p, l[i]? = some p := ⟨l[i]'(by omega), by simp⟩
          obtain ⟨q, hq⟩ : ∃ q, m[i]? = some q := ⟨m[i]'(by omega), by simp⟩
          obtain ⟨g1, hg1, hp1, hp2⟩ := own_ptr hi.o1 hp
          obtain ⟨g2, hg2, hq1, hq2⟩ := own_ptr hi.o2 hq
          subst hg1
          subst hg2
          rw [hp, hq] at hcc
          have hcc2 : ¬ p.2 = q.2 := by simpa using hcc
          have hd : decide ((p.2 : Int) ≠ (q.2 : Int)) = true := decide_eq_true (by omega)
          have hne : ¬ l = m := fun e => by subst e; rw [hp] at hq; cases hq; exact hcc2 rfl
          refine CW.regionS hmix (by kernel_rfl) fun kR21 kr21 => ?_  -- region 6
          refine WS.ev (Ev.move rfl) rfl ?_
          refine WS.ev (Ev.move rfl) rfl ?_
          refine WS.ev (Ev.indexAddr rfl rfl (by omega) (by omega)) rfl ?_
          rw [show 0 + (((i : Nat) : Int)).toNat * 2 = i * 2 by omega]
          refine WS.ev (Ev.fieldAddr rfl) rfl ?_
          refine WS.ev (Ev.load rfl rfl ((Chg.drew [] wr).cell hp2 (by simp))) rfl ?_
          refine WS.ev (Ev.move rfl) rfl ?_
          refine WS.ev (Ev.move rfl) rfl ?_
          refine WS.ev (Ev.indexAddr rfl rfl (by omega) (by omega)) rfl ?_
          rw [show 0 + (((i : Nat) : Int)).toNat * 2 = i * 2 by omega]
          refine WS.ev (Ev.fieldAddr rfl) rfl ?_
          refine WS.ev (Ev.load rfl rfl ((Chg.drew [] wr).cell hq2 (by simp))) rfl ?_
          refine WS.ev (Ev.neq rfl rfl) rfl ?_
          refine WS.ev (Ev.move rfl) rfl ?_
          refine WS.pass rfl rfl rfl (by rw [hd]; rfl) rfl ?_
          refine WS.pass rfl rfl rfl (by rw [hd]; rfl) rfl ?_
          refine WS.pass rfl rfl rfl (by rw [hd]; rfl) rfl ?_
          refine WS.pass rfl rfl rfl (by rw [hd]; rfl) rfl ?_
          refine WS.pass rfl rfl rfl (by rw [hd]; rfl) rfl ?_
          refine WS.pass rfl rfl rfl (by rw [hd]; rfl) rfl ?_
          refine WS.pass rfl rfl rfl (by rw [hd]; rfl) rfl ?_
          refine WS.pass rfl rfl rfl (by rw [hd]; rfl) rfl ?_
          refine WS.pass rfl rfl rfl (by rw [hd]; rfl) rfl ?_
          refine WS.pass rfl rfl rfl (by rw [hd]; rfl) rfl ?_
          refine WS.pass rfl rfl rfl (by rw [hd]; rfl) rfl ?_
          refine WS.pass rfl rfl rfl (by rw [hd]; rfl) rfl ?_
          refine WS.ev (Ev.pickT rfl hd rfl) rfl ?_
          refine WS.nil (kr21 _ _ ?_)
          refine kh15 _ _ _ ?_
          refine CW.condT rfl ?_
          refine CW.seq fun kK22 kh22 => ?_
          refine CW.region fun kR23 kr23 => ?_  -- region 7
          refine WL.ev (Ev.assign rfl) rfl ?_
          refine WL.nil (kr23 _ _ _ ?_)
          refine kh22 _ _ _ ?_
          refine CW.ret ?_
          refine bodyA.ret1 rfl rfl ?_
          exact ⟨by rw [decide_eq_false hne], hi.chg.trans (Chg.drew _ _)⟩
      ·
        simp only [decide_eq_true_eq, decide_eq_false_iff_not, Decidable.not_not, Bool.and_eq_true, Bool.or_eq_true, Bool.not_eq_true', ne_eq, Int.not_lt, Int.not_le] at hc2
        refine CW.exit ?_  -- exit 0
        refine kh8 _ _ _ ?_
        refine CW.seq fun kK24 kh24 => ?_
        refine CW.region fun kR25 kr25 => ?_  -- region 8
        refine WL.ev (Ev.assign rfl) rfl ?_
        refine WL.nil (kr25 _ _ _ ?_)
        refine kh24 _ _ _ ?_
        refine CW.ret ?_
        refine bodyA.ret1 rfl rfl ?_
        obtain rfl : i = l.length := by omega
        have he := hi.eq
        rw [List.take_length, hlm, List.take_length] at he
        exact ⟨by rw [decide_eq_true he], hi.chg⟩

end Go.Proofs.Ytjlmenmlpmfokaa
