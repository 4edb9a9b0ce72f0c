/- The walks of the small functions on numbers' bits. No condition. -/
import Derived.Test.YtjlmenmlpmfokaaSxMap
import Derived.Test.YtjlmenmlpmfokaaFacts
import Derived.Test.YtjlmenmlpmfokaaFl
namespace Go.Proofs.Ytjlmenmlpmfokaa
open Go Sx Fl
set_option linter.unusedVariables false
set_option linter.unusedSimpArgs false

theorem andNot_top (b : Nat) (h : 9223372036854775808 ≤ b) (hb : b < 18446744073709551616) : bits2 .andNot .u64 (b : Int) 9223372036854775808 = (b : Int) - 9223372036854775808 := by
  have e : (BitVec.ofInt 64 (b : Int) &&& ~~~BitVec.ofInt 64 9223372036854775808).toNat = b - 9223372036854775808 := by
    rw [BitVec.toNat_and, BitVec.toNat_not]
    have h1 : (BitVec.ofInt 64 (b : Int)).toNat = b := by simp [BitVec.toNat_ofInt]; omega
    have h2 : (BitVec.ofInt 64 9223372036854775808).toNat = 9223372036854775808 := by decide
    rw [h1, h2]
    have h3 : b &&& (2 ^ 64 - 1 - 9223372036854775808) = b % 2 ^ 63 := by
      rw [← Nat.and_two_pow_sub_one_eq_mod]
    rw [h3]
    omega
  show IntKind.u64.wrap ((BitVec.ofInt 64 (b : Int) &&& ~~~BitVec.ofInt 64 9223372036854775808).toNat : Int) = _
  rw [e, IntWalk.u64_in _ (by omega)]
  omega
theorem compl_i64 (n : Int) (h0 : 0 ≤ n) (h1 : n ≤ 9223372036854775807) : bits2 .xor .i64 (-1) n = -1 - n := by
  have e : (BitVec.ofInt 64 (-1) ^^^ BitVec.ofInt 64 n).toNat = 18446744073709551615 - n.toNat := by
    have ha : BitVec.ofInt 64 (-1) = BitVec.allOnes 64 := by decide
    rw [ha, BitVec.allOnes_xor, BitVec.toNat_not]
    have h2 : (BitVec.ofInt 64 n).toNat = n.toNat := by simp [BitVec.toNat_ofInt]; omega
    rw [h2]
  show IntKind.i64.wrap ((BitVec.ofInt 64 (-1) ^^^ BitVec.ofInt 64 n).toNat : Int) = _
  rw [e, IntKind.wrap_i64]
  omega
theorem shr63 (b : Nat) (hb : b < 18446744073709551616) : (b : Int).fdiv (2 ^ (min (63 : Int).toNat IntKind.u64.bits)) = if 9223372036854775808 ≤ b then 1 else 0 := by
  show (b : Int).fdiv 9223372036854775808 = _
  rw [Int.fdiv_eq_ediv_of_nonneg _ (by omega)]
  split <;> omega
theorem key_neg (b : Nat) (hb : b < 18446744073709551616) (h1 : isNaN b = false) (h2 : (b : Int).fdiv (2 ^ (min (63 : Int).toNat IntKind.u64.bits)) = 1) :
    bits2 .xor .i64 (if IntKind.i64.signed then -1 else IntKind.i64.max) (IntKind.i64.wrap (bits2 .andNot .u64 (b : Int) 9223372036854775808)) = key b := by
  rw [shr63 b hb] at h2
  have h3 : 9223372036854775808 ≤ b := by
    by_cases h : 9223372036854775808 ≤ b
    · exact h
    · rw [if_neg h] at h2; cases h2
  rw [key_neg_eq h1 h3, andNot_top b h3 hb, wrap_i64 (by omega)]
  exact compl_i64 _ (by omega) (by omega)
theorem key_pos (b : Nat) (hb : b < 18446744073709551616) (h1 : isNaN b = false) (h2 : ¬ (b : Int).fdiv (2 ^ (min (63 : Int).toNat IntKind.u64.bits)) = 1) : IntKind.i64.wrap (b : Int) = key b := by
  rw [shr63 b hb] at h2
  have h3 : b < 9223372036854775808 := by
    by_cases h : 9223372036854775808 ≤ b
    · rw [if_pos h] at h2; exact absurd rfl h2
    · omega
  rw [key_pos_eq h1 h3, wrap_i64 (by omega)]
theorem canon_lt' {b : Nat} (h : b < 18446744073709551616) : (canon b : Int) < 18446744073709551616 := by
  have := canon_lt h; omega
theorem place_neg (b : Nat) (hb : b < 18446744073709551616) (h : 9223372036854775808 ≤ ((canon b : Nat) : Int)) : IntKind.i64.wrap (-1 - IntKind.i64.wrap (IntKind.u64.wrap ((canon b : Nat) - 9223372036854775808))) = place b := by
  have := canon_lt' hb
  rw [IntWalk.u64_in _ (by omega), wrap_i64 (n := (canon b : Int) - 9223372036854775808) (by omega), wrap_i64 (by omega), place, if_pos (by omega)]
theorem place_pos (b : Nat) (hb : b < 18446744073709551616) (h : ((canon b : Nat) : Int) < 9223372036854775808) : IntKind.i64.wrap ((canon b : Nat) : Int) = place b := by
  rw [wrap_i64 (by omega), place, if_neg (by omega)]

theorem math_IsNaN_spec (b : Nat) (w : World) : Ret Try.prog 44 [.float .f64 b] w fun v w' => v = .bool (isNaN b) ∧ w = w' := by
  refine Ret.enter Try.func44 rfl rfl ?_
  refine CW.seq fun kK1 kh1 => ?_
  refine CW.region fun kR2 kr2 => ?_  -- region 0
  refine WL.ev (Ev.assign rfl) rfl ?_
  refine WL.nil (kr2 _ _ _ ?_)
  refine kh1 _ _ _ ?_
  refine CW.seq fun kK3 kh3 => ?_
  refine CW.region fun kR4 kr4 => ?_  -- region 1
  refine WL.ev (Ev.move rfl) rfl ?_
  refine WL.ev (Ev.move rfl) rfl ?_
  refine WL.ev (Ev.fneq rfl rfl) rfl ?_
  refine WL.ev (Ev.assign rfl) rfl ?_
  refine WL.nil (kr4 _ _ _ ?_)
  refine kh3 _ _ _ ?_
  refine CW.ret ?_
  refine bodyA.ret1 rfl rfl ?_
  exact ⟨by rw [order_self], rfl⟩

theorem bits_NaN_spec (w : World) : Ret Try.prog 45 [] w fun v w' => v = .float .f64 9221120237041090560 ∧ w = w' := by
  refine Ret.enter Try.func45 rfl rfl ?_
  refine CW.seq fun kK1 kh1 => ?_
  refine CW.region fun kR2 kr2 => ?_  -- region 0
  refine WL.ev (Ev.assign rfl) rfl ?_
  refine WL.nil (kr2 _ _ _ ?_)
  refine kh1 _ _ _ ?_
  refine CW.seq fun kK3 kh3 => ?_
  refine CW.region fun kR4 kr4 => ?_  -- region 1
  refine WL.ev (Ev.ext rfl (ext34 _ _)) rfl ?_
  refine WL.ev (Ev.assign rfl) rfl ?_
  refine WL.nil (kr4 _ _ _ ?_)
  refine kh3 _ _ _ ?_
  refine CW.ret ?_
  refine bodyA.ret1 rfl rfl ?_
  exact ⟨rfl, rfl⟩

theorem bits_key_spec (b : Nat) (hb : b < 18446744073709551616) (w : World) : Ret Try.prog 48 [.float .f64 b] w fun v w' => v = .int .i64 (key b) ∧ w = w' := by
  refine Ret.enter Try.func48 rfl rfl ?_
  refine CW.seq fun kK1 kh1 => ?_
  refine CW.region fun kR2 kr2 => ?_  -- region 0
  refine WL.ev (Ev.assign rfl) rfl ?_
  refine WL.nil (kr2 _ _ _ ?_)
  refine kh1 _ _ _ ?_
  refine CW.seq fun kK3 kh3 => ?_
  refine CW.seq fun kK4 kh4 => ?_
  refine CW.region fun kR5 kr5 => ?_  -- region 1
  refine WL.ev (Ev.move rfl) rfl ?_
  refine WL.ev (Ev.move rfl) rfl ?_
  refine WL.ev (Ev.fneq rfl rfl) rfl ?_
  refine WL.nil (kr5 _ _ _ ?_)
  refine kh4 _ _ _ ?_
  refine CW.cond rfl (fun hc1 => ?_) (fun hc1 => ?_)  -- if 6
  ·
    rw [order_self] at hc1
    refine CW.seq fun kK6 kh6 => ?_
    refine CW.region fun kR7 kr7 => ?_  -- region 2
    refine WL.ev (Ev.assign rfl) rfl ?_
    refine WL.nil (kr7 _ _ _ ?_)
    refine kh6 _ _ _ ?_
    refine CW.ret ?_
    refine bodyA.ret1 rfl rfl ?_
    exact ⟨by simp [key, hc1], rfl⟩
  ·
    rw [order_self] at hc1
    refine CW.skip ?_
    refine kh3 _ _ _ ?_
    refine CW.seq fun kK8 kh8 => ?_
    refine CW.region fun kR9 kr9 => ?_  -- region 3
    refine WL.ev (Ev.move rfl) rfl ?_
    refine WL.ev (Ev.ext rfl (ext42 _ _)) rfl ?_
    refine WL.ev (Ev.assign rfl) rfl ?_
    refine WL.nil (kr9 _ _ _ ?_)
    refine kh8 _ _ _ ?_
    refine CW.seq fun kK10 kh10 => ?_
    refine CW.seq fun kK11 kh11 => ?_
    refine CW.region fun kR12 kr12 => ?_  -- region 4
    refine WL.ev (Ev.move rfl) rfl ?_
    refine WL.ev (Ev.shr rfl rfl (by omega)) rfl ?_
    refine WL.ev (Ev.eql rfl rfl) rfl ?_
    refine WL.nil (kr12 _ _ _ ?_)
    refine kh11 _ _ _ ?_
    refine CW.cond rfl (fun hc2 => ?_) (fun hc2 => ?_)  -- if 11
    ·
      simp only [decide_eq_true_eq, decide_eq_false_iff_not] at hc2
      refine CW.seq fun kK13 kh13 => ?_
      refine CW.region fun kR14 kr14 => ?_  -- region 5
      refine WL.ev (Ev.move rfl) rfl ?_
      refine WL.ev (Ev.andNot rfl rfl) rfl ?_
      refine WL.ev (Ev.conv rfl rfl) rfl ?_
      refine WL.ev (Ev.compl rfl) rfl ?_
      refine WL.ev (Ev.assign rfl) rfl ?_
      refine WL.nil (kr14 _ _ _ ?_)
      refine kh13 _ _ _ ?_
      refine CW.ret ?_
      refine bodyA.ret1 rfl rfl ?_
      exact ⟨by rw [key_neg b hb hc1 hc2], rfl⟩
    ·
      simp only [decide_eq_true_eq, decide_eq_false_iff_not] at hc2
      refine CW.skip ?_
      refine kh10 _ _ _ ?_
      refine CW.seq fun kK15 kh15 => ?_
      refine CW.region fun kR16 kr16 => ?_  -- region 6
      refine WL.ev (Ev.move rfl) rfl ?_
      refine WL.ev (Ev.conv rfl rfl) rfl ?_
      refine WL.ev (Ev.assign rfl) rfl ?_
      refine WL.nil (kr16 _ _ _ ?_)
      refine kh15 _ _ _ ?_
      refine CW.ret ?_
      refine bodyA.ret1 rfl rfl ?_
      exact ⟨by rw [key_pos b hb hc1 hc2], rfl⟩

theorem bits_Order_spec (a b : Nat) (ha : a < 18446744073709551616) (hb : b < 18446744073709551616) (w : World) : Ret Try.prog 37 [.float .f64 a, .float .f64 b] w fun v w' => v = .int .i64 (cmpI (key a) (key b)) ∧ w = w' := by
  refine Ret.enter Try.func37 rfl rfl ?_
  refine CW.seq fun kK1 kh1 => ?_
  refine CW.region fun kR2 kr2 => ?_  -- region 0
  refine WL.ev (Ev.assign rfl) rfl ?_
  refine WL.nil (kr2 _ _ _ ?_)
  refine kh1 _ _ _ ?_
  refine CW.seq fun kK3 kh3 => ?_
  refine CW.region fun kR4 kr4 => ?_  -- region 1
  refine WL.ev (Ev.move rfl) rfl ?_
  refine WL.call hasF48 rfl rfl (bits_key_spec _ ha _) fun v w1 h => ?_
  obtain ⟨rfl, rfl⟩ := h
  refine WL.ev (Ev.move rfl) rfl ?_
  refine WL.call hasF48 rfl rfl (bits_key_spec _ hb _) fun v w2 h => ?_
  obtain ⟨rfl, rfl⟩ := h
  refine WL.ev (Ev.assign rfl) rfl ?_
  refine WL.ev (Ev.assign rfl) rfl ?_
  refine WL.nil (kr4 _ _ _ ?_)
  refine kh3 _ _ _ ?_
  refine CW.seq fun kK5 kh5 => ?_
  refine CW.block ?_
  refine CW.seq fun kK6 kh6 => ?_
  refine CW.region fun kR7 kr7 => ?_  -- region 2
  refine WL.ev (Ev.move rfl) rfl ?_
  refine WL.ev (Ev.move rfl) rfl ?_
  refine WL.ev (Ev.lss rfl rfl) rfl ?_
  refine WL.ev (Ev.assign rfl) rfl ?_
  refine WL.nil (kr7 _ _ _ ?_)
  refine kh6 _ _ _ ?_
  refine CW.cond rfl (fun hc1 => ?_) (fun hc1 => ?_)  -- if 11
  ·
    simp only [decide_eq_true_eq, decide_eq_false_iff_not, Decidable.not_not, Bool.and_eq_true, Bool.or_eq_true, Bool.not_eq_true', ne_eq, Int.not_lt, Int.not_le] at hc1
    refine CW.seq fun kK8 kh8 => ?_
    refine CW.region fun kR9 kr9 => ?_  -- region 3
    refine WL.ev (Ev.assign rfl) rfl ?_
    refine WL.nil (kr9 _ _ _ ?_)
    refine kh8 _ _ _ ?_
    refine CW.ret ?_
    refine bodyA.ret1 rfl rfl ?_
    exact ⟨by rw [cmpI, if_pos hc1], rfl⟩
  ·
    simp only [decide_eq_true_eq, decide_eq_false_iff_not, Decidable.not_not, Bool.and_eq_true, Bool.or_eq_true, Bool.not_eq_true', ne_eq, Int.not_lt, Int.not_le] at hc1
    refine CW.seq fun kK10 kh10 => ?_
    refine CW.region fun kR11 kr11 => ?_  -- region 4
    refine WL.ev (Ev.move rfl) rfl ?_
    refine WL.ev (Ev.move rfl) rfl ?_
    refine WL.ev (Ev.gtr rfl rfl) rfl ?_
    refine WL.ev (Ev.assign rfl) rfl ?_
    refine WL.nil (kr11 _ _ _ ?_)
    refine kh10 _ _ _ ?_
    refine CW.cond rfl (fun hc2 => ?_) (fun hc2 => ?_)  -- if 15
    ·
      simp only [decide_eq_true_eq, decide_eq_false_iff_not, Decidable.not_not, Bool.and_eq_true, Bool.or_eq_true, Bool.not_eq_true', ne_eq, Int.not_lt, Int.not_le] at hc2
      refine CW.seq fun kK12 kh12 => ?_
      refine CW.region fun kR13 kr13 => ?_  -- region 5
      refine WL.ev (Ev.assign rfl) rfl ?_
      refine WL.nil (kr13 _ _ _ ?_)
      refine kh12 _ _ _ ?_
      refine CW.ret ?_
      refine bodyA.ret1 rfl rfl ?_
      exact ⟨by rw [cmpI, if_neg (by omega), if_pos hc2], rfl⟩
    ·
      simp only [decide_eq_true_eq, decide_eq_false_iff_not, Decidable.not_not, Bool.and_eq_true, Bool.or_eq_true, Bool.not_eq_true', ne_eq, Int.not_lt, Int.not_le] at hc2
      refine CW.skip ?_
      refine kh5 _ _ _ ?_
      refine CW.seq fun kK14 kh14 => ?_
      refine CW.region fun kR15 kr15 => ?_  -- region 6
      refine WL.ev (Ev.assign rfl) rfl ?_
      refine WL.nil (kr15 _ _ _ ?_)
      refine kh14 _ _ _ ?_
      refine CW.ret ?_
      refine bodyA.ret1 rfl rfl ?_
      exact ⟨by rw [cmpI, if_neg (by omega), if_neg (by omega)], rfl⟩

theorem steelyardref01_Bits_spec (b : Nat) (hb : b < 18446744073709551616) (w : World) : Ret Try.prog 39 [.float .f64 b] w fun v w' => v = .int .u64 (canon b : Nat) ∧ w = w' := by
  refine Ret.enter Try.func39 rfl rfl ?_
  refine CW.seq fun kK1 kh1 => ?_
  refine CW.region fun kR2 kr2 => ?_  -- region 0
  refine WL.ev (Ev.assign rfl) rfl ?_
  refine WL.nil (kr2 _ _ _ ?_)
  refine kh1 _ _ _ ?_
  refine CW.seq fun kK3 kh3 => ?_
  refine CW.region fun kR4 kr4 => ?_  -- region 1
  refine WL.ev (Ev.move rfl) rfl ?_
  refine WL.ev (Ev.ext rfl (ext42 _ _)) rfl ?_
  refine WL.ev (Ev.assign rfl) rfl ?_
  refine WL.nil (kr4 _ _ _ ?_)
  refine kh3 _ _ _ ?_
  refine CW.seq fun kK5 kh5 => ?_
  refine CW.seq fun kK6 kh6 => ?_
  refine CW.region fun kR7 kr7 => ?_  -- region 2
  refine WL.ev (Ev.move rfl) rfl ?_
  first | refine WL.ev (Ev.remIn rfl rfl (by omega) (by omega)) rfl ?_ | refine WL.ev (Ev.rem rfl rfl (by omega)) rfl ?_
  refine WL.ev (Ev.gtr rfl rfl) rfl ?_
  refine WL.nil (kr7 _ _ _ ?_)
  refine kh6 _ _ _ ?_
  refine CW.cond rfl (fun hc1 => ?_) (fun hc1 => ?_)  -- if 8
  ·
    simp only [decide_eq_true_eq, decide_eq_false_iff_not, Decidable.not_not, Bool.and_eq_true, Bool.or_eq_true, Bool.not_eq_true', ne_eq, Int.not_lt, Int.not_le] at hc1
    refine CW.seq fun kK8 kh8 => ?_
    refine CW.region fun kR9 kr9 => ?_  -- region 3
    refine WL.ev (Ev.assign rfl) rfl ?_
    refine WL.nil (kr9 _ _ _ ?_)
    refine kh8 _ _ _ ?_
    refine CW.ret ?_
    refine bodyA.ret1 rfl rfl ?_
    exact ⟨by rw [canon, if_pos (by simp only [isNaN, decide_eq_true_eq]; omega)]; rfl, rfl⟩
  ·
    simp only [decide_eq_true_eq, decide_eq_false_iff_not, Decidable.not_not, Bool.and_eq_true, Bool.or_eq_true, Bool.not_eq_true', ne_eq, Int.not_lt, Int.not_le] at hc1
    refine CW.skip ?_
    refine kh5 _ _ _ ?_
    refine CW.seq fun kK10 kh10 => ?_
    refine CW.region fun kR11 kr11 => ?_  -- region 4
    refine WL.ev (Ev.move rfl) rfl ?_
    refine WL.ev (Ev.assign rfl) rfl ?_
    refine WL.nil (kr11 _ _ _ ?_)
    refine kh10 _ _ _ ?_
    refine CW.ret ?_
    refine bodyA.ret1 rfl rfl ?_
    exact ⟨by rw [canon, if_neg (by simp only [isNaN, decide_eq_true_eq]; omega)], rfl⟩

theorem steelyardref01_place_spec (b : Nat) (hb : b < 18446744073709551616) (w : World) : Ret Try.prog 38 [.float .f64 b] w fun v w' => v = .int .i64 (place b) ∧ w = w' := by
  refine Ret.enter Try.func38 rfl rfl ?_
  refine CW.seq fun kK1 kh1 => ?_
  refine CW.region fun kR2 kr2 => ?_  -- region 0
  refine WL.ev (Ev.assign rfl) rfl ?_
  refine WL.nil (kr2 _ _ _ ?_)
  refine kh1 _ _ _ ?_
  refine CW.seq fun kK3 kh3 => ?_
  refine CW.region fun kR4 kr4 => ?_  -- region 1
  refine WL.ev (Ev.move rfl) rfl ?_
  refine WL.call hasF39 rfl rfl (steelyardref01_Bits_spec _ hb _) fun v w1 h => ?_
  obtain ⟨rfl, rfl⟩ := h
  refine WL.ev (Ev.assign rfl) rfl ?_
  refine WL.nil (kr4 _ _ _ ?_)
  refine kh3 _ _ _ ?_
  refine CW.seq fun kK5 kh5 => ?_
  refine CW.seq fun kK6 kh6 => ?_
  refine CW.region fun kR7 kr7 => ?_  -- region 2
  refine WL.ev (Ev.move rfl) rfl ?_
  refine WL.ev (Ev.geq rfl rfl) rfl ?_
  refine WL.nil (kr7 _ _ _ ?_)
  refine kh6 _ _ _ ?_
  refine CW.cond rfl (fun hc1 => ?_) (fun hc1 => ?_)  -- if 7
  ·
    simp only [decide_eq_true_eq, decide_eq_false_iff_not, Decidable.not_not, Bool.and_eq_true, Bool.or_eq_true, Bool.not_eq_true', ne_eq, Int.not_lt, Int.not_le] at hc1
    refine CW.seq fun kK8 kh8 => ?_
    refine CW.region fun kR9 kr9 => ?_  -- region 3
    refine WL.ev (Ev.move rfl) rfl ?_
    refine WL.ev (Ev.sub rfl rfl) rfl ?_
    refine WL.ev (Ev.conv rfl rfl) rfl ?_
    first | refine WL.ev (Ev.subIn rfl rfl (by omega)) rfl ?_ | refine WL.ev (Ev.sub rfl rfl) rfl ?_
    refine WL.ev (Ev.assign rfl) rfl ?_
    refine WL.nil (kr9 _ _ _ ?_)
    refine kh8 _ _ _ ?_
    refine CW.ret ?_
    refine bodyA.ret1 rfl rfl ?_
    exact ⟨by rw [place_neg b hb hc1], rfl⟩
  ·
    simp only [decide_eq_true_eq, decide_eq_false_iff_not, Decidable.not_not, Bool.and_eq_true, Bool.or_eq_true, Bool.not_eq_true', ne_eq, Int.not_lt, Int.not_le] at hc1
    refine CW.skip ?_
    refine kh5 _ _ _ ?_
    refine CW.seq fun kK10 kh10 => ?_
    refine CW.region fun kR11 kr11 => ?_  -- region 4
    refine WL.ev (Ev.move rfl) rfl ?_
    refine WL.ev (Ev.conv rfl rfl) rfl ?_
    refine WL.ev (Ev.assign rfl) rfl ?_
    refine WL.nil (kr11 _ _ _ ?_)
    refine kh10 _ _ _ ?_
    refine CW.ret ?_
    refine bodyA.ret1 rfl rfl ?_
    exact ⟨by rw [place_pos b hb hc1], rfl⟩

theorem steelyardref01_Order_spec (a b : Nat) (ha : a < 18446744073709551616) (hb : b < 18446744073709551616) (w : World) : Ret Try.prog 16 [.float .f64 a, .float .f64 b] w fun v w' => v = .int .i64 (cmpI (place a) (place b)) ∧ w = w' := by
  refine Ret.enter Try.func16 rfl rfl ?_
  refine CW.seq fun kK1 kh1 => ?_
  refine CW.region fun kR2 kr2 => ?_  -- region 0
  refine WL.ev (Ev.assign rfl) rfl ?_
  refine WL.nil (kr2 _ _ _ ?_)
  refine kh1 _ _ _ ?_
  refine CW.seq fun kK3 kh3 => ?_
  refine CW.region fun kR4 kr4 => ?_  -- region 1
  refine WL.ev (Ev.move rfl) rfl ?_
  refine WL.call hasF38 rfl rfl (steelyardref01_place_spec _ ha _) fun v w1 h => ?_
  obtain ⟨rfl, rfl⟩ := h
  refine WL.ev (Ev.assign rfl) rfl ?_
  refine WL.nil (kr4 _ _ _ ?_)
  refine kh3 _ _ _ ?_
  refine CW.seq fun kK5 kh5 => ?_
  refine CW.region fun kR6 kr6 => ?_  -- region 2
  refine WL.ev (Ev.move rfl) rfl ?_
  refine WL.call hasF38 rfl rfl (steelyardref01_place_spec _ hb _) fun v w2 h => ?_
  obtain ⟨rfl, rfl⟩ := h
  refine WL.ev (Ev.assign rfl) rfl ?_
  refine WL.nil (kr6 _ _ _ ?_)
  refine kh5 _ _ _ ?_
  refine CW.seq fun kK7 kh7 => ?_
  refine CW.seq fun kK8 kh8 => ?_
  refine CW.region fun kR9 kr9 => ?_  -- region 3
  refine WL.ev (Ev.move rfl) rfl ?_
  refine WL.ev (Ev.move rfl) rfl ?_
  refine WL.ev (Ev.lss rfl rfl) rfl ?_
  refine WL.nil (kr9 _ _ _ ?_)
  refine kh8 _ _ _ ?_
  refine CW.cond rfl (fun hc1 => ?_) (fun hc1 => ?_)  -- if 13
  ·
    simp only [decide_eq_true_eq, decide_eq_false_iff_not, Decidable.not_not, Bool.and_eq_true, Bool.or_eq_true, Bool.not_eq_true', ne_eq, Int.not_lt, Int.not_le] at hc1
    refine CW.seq fun kK10 kh10 => ?_
    refine CW.region fun kR11 kr11 => ?_  -- region 4
    refine WL.ev (Ev.assign rfl) rfl ?_
    refine WL.nil (kr11 _ _ _ ?_)
    refine kh10 _ _ _ ?_
    refine CW.ret ?_
    refine bodyA.ret1 rfl rfl ?_
    exact ⟨by rw [cmpI, if_pos hc1], rfl⟩
  ·
    simp only [decide_eq_true_eq, decide_eq_false_iff_not, Decidable.not_not, Bool.and_eq_true, Bool.or_eq_true, Bool.not_eq_true', ne_eq, Int.not_lt, Int.not_le] at hc1
    refine CW.skip ?_
    refine kh7 _ _ _ ?_
    refine CW.seq fun kK12 kh12 => ?_
    refine CW.seq fun kK13 kh13 => ?_
    refine CW.region fun kR14 kr14 => ?_  -- region 5
    refine WL.ev (Ev.move rfl) rfl ?_
    refine WL.ev (Ev.move rfl) rfl ?_
    refine WL.ev (Ev.gtr rfl rfl) rfl ?_
    refine WL.nil (kr14 _ _ _ ?_)
    refine kh13 _ _ _ ?_
    refine CW.cond rfl (fun hc2 => ?_) (fun hc2 => ?_)  -- if 16
    ·
      simp only [decide_eq_true_eq, decide_eq_false_iff_not, Decidable.not_not, Bool.and_eq_true, Bool.or_eq_true, Bool.not_eq_true', ne_eq, Int.not_lt, Int.not_le] at hc2
      refine CW.seq fun kK15 kh15 => ?_
      refine CW.region fun kR16 kr16 => ?_  -- region 6
      refine WL.ev (Ev.assign rfl) rfl ?_
      refine WL.nil (kr16 _ _ _ ?_)
      refine kh15 _ _ _ ?_
      refine CW.ret ?_
      refine bodyA.ret1 rfl rfl ?_
      exact ⟨by rw [cmpI, if_neg (by omega), if_pos hc2], rfl⟩
    ·
      simp only [decide_eq_true_eq, decide_eq_false_iff_not, Decidable.not_not, Bool.and_eq_true, Bool.or_eq_true, Bool.not_eq_true', ne_eq, Int.not_lt, Int.not_le] at hc2
      refine CW.skip ?_
      refine kh12 _ _ _ ?_
      refine CW.seq fun kK17 kh17 => ?_
      refine CW.region fun kR18 kr18 => ?_  -- region 7
      refine WL.ev (Ev.assign rfl) rfl ?_
      refine WL.nil (kr18 _ _ _ ?_)
      refine kh17 _ _ _ ?_
      refine CW.ret ?_
      refine bodyA.ret1 rfl rfl ?_
      exact ⟨by rw [cmpI, if_neg (by omega), if_neg (by omega)], rfl⟩

theorem steelyardref01_Same_spec (a b : Nat) (ha : a < 18446744073709551616) (hb : b < 18446744073709551616) (w : World) : Ret Try.prog 17 [.float .f64 a, .float .f64 b] w fun v w' => v = .bool (decide (canon a = canon b)) ∧ w = w' := by
  refine Ret.enter Try.func17 rfl rfl ?_
  refine CW.seq fun kK1 kh1 => ?_
  refine CW.region fun kR2 kr2 => ?_  -- region 0
  refine WL.ev (Ev.assign rfl) rfl ?_
  refine WL.nil (kr2 _ _ _ ?_)
  refine kh1 _ _ _ ?_
  refine CW.seq fun kK3 kh3 => ?_
  refine CW.region fun kR4 kr4 => ?_  -- region 1
  refine WL.ev (Ev.move rfl) rfl ?_
  refine WL.call hasF39 rfl rfl (steelyardref01_Bits_spec _ ha _) fun v w1 h => ?_
  obtain ⟨rfl, rfl⟩ := h
  refine WL.ev (Ev.move rfl) rfl ?_
  refine WL.call hasF39 rfl rfl (steelyardref01_Bits_spec _ hb _) fun v w2 h => ?_
  obtain ⟨rfl, rfl⟩ := h
  refine WL.ev (Ev.eql rfl rfl) rfl ?_
  refine WL.ev (Ev.assign rfl) rfl ?_
  refine WL.nil (kr4 _ _ _ ?_)
  refine kh3 _ _ _ ?_
  refine CW.ret ?_
  refine bodyA.ret1 rfl rfl ?_
  exact ⟨by congr 1; rw [decide_eq_decide]; omega, rfl⟩

theorem steelyardref01_Of_spec (b : Int) (w : World) : Ret Try.prog 20 [.int .u64 b] w fun v w' => v = .float .f64 b.toNat ∧ w = w' := by
  refine Ret.enter Try.func20 rfl rfl ?_
  refine CW.seq fun kK1 kh1 => ?_
  refine CW.region fun kR2 kr2 => ?_  -- region 0
  refine WL.ev (Ev.assign rfl) rfl ?_
  refine WL.nil (kr2 _ _ _ ?_)
  refine kh1 _ _ _ ?_
  refine CW.seq fun kK3 kh3 => ?_
  refine CW.region fun kR4 kr4 => ?_  -- region 1
  refine WL.ev (Ev.move rfl) rfl ?_
  refine WL.ev (Ev.ext rfl (ext34 _ _)) rfl ?_
  refine WL.ev (Ev.assign rfl) rfl ?_
  refine WL.nil (kr4 _ _ _ ?_)
  refine kh3 _ _ _ ?_
  refine CW.ret ?_
  refine bodyA.ret1 rfl rfl ?_
  exact ⟨rfl, rfl⟩

theorem steelyardref03_Alike_spec (a b : Nat) (w : World) : Ret Try.prog 29 [.float .f64 a, .float .f64 b] w fun v w' => v = .bool (decide (a = b)) ∧ w = w' := by
  refine Ret.enter Try.func29 rfl rfl ?_
  refine CW.seq fun kK1 kh1 => ?_
  refine CW.region fun kR2 kr2 => ?_  -- region 0
  refine WL.ev (Ev.assign rfl) rfl ?_
  refine WL.nil (kr2 _ _ _ ?_)
  refine kh1 _ _ _ ?_
  refine CW.seq fun kK3 kh3 => ?_
  refine CW.region fun kR4 kr4 => ?_  -- region 1
  refine WL.ev (Ev.move rfl) rfl ?_
  refine WL.ev (Ev.ext rfl (ext42 _ _)) rfl ?_
  refine WL.ev (Ev.move rfl) rfl ?_
  refine WL.ev (Ev.ext rfl (ext42 _ _)) rfl ?_
  refine WL.ev (Ev.eql rfl rfl) rfl ?_
  refine WL.ev (Ev.assign rfl) rfl ?_
  refine WL.nil (kr4 _ _ _ ?_)
  refine kh3 _ _ _ ?_
  refine CW.ret ?_
  refine bodyA.ret1 rfl rfl ?_
  exact ⟨by congr 1; rw [decide_eq_decide]; omega, rfl⟩

end Go.Proofs.Ytjlmenmlpmfokaa
