/- Numbers of 64 bits as plain numbers: which are NaN, their order. No condition. -/
import GoSem.Core.Float
namespace Go.Proofs.Ytjlmenmlpmfokaa.Fl
set_option linter.unusedSimpArgs false
set_option linter.unusedVariables false
open Go

def isNaN (b : Nat) : Bool := decide (9218868437227405312 < b % 9223372036854775808)
def canon (b : Nat) : Nat := if isNaN b then 9221120237041090560 else b
/-- The program's key. -/
def key (b : Nat) : Int := if isNaN b then 9223372036854775807 else if 9223372036854775808 ≤ b then -1 - ((b : Int) - 9223372036854775808) else b
/-- The reference's place. -/
def place (b : Nat) : Int := if 9223372036854775808 ≤ canon b then -1 - ((canon b : Int) - 9223372036854775808) else canon b
def cmpI (a b : Int) : Int := if a < b then -1 else if b < a then 1 else 0

theorem double_sign : Ieee.double.signWeight = 9223372036854775808 := by decide
theorem double_inf : Ieee.double.infRung = 9218868437227405312 := by decide
theorem double_bin : Ieee.double.binade = 4503599627370496 := by decide

theorem cmp_self (x : Int) : compare x x = .eq := by simp
theorem cmpN_self (x : Nat) : compare x x = .eq := by simp
theorem order_self (b : Nat) : (FloatKind.f64.format.order b b != some .eq) = isNaN b := by
  show ((Ieee.double.read b).order (Ieee.double.read b) != some .eq) = isNaN b
  unfold Ieee.Format.read isNaN
  simp only [double_sign, double_inf, double_bin]
  split
  · rename_i h
    have h2 : decide (9218868437227405312 < b % 9223372036854775808) = false := by simp; omega
    rw [h2]
    simp [Ieee.Datum.order, cmp_self]
  · split
    · rename_i h h'
      have h2 : decide (9218868437227405312 < b % 9223372036854775808) = false := by simp; omega
      rw [h2]
      simp [Ieee.Datum.order, cmp_self]
    · split
      · rename_i h h' h3
        have h2 : decide (9218868437227405312 < b % 9223372036854775808) = false := by simp; omega
        rw [h2]
        simp [Ieee.Datum.order, cmpN_self]
      · rename_i h h' h3
        have h2 : decide (9218868437227405312 < b % 9223372036854775808) = true := by simp; omega
        rw [h2]
        simp [Ieee.Datum.order]
theorem order_self_eq (b : Nat) : (FloatKind.f64.format.order b b == some .eq) = !isNaN b := by
  rw [← order_self b]; simp [bne]

theorem signed_zero (k : Nat) : Ieee.signed false 0 k = 0 := by simp [Ieee.signed]
theorem signed_eq (s : Bool) (m k : Nat) : Ieee.signed s m k = 0 ↔ m = 0 := by
  have hp : 0 < 2 ^ k := Nat.two_pow_pos k
  have hz : m * 2 ^ k = 0 ↔ m = 0 := by
    constructor
    · intro h; rcases Nat.mul_eq_zero.1 h with h | h
      · exact h
      · omega
    · intro h; simp [h]
  unfold Ieee.signed
  rw [Nat.shiftLeft_eq]
  split <;> omega
theorem cmp_eq (x y : Int) : (some (compare x y) == some Ordering.eq) = decide (x = y) := by
  rw [Bool.eq_iff_iff]; simp
theorem order_num (s : Bool) (m : Nat) (i : Int) (j : Int) : (Ieee.Datum.order (.number s m i) (.number false 0 j) == some .eq) = decide (m = 0) := by
  unfold Ieee.Datum.order
  simp only [signed_zero]
  rw [cmp_eq, Bool.eq_iff_iff]
  simp [signed_eq]
theorem read_zero : Ieee.double.read 0 = .number false 0 Ieee.double.leastPlace := by decide
theorem order_zero (b : Nat) : (FloatKind.f64.format.order b 0 == some .eq) = decide (b % 9223372036854775808 = 0) := by
  show ((Ieee.double.read b).order (Ieee.double.read 0) == some .eq) = _
  rw [read_zero]
  unfold Ieee.Format.read
  simp only [double_sign, double_inf, double_bin]
  split
  · rw [order_num]
  · split
    · rename_i h h'
      rw [order_num, Bool.eq_iff_iff]
      simp; omega
    · split
      · rename_i h h' h3
        have h2 : decide (b % 9223372036854775808 = 0) = false := by simp; omega
        rw [h2]
        simp only [Ieee.Datum.order]
        split <;> rfl
      · rename_i h h' h3
        have h2 : decide (b % 9223372036854775808 = 0) = false := by simp; omega
        rw [h2]
        rfl
theorem isNaN_canon (b : Nat) : isNaN (canon b) = isNaN b := by
  unfold canon
  split
  · rename_i h; rw [h]; decide
  · rename_i h; simp
theorem canon_canon (b : Nat) : canon (canon b) = canon b := by
  unfold canon
  by_cases h : isNaN b
  · simp only [h, if_true]; decide
  · simp [h]
theorem canon_lt {b : Nat} (h : b < 18446744073709551616) : canon b < 18446744073709551616 := by
  unfold canon; split <;> omega

theorem key_pos_eq {b : Nat} (hn : isNaN b = false) (h : b < 9223372036854775808) : key b = b := by
  unfold key; rw [hn]; simp; omega
theorem key_neg_eq {b : Nat} (hn : isNaN b = false) (h : 9223372036854775808 ≤ b) : key b = -1 - ((b : Int) - 9223372036854775808) := by
  unfold key; rw [hn]; simp; omega
end Go.Proofs.Ytjlmenmlpmfokaa.Fl
