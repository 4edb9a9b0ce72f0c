/- Part 6 of what the proof rests on. No condition. -/
import Derived.Test.YtknahdghcfdmgaaGreatDoorQs5
import Derived.Shelf.SlGeneric
import Derived.Shelf.SlSortCmp.Whole1
import Derived.Ground.SlsfProg
import Derived.Test.YtknahdghcfdmgaaGreatDoorProg
import Derived.Laws.StructEq
set_option linter.unusedVariables false
set_option linter.unusedSimpArgs false
set_option maxRecDepth 100000
set_option maxHeartbeats 4000000
namespace Go.Proofs.YtknahdghcfdmgaaGreatDoor
/- The nearest number to a value; forms of sums, put against one another. No condition. -/
section
open Go Sx Wd
set_option exponentiation.threshold 9000

/-! ### Forms of sums -/
theorem formD_sumD {S : Int} (h : InB S) : formD (sumD S).neg (sumD S).m (sumD S).e = some (sumD S) := formD_self (rsumD_ok h)
theorem negF_sum {S : Int} (h : InB S) : formD (!(sumD S).neg) (sumD S).m (sumD S).e = some (sumD (-S)) := by
  by_cases h0 : S = 0
  · subst h0; rfl
  · obtain ⟨a, h1, h2, h3⟩ := sumD_up h h0
    rw [← formD_scale (k := a) (f := -2148) (by omega), ← h1, h3, show S.natAbs = (-S).natAbs by omega]
    exact sumD_some h.neg (neg := !decide (S < 0)) (fun hn => by rw [← decide_not]; exact decide_eq_decide.2 (by omega))
theorem mulD_int {S : Int} {n : Nat} (h : InB S) (hn : n ≠ 0) (hn2 : n < 18446744073709551616) (hP : InB (S * (n : Int))) : mulD (sumD S) (intD (n : Int)) = some (sumD (S * (n : Int))) := by
  have hok := rsumD_ok h
  have hok2 := intD_ok (n := (n : Int)) (by omega)
  rw [← mulD_form hok hok2]
  obtain ⟨t, q1, q2, q3⟩ := intD_form hn hn2
  by_cases h0 : S = 0
  · subst h0
    rw [show (sumD 0).m = 0 from rfl, Nat.zero_mul, formD_zero, Int.zero_mul]; rfl
  · obtain ⟨a, h1, h2, h3⟩ := sumD_up h h0
    have hS : S * (n : Int) ≠ 0 := by
      intro q
      rcases Int.mul_eq_zero.1 q with q | q
      · exact h0 q
      · omega
    have hv : (S * (n : Int)).natAbs = (sumD S).m * (intD (n : Int)).m * 2 ^ (a + t) := by
      rw [Int.natAbs_mul, Int.natAbs_natCast, h1, Nat.pow_add]
      calc (sumD S).m * 2 ^ a * n = (sumD S).m * 2 ^ a * ((intD (n : Int)).m * 2 ^ t) := by rw [← q1]
        _ = _ := by simp only [Nat.mul_comm, Nat.mul_left_comm, Nat.mul_assoc]
    rw [← formD_scale (k := a + t) (f := -2148) (by omega), ← hv, h3, q3]
    refine sumD_some hP fun _ => ?_
    have : (S * (n : Int) < 0) ↔ S < 0 := by
      constructor
      · intro q
        apply Int.lt_of_not_ge; intro q2
        have := Int.mul_nonneg q2 (show (0 : Int) ≤ n by omega)
        omega
      · intro q; exact Int.mul_neg_of_neg_of_pos q (by omega)
    rw [Bool.bne_false]
    exact decide_eq_decide.2 this.symm
theorem splitP_exp {x : Nat} (h : (splitP x).cls = 1 ∨ (splitP x).cls = 2) : -1074 ≤ (splitP x).exp := by
  unfold splitP at h ⊢
  by_cases a : x / 4503599627370496 % 2048 = 2047 ∧ x % 4503599627370496 ≠ 0
  · rw [if_pos a] at h; simp at h
  · rw [if_neg a] at h ⊢
    by_cases b : x / 4503599627370496 % 2048 = 2047
    · rw [if_pos b] at h; simp at h
    · rw [if_neg b] at h ⊢
      by_cases d : 0 < x / 4503599627370496 % 2048
      · rw [if_pos d] at h ⊢; dsimp only; omega
      · rw [if_neg d] at h ⊢
        by_cases f : 0 < x % 4503599627370496
        · rw [if_pos f]; simp
        · rw [if_neg f]; simp
theorem fin_form {x : Nat} (h : (splitP x).cls = 1 ∨ (splitP x).cls = 2) : formD (splitP x).neg (splitP x).frac (splitP x).exp = some (sumD (fvI x)) := by
  have he := splitP_exp h
  rw [← formD_scale (k := ((splitP x).exp + 2148).toNat) (f := -2148) (by omega)]
  have e1 : fvN x = (splitP x).frac * 2 ^ ((splitP x).exp + 2148).toNat := by unfold fvN; rw [if_pos h]
  rw [← e1, ← rfvI_abs]
  refine sumD_some (fvI_in x) fun hn => ?_
  unfold fvI at hn ⊢
  cases hg : (splitP x).neg
  · rw [if_neg (by decide)]; exact (decide_eq_false (by omega)).symm
  · rw [hg, if_pos rfl] at hn
    rw [if_pos rfl]; exact (decide_eq_true (by omega)).symm
theorem fv_small (x : Nat) {n : Nat} (hn : n ≤ 1099511627776) : InB (fvI x * (n : Int)) := by
  have h := sumI_in (l := List.replicate n x) (by simpa using hn)
  rw [sum_like, Int.mul_comm] at h
  exact h
theorem InB.bound {S : Int} (h : S.natAbs < 2 ^ 4230) : InB S := by
  have h2 : 2 ^ 4230 < 16384 * BB := by rw [BB_pow]; exact Nat.pow_lt_pow_right (by decide) (by decide)
  unfold InB
  generalize 16384 * BB = M at *
  generalize 2 ^ 4230 = N at *
  omega
end

/- Quantiles as plain numbers. No condition. -/
section
open Go Sx Wd Fl
set_option exponentiation.threshold 9000

/-- What is amiss with a list. -/
def refuseE (l : List Nat) : Int := if 65536 < l.length then 2 else if ¬ finL l then 30 else if l = [] then 3 else 0
theorem refuse_ok {l : List Nat} (h : refuseE l = 0) : l.length ≤ 65536 ∧ finL l ∧ l ≠ [] := by
  unfold refuseE at h
  split at h
  · cases h
  · split at h
    · cases h
    · split at h
      · cases h
      · rename_i h1 h2 h3; exact ⟨by omega, Classical.not_not.1 h2, h3⟩
theorem refuse_three (l : List Nat) : refuseE l = 0 ∨ refuseE l = 2 ∨ refuseE l = 30 ∨ refuseE l = 3 := by
  unfold refuseE; split
  · exact .inr (.inl rfl)
  · split
    · exact .inr (.inr (.inl rfl))
    · split
      · exact .inr (.inr (.inr rfl))
      · exact .inl rfl
/-- What lies num by den of the way from x to y. -/
def lineV (x y num den : Nat) : Int := fvI x * ((den - num : Nat) : Int) + fvI y * (num : Int)
def lineR (x y num den : Nat) (mode : Int) (bits : Nat) (e : Int) : Prop := toldR (sumD (lineV x y num den)) den (cntP [x, y]) mode bits e
/-- The number at a share of a list in order. -/
def atR (s : List Nat) (num den : Nat) (rule mode : Int) (bits : Nat) (e : Int) : Prop :=
  if (s.length - 1) * num % den = 0 ∨ rule = 0 then bits = s.getD ((s.length - 1) * num / den) 0 ∧ e = 0
  else if rule = 3 then midR (s.getD ((s.length - 1) * num / den) 0) (s.getD ((s.length - 1) * num / den + 1) 0) mode bits e
  else if rule = 4 then lineR (s.getD ((s.length - 1) * num / den) 0) (s.getD ((s.length - 1) * num / den + 1) 0) ((s.length - 1) * num % den) den mode bits e
  else if rule = 2 ∧ (2 * ((s.length - 1) * num % den) < den ∨ (2 * ((s.length - 1) * num % den) = den ∧ (s.length - 1) * num / den % 2 = 0)) then bits = s.getD ((s.length - 1) * num / den) 0 ∧ e = 0
  else bits = s.getD ((s.length - 1) * num / den + 1) 0 ∧ e = 0
theorem at_unique {s : List Nat} {num den : Nat} {rule mode : Int} {b b' : Nat} {e e' : Int} (h : atR s num den rule mode b e) (h' : atR s num den rule mode b' e') : b = b' ∧ e = e' := by
  unfold atR at h h'
  split at h
  · rename_i q; rw [if_pos q] at h'; exact ⟨h.1.trans h'.1.symm, h.2.trans h'.2.symm⟩
  · rename_i q; rw [if_neg q] at h'
    split at h
    · rename_i q; rw [if_pos q] at h'; exact mid_unique h h'
    · rename_i q; rw [if_neg q] at h'
      split at h
      · rename_i q; rw [if_pos q] at h'; exact told_unique h h'
      · rename_i q; rw [if_neg q] at h'
        split at h
        · rename_i q; rw [if_pos q] at h'; exact ⟨h.1.trans h'.1.symm, h.2.trans h'.2.symm⟩
        · rename_i q; rw [if_neg q] at h'; exact ⟨h.1.trans h'.1.symm, h.2.trans h'.2.symm⟩
/-- May a share, a rule, a mode be asked? -/
def askQ (num den rule mode : Int) : Prop := (0 ≤ mode ∧ mode ≤ 4) ∧ (0 ≤ rule ∧ rule ≤ 4) ∧ (1 ≤ den ∧ den ≤ 2147483648) ∧ 0 ≤ num ∧ num ≤ den
instance (num den rule mode : Int) : Decidable (askQ num den rule mode) := by unfold askQ; exact inferInstance
/-- What Quantile answers. -/
def quantR (l : List Nat) (num den rule mode : Int) (bits : Nat) (e : Int) : Prop :=
  (¬ askQ num den rule mode ∧ bits = 0 ∧ e = 1) ∨ (askQ num den rule mode ∧ ((refuseE l ≠ 0 ∧ bits = 0 ∧ e = refuseE l) ∨ (refuseE l = 0 ∧ atR (sortP l) num.toNat den.toNat rule mode bits e)))
/-- What Several answers: the numbers, or an error. -/
def partQ (parts rule mode : Int) : Prop := (0 ≤ mode ∧ mode ≤ 4) ∧ (0 ≤ rule ∧ rule ≤ 4) ∧ 1 ≤ parts ∧ parts ≤ 65536
instance (parts rule mode : Int) : Decidable (partQ parts rule mode) := by unfold partQ; exact inferInstance
def sevL (s : List Nat) (parts : Nat) (rule mode : Int) (L : List Nat) : Prop := L.length = parts + 1 ∧ ∀ k, k ≤ parts → ∃ e, atR s k parts rule mode (L.getD k 0) e
def sevR (l : List Nat) (parts rule mode : Int) (L : List Nat) (e : Int) : Prop :=
  (¬ partQ parts rule mode ∧ L = [] ∧ e = 1) ∨ (partQ parts rule mode ∧ ((refuseE l ≠ 0 ∧ L = [] ∧ e = refuseE l) ∨ (refuseE l = 0 ∧ e = 0 ∧ sevL (sortP l) parts.toNat rule mode L)))
theorem sev_unique {l : List Nat} {parts rule mode : Int} {b b' : List Nat} {e e' : Int} (h : sevR l parts rule mode b e) (h' : sevR l parts rule mode b' e') : b = b' ∧ e = e' := by
  rcases h with ⟨a, b1, e1⟩ | ⟨a, h⟩ <;> rcases h' with ⟨a', b2, e2⟩ | ⟨a', h'⟩
  · exact ⟨b1.trans b2.symm, e1.trans e2.symm⟩
  · exact absurd a' a
  · exact absurd a a'
  · rcases h with ⟨s, b1, e1⟩ | ⟨s, e1, h1, h2⟩ <;> rcases h' with ⟨s', b2, e2⟩ | ⟨s', e2, h1', h2'⟩
    · exact ⟨b1.trans b2.symm, e1.trans e2.symm⟩
    · exact absurd s' s
    · exact absurd s s'
    · refine ⟨?_, e1.trans e2.symm⟩
      refine List.ext_getElem (h1.trans h1'.symm) fun i i1 i2 => ?_
      obtain ⟨x, hx⟩ := h2 i (by omega)
      obtain ⟨y, hy⟩ := h2' i (by omega)
      have := (at_unique hx hy).1
      simpa [List.getD_eq_getElem?_getD, i1, i2] using this
/-! ### Order by keys, order by values -/
theorem key_val {a b : Nat} (ha : (splitP a).cls ≤ 2) (hb : (splitP b).cls ≤ 2) (ha64 : a < 18446744073709551616) (hb64 : b < 18446744073709551616) (h : key a ≤ key b) : fvI a ≤ fvI b := by
  rw [fvI_nz ha ha64, fvI_nz hb hb64]
  unfold key at h
  rw [fin_num ha, fin_num hb] at h
  simp only [Bool.false_eq_true, if_false] at h
  by_cases q1 : 9223372036854775808 ≤ a <;> by_cases q2 : 9223372036854775808 ≤ b
  · rw [if_pos q1, if_pos q2] at *
    have := Nat.mul_le_mul_right (2 ^ 1074) (nz_le (show b % 9223372036854775808 ≤ a % 9223372036854775808 by omega))
    omega
  · rw [if_pos q1, if_neg q2] at *; omega
  · rw [if_neg q1, if_pos q2] at *; omega
  · rw [if_neg q1, if_neg q2] at *
    have := Nat.mul_le_mul_right (2 ^ 1074) (nz_le (show a % 9223372036854775808 ≤ b % 9223372036854775808 by omega))
    omega
theorem srt_getD {s : List Nat} (h : Srt s) {i j : Nat} (hij : i ≤ j) (hj : j < s.length) : key (s.getD i 0) ≤ key (s.getD j 0) := by
  rw [List.getD_eq_getElem?_getD, List.getD_eq_getElem?_getD, List.getElem?_eq_getElem hj, List.getElem?_eq_getElem (show i < s.length by omega)]
  rcases Nat.lt_or_eq_of_le hij with q | q
  · exact List.pairwise_iff_getElem.1 h i j (by omega) hj q
  · subst q; exact Int.le_refl _
theorem finL_getD2 {l : List Nat} (h : finL l) {i : Nat} (hi : i < l.length) : (splitP (l.getD i 0)).cls ≤ 2 := h _ (by rw [List.getD_eq_getElem?_getD, List.getElem?_eq_getElem hi]; exact List.getElem_mem _)
theorem lt_getD2 {l : List Nat} (h : ∀ x ∈ l, x < 18446744073709551616) (i : Nat) : l.getD i 0 < 18446744073709551616 := by
  by_cases hi : i < l.length
  · exact h _ (by rw [List.getD_eq_getElem?_getD, List.getElem?_eq_getElem hi]; exact List.getElem_mem _)
  · rw [List.getD_eq_getElem?_getD, List.getElem?_eq_none (by omega)]; decide
end

/- Quantiles: from one number of the list to the next, rising. No condition. -/
section
open Go Sx Wd Fl
set_option exponentiation.threshold 9000

theorem fv_le (x : Nat) : (fvI x).natAbs ≤ 2 ^ 3172 := by
  have h := sumI_le [x]
  simpa [sumI] using h
theorem lineV_le {x y num den : Nat} (h : num ≤ den) : (lineV x y num den).natAbs ≤ den * 2 ^ 3172 := by
  unfold lineV
  have h1 := fv_le x
  have h2 := fv_le y
  have a1 : (fvI x * ((den - num : Nat) : Int)).natAbs ≤ (den - num) * 2 ^ 3172 := by
    rw [Int.natAbs_mul, Int.natAbs_natCast, Nat.mul_comm]; exact Nat.mul_le_mul_left _ h1
  have a2 : (fvI y * (num : Int)).natAbs ≤ num * 2 ^ 3172 := by
    rw [Int.natAbs_mul, Int.natAbs_natCast, Nat.mul_comm]; exact Nat.mul_le_mul_left _ h2
  have a3 : (den - num) * 2 ^ 3172 + num * 2 ^ 3172 = den * 2 ^ 3172 := by rw [← Nat.add_mul]; congr 1; omega
  have := Int.natAbs_add_le (fvI x * ((den - num : Nat) : Int)) (fvI y * (num : Int))
  omega
theorem in_of_le {S : Int} {n : Nat} (h : S.natAbs ≤ n * 2 ^ 3172) (hn : n ≤ 1099511627776) : InB S := by
  refine InB.bound (Nat.lt_of_le_of_lt (Nat.le_trans h (Nat.mul_le_mul_right _ hn)) ?_)
  have : (1099511627776 : Nat) * 2 ^ 3172 = 2 ^ 3212 := by rw [show (1099511627776 : Nat) = 2 ^ 40 from rfl, ← Nat.pow_add]
  rw [this]
  exact Nat.pow_lt_pow_right (by decide) (by decide)
theorem lineV_in {x y num den : Nat} (h : num ≤ den) (hd : den ≤ 2147483648) : InB (lineV x y num den) := in_of_le (lineV_le h) (by omega)
theorem lineV_between {x y num den : Nat} (h : num ≤ den) (hxy : fvI x ≤ fvI y) : (den : Int) * fvI x ≤ lineV x y num den ∧ lineV x y num den ≤ (den : Int) * fvI y := by
  unfold lineV
  have e : (den : Int) = ((den - num : Nat) : Int) + (num : Int) := by omega
  rw [e, Int.add_mul, Int.add_mul, Int.mul_comm (fvI x), Int.mul_comm (fvI y) (num : Int)]
  have h1 := Int.mul_le_mul_of_nonneg_left hxy (show (0 : Int) ≤ (num : Int) by omega)
  have h2 := Int.mul_le_mul_of_nonneg_left hxy (show (0 : Int) ≤ ((den - num : Nat) : Int) by omega)
  omega
/-- What a rounded ratio is: of nought, or not. -/
theorem told_val {S : Int} {n : Nat} {s : SP} {mode : Int} {b : Nat} {e : Int} (hS : InB S) (hn : n ≠ 0) (hn2 : n ≤ 1099511627776) (hm : 0 ≤ mode ∧ mode ≤ 4) (h : toldR (sumD S) n s mode b e) : e = 0 ∧ ((S = 0 ∧ (b = 0 ∨ b = 9223372036854775808)) ∨ (S ≠ 0 ∧ MeanQ S n mode b)) := by
  obtain ⟨he, hh⟩ := told_sum hS.1 hS.2 hn hn2 hm h
  refine ⟨he, ?_⟩
  rcases hh with ⟨h0, hb⟩ | hh
  · exact .inl ⟨h0, by rw [hb]; exact nought_two s mode⟩
  · exact .inr hh
theorem line_between {x y num den : Nat} {mode : Int} {b : Nat} {e : Int} (h : lineR x y num den mode b e) (hnd : num ≤ den) (hd : 1 ≤ den ∧ den ≤ 2147483648) (hm : 0 ≤ mode ∧ mode ≤ 4) (hx : (splitP x).cls ≤ 2) (hy : (splitP y).cls ≤ 2) (hx64 : x < 18446744073709551616) (hy64 : y < 18446744073709551616) (hxy : fvI x ≤ fvI y) :
    e = 0 ∧ b < 18446744073709551616 ∧ (splitP b).cls ≤ 2 ∧ fvI x ≤ fvI b ∧ fvI b ≤ fvI y := by
  obtain ⟨he, hh⟩ := told_val (lineV_in hnd hd.2) (by omega) (by omega) hm h
  obtain ⟨b1, b2⟩ := lineV_between (x := x) (y := y) hnd hxy
  refine ⟨he, ?_⟩
  obtain ⟨z1, z2, z3, z4⟩ := fv_zero
  rcases hh with ⟨h0, hb⟩ | ⟨h0, hM⟩
  · rw [h0] at b1 b2
    have c1 : fvI x ≤ 0 := by
      apply Int.le_of_not_gt; intro q
      have : 0 < (den : Int) * fvI x := Int.mul_pos (by omega) q
      omega
    have c2 : 0 ≤ fvI y := by
      apply Int.le_of_not_gt; intro q
      have : (den : Int) * fvI y < 0 := Int.mul_neg_of_pos_of_neg (by omega) q
      omega
    rcases hb with q | q
    · rw [q, z1, z3]; exact ⟨by decide, by decide, c1, c2⟩
    · rw [q, z2, z4]; exact ⟨by decide, by decide, c1, c2⟩
  · exact meanQ_between (by omega) hM h0 hx hy hx64 hy64 b1 b2
theorem mid_between {x y : Nat} {mode : Int} {b : Nat} {e : Int} (h : midR x y mode b e) (hm : 0 ≤ mode ∧ mode ≤ 4) (hx : (splitP x).cls ≤ 2) (hy : (splitP y).cls ≤ 2) (hx64 : x < 18446744073709551616) (hy64 : y < 18446744073709551616) (hxy : fvI x ≤ fvI y) :
    e = 0 ∧ b < 18446744073709551616 ∧ (splitP b).cls ≤ 2 ∧ fvI x ≤ fvI b ∧ fvI b ≤ fvI y :=
  mean_between (mid_mean h hm hx hy) (by intro z hz; simp only [List.mem_cons, List.not_mem_nil, or_false] at hz; rcases hz with rfl | rfl <;> assumption) (by simp) (by simp) hm hx hy hx64 hy64
    (by intro z hz; simp only [List.mem_cons, List.not_mem_nil, or_false] at hz; rcases hz with rfl | rfl <;> omega) (by intro z hz; simp only [List.mem_cons, List.not_mem_nil, or_false] at hz; rcases hz with rfl | rfl <;> omega)
/-! ### Rounding rises -/
/-! ### Places -/
theorem place_lt {m num den : Nat} (hd : 1 ≤ den) (hn : num ≤ den) : m * num / den ≤ m ∧ (m * num % den ≠ 0 → m * num / den + 1 ≤ m) := by
  have h1 := Nat.div_add_mod (m * num) den
  have h2 : m * num ≤ m * den := Nat.mul_le_mul_left _ hn
  have h3 : m * num / den ≤ m := by
    have := Nat.div_le_div_right (c := den) h2
    rwa [Nat.mul_div_cancel _ (by omega)] at this
  refine ⟨h3, fun hr => ?_⟩
  rcases Nat.lt_or_eq_of_le h3 with q | q
  · exact q
  · rw [q, Nat.mul_comm den m] at h1
    omega
/-- A list in order of finite numbers, one at least. -/
structure Row (s : List Nat) : Prop where
  srt : Srt s
  fin : finL s
  w : ∀ x ∈ s, x < 18446744073709551616
  pos : 0 < s.length
theorem Row.val {s : List Nat} (h : Row s) {i j : Nat} (hij : i ≤ j) (hj : j < s.length) : fvI (s.getD i 0) ≤ fvI (s.getD j 0) :=
  key_val (finL_getD2 h.fin (by omega)) (finL_getD2 h.fin hj) (lt_getD2 h.w i) (lt_getD2 h.w j) (srt_getD h.srt hij hj)
theorem Row.of {l : List Nat} (hf : finL l) (hw : ∀ x ∈ l, x < 18446744073709551616) (hne : l ≠ []) : Row (sortP l) :=
  ⟨sortP_srt l, (perm_finL (sortP_perm l)).2 hf, fun x hx => hw x ((sortP_perm l).mem_iff.1 hx), by rw [sortP_length]; exact List.length_pos_iff.2 hne⟩
/-- A quantile lies from one number to the next. -/
theorem at_between {s : List Nat} {num den : Nat} {rule mode : Int} {b : Nat} {e : Int} (h : atR s num den rule mode b e) (hs : Row s) (hn : num ≤ den) (hd : 1 ≤ den ∧ den ≤ 2147483648) (hm : 0 ≤ mode ∧ mode ≤ 4) :
    e = 0 ∧ b < 18446744073709551616 ∧ (splitP b).cls ≤ 2 ∧ fvI (s.getD ((s.length - 1) * num / den) 0) ≤ fvI b ∧ fvI b ≤ fvI (s.getD (if (s.length - 1) * num % den = 0 then (s.length - 1) * num / den else (s.length - 1) * num / den + 1) 0) := by
  obtain ⟨p1, p2⟩ := place_lt (m := s.length - 1) hd.1 hn
  have hp := hs.pos
  unfold atR at h
  have hrd : (s.length - 1) * num % den ≤ den := Nat.le_of_lt (Nat.mod_lt _ (by omega))
  generalize (s.length - 1) * num / den = i at *
  generalize (s.length - 1) * num % den = r at *
  have hi := finL_getD2 hs.fin (i := i) (by omega)
  have hi64 := lt_getD2 hs.w i
  by_cases hr : r = 0
  · rw [if_pos (.inl hr)] at h
    rw [if_pos hr, h.1]
    exact ⟨h.2, hi64, hi, Int.le_refl _, Int.le_refl _⟩
  · have hi2 := finL_getD2 hs.fin (i := i + 1) (by have := p2 hr; omega)
    have hi264 := lt_getD2 hs.w (i + 1)
    have hle := hs.val (i := i) (j := i + 1) (by omega) (by have := p2 hr; omega)
    rw [if_neg hr]
    by_cases h0 : rule = 0
    · rw [if_pos (.inr h0)] at h
      rw [h.1]; exact ⟨h.2, hi64, hi, Int.le_refl _, hle⟩
    · rw [if_neg (by rintro (q | q); exact hr q; exact h0 q)] at h
      by_cases h3 : rule = 3
      · rw [if_pos h3] at h; exact mid_between h hm hi hi2 hi64 hi264 hle
      · rw [if_neg h3] at h
        by_cases h4 : rule = 4
        · rw [if_pos h4] at h
          exact line_between h hrd hd hm hi hi2 hi64 hi264 hle
        · rw [if_neg h4] at h
          split at h
          · rw [h.1]; exact ⟨h.2, hi64, hi, Int.le_refl _, hle⟩
          · rw [h.1]; exact ⟨h.2, hi264, hi2, hle, Int.le_refl _⟩
end

/- Quantiles: a greater share, the ends, how many lie on either side. No condition. -/
section
open Go Sx Wd Fl
set_option exponentiation.threshold 9000

/-! ### The least and the greatest number, by bits -/
/-! ### How many -/
end

/- Quantiles of like numbers. No condition. -/
section
open Go Sx Wd Fl
set_option exponentiation.threshold 9000

end

/- The numbers that every statement on means asks first. No condition. -/
section
open Go Sx Wd
set_option exponentiation.threshold 9000

theorem p2148 : (0 : Int) < ((2 ^ 2148 : Nat) : Int) := by have := Nat.two_pow_pos 2148; omega
theorem meanQ_of {S n r : Nat} {mode : Int} {bits : Nat} (hn : n ≠ 0) (hr : r < 9218868437227405312) (h : 2 * nz r * (n * 2 ^ 1073) = S) (hM : MeanQ (S : Int) n mode bits) : bits = r := by
  obtain ⟨r', h1, _, hb⟩ := hM
  rw [if_neg (by omega)] at hb
  rw [hb]
  rw [Int.natAbs_natCast] at h1
  exact h1.unique (Nat.mul_pos (by omega) (Nat.two_pow_pos _)) (near_is hr (Nat.mul_pos (by omega) (Nat.two_pow_pos _)) h)
end

/- The numbers that every statement on quantiles asks first. No condition. -/
section
open Go Sx Wd Fl
set_option exponentiation.threshold 9000

def lvq : List Nat := [4621819117588971520, 4630826316843712512, 4626322717216342016, 4629137466983448576]
def lvs : List Nat := [4621819117588971520, 4626322717216342016, 4629137466983448576, 4630826316843712512]
theorem lvq_fin : finL lvq := by decide +kernel
theorem lvq_lt : ∀ x ∈ lvq, x < 18446744073709551616 := by decide
theorem lvq_sort : sortP lvq = lvs := by
  refine (sortP_eq ?_ ?_ (finL_nums lvq_fin lvq_lt)).symm
  · unfold lvs lvq
    exact (List.perm_cons _).2 ((List.Perm.cons _ (List.Perm.swap _ _ _)).trans (List.Perm.swap _ _ _))
  · unfold Srt lvs
    simp only [List.pairwise_cons, List.mem_cons, List.not_mem_nil, or_false, forall_eq_or_imp, forall_eq, List.Pairwise.nil, and_true, false_implies, implies_true]
    decide +kernel
theorem lvq_ok : refuseE lvq = 0 := by
  unfold refuseE
  rw [if_neg (by decide), if_neg (fun q => q lvq_fin), if_neg (by decide)]
theorem lvq_line : lineV 4621819117588971520 4626322717216342016 3 4 = ((70 * 2 ^ 2148 : Nat) : Int) := by decide +kernel
theorem live_quant {b : Nat} {e : Int} (h : quantR lvq 1 4 4 0 b e) : b = 4625619029774565376 ∧ e = 0 := by
  rcases h with ⟨q, _⟩ | ⟨_, ⟨q, _⟩ | ⟨_, h⟩⟩
  · exact absurd (by decide) q
  · exact absurd lvq_ok q
  · rw [lvq_sort, show (1 : Int).toNat = 1 from rfl, show (4 : Int).toNat = 4 from rfl] at h
    unfold atR at h
    rw [if_neg (by decide), if_neg (by decide), if_pos rfl] at h
    have h2 : lineR 4621819117588971520 4626322717216342016 3 4 0 b e := h
    unfold lineR at h2
    obtain ⟨he, hh⟩ := told_sum (lineV_in (by decide) (by decide)).1 (lineV_in (by decide) (by decide)).2 (by decide) (by decide) (by decide) h2
    rw [lvq_line] at hh
    rcases hh with ⟨hz, _⟩ | ⟨_, hM⟩
    · have := p2148; exact absurd hz (by rw [Int.natCast_mul]; omega)
    · exact ⟨meanQ_of (by decide) (by decide) (by decide +kernel) hM, he⟩
theorem lvq_mid : sumI [4626322717216342016, 4629137466983448576] = ((50 * 2 ^ 2148 : Nat) : Int) := by decide +kernel
theorem live_sev {L : List Nat} {e : Int} (h : sevR lvq 2 3 0 L e) : e = 0 ∧ L.length = 3 ∧ L.getD 1 0 = 4627730092099895296 := by
  rcases h with ⟨q, _⟩ | ⟨_, ⟨q, _⟩ | ⟨_, he, hl, h⟩⟩
  · exact absurd (by decide) q
  · exact absurd lvq_ok q
  · refine ⟨he, hl, ?_⟩
    obtain ⟨e1, h1⟩ := h 1 (by decide)
    rw [lvq_sort, show (2 : Int).toNat = 2 from rfl] at h1
    unfold atR at h1
    rw [if_neg (by decide), if_pos rfl] at h1
    have h2 : midR 4626322717216342016 4629137466983448576 0 (L.getD 1 0) e1 := h1
    have hf : finL [4626322717216342016, 4629137466983448576] := by decide +kernel
    have h3 := mid_mean h2 (by decide) (hf _ (by simp)) (hf _ (by simp))
    obtain ⟨-, hh⟩ := mean_fin2 h3 hf (by decide) (by decide) (by decide) ⟨by decide, by decide⟩
    rw [lvq_mid] at hh
    rcases hh with ⟨hz, _⟩ | ⟨_, hM⟩
    · have := p2148; exact absurd hz (by rw [Int.natCast_mul]; omega)
    · exact meanQ_of (by decide) (by decide) (by decide +kernel) hM
/-- How many of a list are not above a number. -/
def countLE (l : List Nat) (x : Nat) : Nat := (l.filter fun z => decide (fvI z ≤ fvI x)).length
theorem live_share : countLE lvq 4626322717216342016 = 2 := by decide +kernel
/-- What Share answers. -/
def shareR (l : List Nat) (x : Nat) (a b e : Int) : Prop :=
  ((refuseE l = 2 ∨ refuseE l = 30) ∧ a = 0 ∧ b = 0 ∧ e = refuseE l) ∨ (¬ (refuseE l = 2 ∨ refuseE l = 30) ∧ ((isNaN x = true ∧ a = 0 ∧ b = 0 ∧ e = 30) ∨ (isNaN x = false ∧ ((refuseE l ≠ 0 ∧ a = 0 ∧ b = 0 ∧ e = refuseE l) ∨ (refuseE l = 0 ∧ a = ((l.filter fun z => FloatKind.f64.format.order z x == some .lt || FloatKind.f64.format.order z x == some .eq).length : Int) ∧ b = (l.length : Int) ∧ e = 0)))))
/-- Of a finite number. -/
theorem share_fin {l : List Nat} {x : Nat} {a b e : Int} (h : shareR l x a b e) (hr : refuseE l = 0) (hx : (splitP x).cls ≤ 2) : a = (countLE l x : Int) ∧ b = (l.length : Int) ∧ e = 0 := by
  obtain ⟨hl, hf, hne⟩ := refuse_ok hr
  rcases h with ⟨p, _⟩ | ⟨_, ⟨p, _⟩ | ⟨_, ⟨p, _⟩ | ⟨_, h1, h2, h3⟩⟩⟩
  · omega
  · rw [fin_num hx] at p; cases p
  · exact absurd hr p
  · refine ⟨?_, h2, h3⟩
    rw [h1]
    unfold countLE
    congr 2
    refine List.filter_congr fun z hz => ?_
    rw [order_fin (hf z hz) hx, fcmp_le]
end

/- Slices against nil; an empty slice that is laid and grows. No condition. -/
section
open Go Sx Wd
section
variable {P : Program} {n : Nat} {D : List Deferred} {s : Sl} {w : World} {ops : Array Oper} {K : KK} {rest : List Oper} {ty : TypeId} {pos : String} {af : Array Edge} {d : Nat} {x y : Operand}
theorem eqGuard_slice (op : BinOp) (t : TypeId) (x y : Operand) (a b : Option Addr) (i j k l : Nat) : (eqGuard op t x y (.slice a i j) (.slice b k l)).run P w = .ok () w := by
  unfold eqGuard; split <;> simp
/-- A slice against nil. -/
theorem Ev.eqlSliceNil {t t' e : TypeId} {sz by_ : Nat} {z : Value} {a : Option Addr} {m c : Nat} [hT : HasT P t (.slice e) sz by_ z] (hx : opnd s x = some (.slice a m c)) (hy : opnd s y = some (.slice none 0 0)) : Ev P s (.binOp .eql t x y t') ty w (.bool a.isNone) w :=
  run_bin hx hy (fun _ _ => eqGuard_slice _ _ _ _ _ _ _ _ _ _) (by
    have := run_eqIn (P := P) (w := w) (t := t) (u := .slice a m c) (v := .slice none 0 0) (r := a.isNone) (fun d => by cases a <;> simp [Op.equalIn, hT.underlying])
    simp only [binOp]
    simp [this])
/-- A drawn region's answer in one slot. -/
theorem Sx.CW.seqMD {A : AQ} {x y : Code} (c : Nat) (b : Bool) (hx : CW P x (thenK (fun D' s' w' => D' = D ∧ w' = w.drew ∧ Subs ((c, .bool b) :: s) s') A) n D s w) (hy : Chg [] w w.drew → CW P y A n D ((c, .bool b) :: s) w.drew) : CW P (.seq x y) A n D s w :=
  CW.seqJ _ hx fun D' s' w' ⟨h1, h2, h3⟩ => by subst h1; subst h2; exact (hy (Chg.drew _ _)).sub h3
/-- An empty slice of one's own. -/
theorem WL.emptySlice {t e : TypeId} {de : TypeDesc} {sz by_ es be : Nat} {z ze : Value} {f : Nat → Value} {lo : Nat} {X : List Nat} [hT : HasT P t (.slice e) sz by_ z] [hE : HasT P e de es be ze] (hlo : lo ≤ w.heap.size) (hX : ∀ b ∈ X, b < w.heap.size) (hd : Nat.blt d n = true)
    (k : ∀ v w', GR w' e f lo X v [] → Chg [] w w' → WL P ops K rest n D ((d, v) :: s) w') : WL P ops K (⟨some d, .buildSlice t 0 #[], ty, pos, af, none⟩ :: rest) n D s w := by
  refine WL.ev (v := .slice (some ⟨w.heap.size, 0, none⟩) 0 0) (w' := w.alloc (.cells #[] e)) (fun ρ d' pos af g hρ => ?_) hd (k _ _ ?_ (new_alloc w _).chg)
  · simp [execOp, Instr.buildSlice, hT.underlying, hE.sizeOf, Instr.fill, newRow]
    rw [show Array.range 0 = #[] from by decide, Array.map_empty]
  · refine ⟨⟨by simp, .inr ⟨w.heap.size, 0, #[], rfl, Nat.zero_le _, ?_, Nat.le_refl _, by unfold maxLen; omega, by simp, by simp⟩⟩, fun b hb => ?_⟩
    · exact (new_alloc w (.cells #[] e)).at_
    · cases hb
      exact ⟨hlo, fun hm => Nat.lt_irrefl _ (hX _ hm)⟩
end
theorem GR.own {w : World} {e : TypeId} {f : Nat → Value} {lo : Nat} {X : List Nat} {v : Value} {l : List Nat} (h : GR w e f lo X v l) (hne : l ≠ []) : ∃ b c cur, v = .slice (some ⟨b, 0, none⟩) l.length c ∧ w.heap[b]? = some (.cells cur e (0, 0)) ∧ l.length ≤ c ∧ c ≤ maxLen ∧ cur.size = c ∧ cur.toList.take l.length = l.map f ∧ lo ≤ b ∧ b ∉ X := by
  obtain ⟨⟨_, hcase⟩, hb⟩ := h
  rcases hcase with ⟨_, h0⟩ | ⟨g, cp, cur, rfl, _, hheap, hnc, hcm, hcs, htake⟩
  · exact absurd (List.length_eq_zero_iff.1 h0) hne
  · obtain ⟨h1, h2⟩ := hb g rfl
    rw [Nat.mul_one] at hcs htake
    exact ⟨g, cp, cur, rfl, hheap, hnc, hcm, hcs, htake, h1, h2⟩
end

/- Copies of numbers. No condition. -/
namespace Sx
open Go
section
variable {P : Program} {n : Nat} {D : List Deferred} {s : Sl} {w : World} {ops : Array Oper} {K : KK} {rest : List Oper} {ty : TypeId} {pos : String} {af : Array Edge} {d : Nat} {x y : Operand}
theorem WL.copyF {t t' : TypeId} {e be : Nat} {b m c n' c2 : Nat} {a : Option Addr} {l xs : List Nat} {sz by_ : Nat} {z ze : Value} {de : TypeDesc} [hT : HasT P t (.slice e) sz by_ z] [hE : HasT P e de 1 be ze] (hx : opnd s x = some (.slice (some ⟨b, 0, none⟩) m c)) (hy : opnd s y = some (.slice a n' c2)) (hb : FB w b e l) (hr : RW w a (xs.map f64v)) (hn : n' ≤ xs.length) (hm : m ≤ l.length) (hd : Nat.blt d n = true)
    (k : ∀ w', FB w' b e (xs.take (min n' m) ++ l.drop (min n' m)) → Chg [b] w w' → WL P ops K rest n D ((d, .int .i64 ((min n' m : Nat) : Int)) :: s) w') : WL P ops K (⟨some d, .call ⟨.builtin .copy, [x, y].toArray, #[t, t']⟩, ty, pos, af, none⟩ :: rest) n D s w := by
  obtain ⟨i, hi, hi1, hi2, hi3⟩ := hE.inf
  have hsz : (P.info? e).map (·.size) = some 1 := by rw [hi]; simp [hi1]
  by_cases h0 : min n' m = 0
  · refine WL.ev (v := goInt 0) (w' := w) (fun ρ d' pos af g hρ => ?_) hd ?_
    · have e1 := hρ x _ hx
      have e2 := hρ y _ hy
      have := run_copy_none (P := P) w t t' ty e (some ⟨b, 0, none⟩) a m c n' c2 hT.und hsz h0
      simp [execOp, resolve, invoke, builtin, e1, e2, this]
    · have := k w (by rw [h0]; simpa using hb) (Chg.refl _ _)
      rw [h0] at this
      exact this
  · obtain ⟨ad, rfl⟩ := hr.some_ (by simp; omega)
    have hlen : ((xs.take (min n' m)).map f64v).length = Nat.min n' m := by
      show _ = min n' m
      simp; omega
    have hrun := run_copy_row (P := P) w t t' ty e b 0 m c ad n' c2 (l.map f64v).toArray e ((xs.take (min n' m)).map f64v) hT.und hsz hb hlen
      (fun j v hv => by
        obtain ⟨ad', e0, h2⟩ := (by rw [List.map_take]; exact hr.take (min n' m) : RW w (some ad) ((xs.take (min n' m)).map f64v)) j v hv
        cases e0; exact h2)
      (by simp; omega) (fun u hu => by obtain ⟨i, _, rfl⟩ := List.mem_map.1 hu; rfl)
    obtain ⟨Wn, hWn⟩ : ∃ Wn, Wn = w.setRow b ((l.map f64v).toArray.toList.take 0 ++ (xs.take (min n' m)).map f64v ++ (l.map f64v).toArray.toList.drop (0 + ((xs.take (min n' m)).map f64v).length)).toArray := ⟨_, rfl⟩
    rw [← hWn] at hrun
    refine WL.ev (v := goInt ((xs.take (min n' m)).map f64v).length) (w' := Wn) (fun ρ d' pos af g hρ => ?_) hd ?_
    · have e1 := hρ x _ hx
      have e2 := hρ y _ hy
      simp [execOp, resolve, invoke, builtin, e1, e2, hrun]
    · rw [hlen]
      refine k _ ?_ ?_
      · have := setRow_heap w b _ ((l.map f64v).toArray.toList.take 0 ++ (xs.take (min n' m)).map f64v ++ (l.map f64v).toArray.toList.drop (0 + ((xs.take (min n' m)).map f64v).length)).toArray e (0, 0) hb
        rw [← hWn] at this
        unfold FB
        rw [this, hlen]
        simp [List.map_drop]
      · subst hWn
        exact ⟨rfl, rfl, rfl, by simp [World.setRow], fun q hq hnq => setRow_other w b q _ (by simpa using hnq)⟩
end
end Sx

/- Copies of lists of numbers; parts of them. No condition. -/
section
open Go Sx Wd Fl

theorem GR.nf {w : World} {e : TypeId} {lo : Nat} {X : List Nat} {v : Value} {l : List Nat} (h : GR w e f64v lo X v l) (hw : ∀ x ∈ l, x < 18446744073709551616) (hl : l.length ≤ 70368744177664) : NF w v l := by
  obtain ⟨a, c, rfl, hc, hr⟩ := h.row
  exact ⟨⟨a, c, rfl, hc, hr⟩, hw, hl⟩
theorem NF.head {w : World} {a : Option Addr} {l : List Nat} {n c hi : Nat} (h : NF w (.slice a n c) l) (h2 : hi ≤ l.length) : NF w (.slice a hi c) (l.take hi) := by
  obtain ⟨⟨a', c', e, hc, hr⟩, hw, hl⟩ := h
  cases e
  have e1 : (l.take hi).length = hi := by rw [List.length_take]; omega
  refine ⟨⟨a, c, by rw [e1], by omega, ?_⟩, fun x hx => hw x (List.mem_of_mem_take hx), by omega⟩
  rw [List.map_take]
  exact hr.take _
theorem NF.tail_ {w : World} {a : Option Addr} {l : List Nat} {n c lo : Nat} (h : NF w (.slice a n c) l) (h2 : lo ≤ l.length) : NF w (.slice (cutAt a lo c 1) (n - lo) (c - lo)) (l.drop lo) := by
  obtain ⟨⟨a', c', e, hc, hr⟩, hw, hl⟩ := h
  cases e
  have e1 : (l.drop lo).length = l.length - lo := List.length_drop
  refine ⟨⟨cutAt a lo c 1, c - lo, by rw [e1], by omega, ?_⟩, fun x hx => hw x (List.mem_of_mem_drop hx), by omega⟩
  rw [List.map_drop]
  exact hr.cut lo c (by simp; omega) (by simpa using hc)

theorem CloneF_spec (v : Value) (l : List Nat) (w : World) (hv : NF w v l) (hlm : l.length ≤ 1000000) : Ret Tryz.prog 131 [v] w fun u w' => GR w' 30 f64v w.heap.size [] u l ∧ Chg [] w w' := by
 obtain ⟨⟨al, cl, rfl, hcap, hrl⟩, hWl, hll⟩ := hv;have hch : Chg [] w w := Chg.refl _ _;refine zE1 Tryz.func131 rfl ?_;refine Sr fun _ kh1 => za rfl (zz (kh1 (zc fun _ kh3 => Sr fun _ kh4 => zm rfl ?_)));refine WL.ev (Ev.eqlSliceNil rfl rfl) rfl ?_;refine zz (kh4 ?_);refine zy rfl ?_ ?_<;>intro hc1<;>try simp only [qs] at hc1
 ·obtain rfl : al = none := by simpa using hc1
  have hl0 : l = [] := by cases l with | nil => rfl | cons x r => obtain ⟨ad, e1, _⟩ := hrl 0 _ rfl; cases e1
  subst hl0;refine Sr fun _ kh6 => za rfl (zz (kh6 ?_));refine zr (zr1 rfl rfl ?_);exact ⟨GR.nil, hch⟩
 ·refine zkk ?_
  refine kh3 (Sr fun _ kh8 => ?_);refine WL.emptySlice (f := f64v) (lo := w.heap.size) (X := []) hch.size (by simp) rfl fun v5 w5 hg5 hcm5 => ?_;have hch := hch.ta hcm5;refine zm rfl ?_;refine WL.growR (f := f64v) (lo := w.heap.size) (X := []) (l := []) (news := l) (by rfl) (fun i => rfl) rfl rfl hg5 (by first | rfl | (simp; done) | (simp; omega) | omega) (hrl.keep0 hch) (by first | omega | exact hch.size | exact hcr.size | exact Nat.le_refl _) (by simp) (by simp only [List.length_append, List.length_cons, List.length_nil]; omega) (by simp only [List.length_append, List.length_cons, List.length_nil]; omega) rfl fun v7 w7 hg7 hcg7 => ?_;have hch := GR.frame hg5 hcg7 hch (by first | omega | exact Nat.le_refl _);have hg5 := hg7;rw [show ([] ++ l) = l from by simp] at hg5;refine za rfl (zz (kh8 ?_));refine zr (zr1 rfl rfl ?_);exact ⟨hg5, hch⟩

end

end Go.Proofs.YtknahdghcfdmgaaGreatDoor
/-
  DERIVED: THE SHELF's CONTRACTS AT THIS DUMP, IN PLAIN WORDS (tools/lay-plain.mjs out of 'TmpSortLayF.lean', which tools/lay-shelf.mjs wrote): THE SAME DECLARATIONS UNDER THE SAME NAMES: 'import', 'namespace', 'open', 'def', 'theorem' AND NOTHING ELSE: no command of the shelf's: FOR A HAND-IN. Each laying: the table of numbers ('.._ren') and one theorem, a field a fact of the dump's own or the kernel's comparison; each contract: ONE APPLICATION.
-/
namespace Go.Proofs
open Go.Shelf
def Tryz.laySortLayF_ren : Go.Shelf.Ren := ⟨fun | 6 => 132 | 15 => 214 | 14 => 213 | 28 => 269 | 29 => 297 | 20 => 289 | 21 => 290 | 22 => 291 | 23 => 292 | 24 => 293 | 25 => 294 | 26 => 295 | 27 => 296 | 46 => 326 | 47 => 327 | 48 => 328 | 49 => 329 | 50 => 330 | 57 => 346 | n => n, fun | 22 => 22 | 24 => 30 | 25 => 130 | 3 => 3 | 39 => 243 | 0 => 0 | 53 => 219 | 55 => 98 | 4 => 4 | 46 => 338 | 45 => 337 | 50 => 88 | 5 => 5 | 9 => 9 | 66 => 372 | 70 => 134 | 76 => 388 | 77 => 389 | n => n, fun | n => n⟩
theorem Tryz.laySortLayF : Go.Proofs.SlLaysF.n6 Tryz.prog Tryz.laySortLayF_ren := {
  mixed := by kernel_rfl
  f6 := ⟨Tryz.f132.name, by decide, Tryz.func132.trans (congrArg some (by kernel_rfl))⟩
  f14 := ⟨Tryz.f213.name, by decide, Tryz.func213.trans (congrArg some (by kernel_rfl))⟩
  f15 := Tryz.func214.trans (congrArg some (by kernel_rfl))
  f20 := ⟨Tryz.f289.name, by decide, Tryz.func289.trans (congrArg some (by kernel_rfl))⟩
  f21 := ⟨Tryz.f290.name, by decide, Tryz.func290.trans (congrArg some (by kernel_rfl))⟩
  f22 := ⟨Tryz.f291.name, by decide, Tryz.func291.trans (congrArg some (by kernel_rfl))⟩
  f23 := ⟨Tryz.f292.name, by decide, Tryz.func292.trans (congrArg some (by kernel_rfl))⟩
  f24 := ⟨Tryz.f293.name, by decide, Tryz.func293.trans (congrArg some (by kernel_rfl))⟩
  f25 := ⟨Tryz.f294.name, by decide, Tryz.func294.trans (congrArg some (by kernel_rfl))⟩
  f26 := ⟨Tryz.f295.name, by decide, Tryz.func295.trans (congrArg some (by kernel_rfl))⟩
  f27 := ⟨Tryz.f296.name, by decide, Tryz.func296.trans (congrArg some (by kernel_rfl))⟩
  f28 := Tryz.func269.trans (congrArg some (by kernel_rfl))
  f29 := Tryz.func297.trans (congrArg some (by kernel_rfl))
  f46 := ⟨Tryz.f326.name, by decide, Tryz.func326.trans (congrArg some (by kernel_rfl))⟩
  f47 := Tryz.func327.trans (congrArg some (by kernel_rfl))
  f48 := Tryz.func328.trans (congrArg some (by kernel_rfl))
  f49 := ⟨Tryz.f329.name, by decide, Tryz.func329.trans (congrArg some (by kernel_rfl))⟩
  f50 := ⟨Tryz.f330.name, by decide, Tryz.func330.trans (congrArg some (by kernel_rfl))⟩
  f57 := ⟨Tryz.f346.name, by decide, Tryz.func346.trans (congrArg some (by kernel_rfl))⟩
  t0 := Tryz.underlying0
  a0 := Tryz.isAgg0
  z0 := Tryz.sizeOf0
  v0 := Tryz.zeroValue0
  t3 := Tryz.underlying3
  a3 := Tryz.isAgg3
  z3 := Tryz.sizeOf3
  v3 := Tryz.zeroValue3
  t4 := Tryz.underlying4
  a4 := Tryz.isAgg4
  z4 := Tryz.sizeOf4
  v4 := Tryz.zeroValue4
  t5 := Tryz.underlying5
  a5 := Tryz.isAgg5
  z5 := Tryz.sizeOf5
  v5 := Tryz.zeroValue5
  t9 := Tryz.underlying9
  a9 := Tryz.isAgg9
  z9 := Tryz.sizeOf9
  v9 := Tryz.zeroValue9
  t22 := Tryz.underlying22
  a22 := Tryz.isAgg22
  z22 := Tryz.sizeOf22
  v22 := Tryz.zeroValue22
  a24 := Tryz.isAgg30
  z24 := Tryz.sizeOf30
  t25 := Tryz.underlying130
  a25 := Tryz.isAgg130
  z25 := Tryz.sizeOf130
  v25 := Tryz.zeroValue130
  t39 := Tryz.underlying243
  a39 := Tryz.isAgg243
  z39 := Tryz.sizeOf243
  v39 := Tryz.zeroValue243
  t45 := Tryz.underlying337
  a45 := Tryz.isAgg337
  z45 := Tryz.sizeOf337
  v45 := Tryz.zeroValue337
  t46 := Tryz.underlying338
  a46 := Tryz.isAgg338
  z46 := Tryz.sizeOf338
  v46 := Tryz.zeroValue338
  t50 := Tryz.underlying88
  a50 := Tryz.isAgg88
  z50 := Tryz.sizeOf88
  v50 := Tryz.zeroValue88
  t53 := Tryz.underlying219
  a53 := Tryz.isAgg219
  z53 := Tryz.sizeOf219
  v53 := Tryz.zeroValue219
  t55 := Tryz.underlying98
  a55 := Tryz.isAgg98
  z55 := Tryz.sizeOf98
  v55 := Tryz.zeroValue98
  t66 := Tryz.underlying372
  a66 := Tryz.isAgg372
  z66 := Tryz.sizeOf372
  v66 := Tryz.zeroValue372
  t70 := Tryz.underlying134
  a70 := Tryz.isAgg134
  z70 := Tryz.sizeOf134
  v70 := Tryz.zeroValue134
  t76 := Tryz.underlying388
  a76 := Tryz.isAgg388
  z76 := Tryz.sizeOf388
  v76 := Tryz.zeroValue388
  t77 := Tryz.underlying389
  a77 := Tryz.isAgg389
  z77 := Tryz.sizeOf389
  v77 := Tryz.zeroValue389 }
end Go.Proofs

namespace Go.Proofs.YtknahdghcfdmgaaGreatDoor
/- Maps keyed by whole numbers, in the engine. No condition. -/
namespace Sx
open Go

structure ME where
  key : Int
  val : Value
  born : Nat
def meV (kk : IntKind) (e : ME) : MapEntry := ⟨.int kk e.key, e.val, e.born⟩
def mapO (kk : IntKind) (es : List ME) (c : Nat) : Obj := .map (es.map (meV kk)).toArray c
section
variable {P : Program} {t key elem : TypeId} {kk : IntKind} {w : World} {sk bk : Nat} {zk : Value}
end

section
variable {P : Program} {n : Nat} {D : List Deferred} {s : Sl} {w : World} {ty : TypeId} {x y z : Operand} {ops : Array Oper} {K : KK} {rest : List Oper} {pos : String} {af : Array Edge} {d : Nat}
variable {t key elem : TypeId} {kk : IntKind} {sz by_ sk bk se be : Nat} {zt zk ze : Value} {de : TypeDesc} {r c : Nat} {es : List ME} {k : Int}
/-! A range over a map -/
end
end Sx

/- The walks of the small functions on numbers' bits. No condition. -/
section
open Go Sx Fl

theorem andNot_top (b : Nat) (h : 9223372036854775808 ≤ b) (hb : b < 18446744073709551616) : bits2 .andNot .u64 (b : Int) 9223372036854775808 = (b : Int) - 9223372036854775808 := by
  have e : (BitVec.ofInt 64 (b : Int) &&& ~~~BitVec.ofInt 64 9223372036854775808).toNat = b - 9223372036854775808 := by
    rw [BitVec.toNat_and, BitVec.toNat_not]
    have h1 : (BitVec.ofInt 64 (b : Int)).toNat = b := by simp [BitVec.toNat_ofInt]; omega
    have h2 : (BitVec.ofInt 64 9223372036854775808).toNat = 9223372036854775808 := by decide
    rw [h1, h2]
    have h3 : b &&& (2 ^ 64 - 1 - 9223372036854775808) = b % 2 ^ 63 := by
      rw [← Nat.and_two_pow_sub_one_eq_mod]
    rw [h3]
    omega
  show IntKind.u64.wrap ((BitVec.ofInt 64 (b : Int) &&& ~~~BitVec.ofInt 64 9223372036854775808).toNat : Int) = _
  rw [e, IntWalk.u64_in _ (by omega)]
  omega
theorem compl_i64 (n : Int) (h0 : 0 ≤ n) (h1 : n ≤ 9223372036854775807) : bits2 .xor .i64 (-1) n = -1 - n := by
  have e : (BitVec.ofInt 64 (-1) ^^^ BitVec.ofInt 64 n).toNat = 18446744073709551615 - n.toNat := by
    have ha : BitVec.ofInt 64 (-1) = BitVec.allOnes 64 := by decide
    rw [ha, BitVec.allOnes_xor, BitVec.toNat_not]
    have h2 : (BitVec.ofInt 64 n).toNat = n.toNat := by simp [BitVec.toNat_ofInt]; omega
    rw [h2]
  show IntKind.i64.wrap ((BitVec.ofInt 64 (-1) ^^^ BitVec.ofInt 64 n).toNat : Int) = _
  rw [e, IntKind.wrap_i64]
  omega
theorem shr63 (b : Nat) (hb : b < 18446744073709551616) : (b : Int).fdiv (2 ^ (min (63 : Int).toNat IntKind.u64.bits)) = if 9223372036854775808 ≤ b then 1 else 0 := by
  show (b : Int).fdiv 9223372036854775808 = _
  rw [Int.fdiv_eq_ediv_of_nonneg _ (by omega)]
  split <;> omega
theorem key_neg (b : Nat) (hb : b < 18446744073709551616) (h1 : isNaN b = false) (h2 : (b : Int).fdiv (2 ^ (min (63 : Int).toNat IntKind.u64.bits)) = 1) :
    bits2 .xor .i64 (if IntKind.i64.signed then -1 else IntKind.i64.max) (IntKind.i64.wrap (bits2 .andNot .u64 (b : Int) 9223372036854775808)) = key b := by
  rw [shr63 b hb] at h2
  have h3 : 9223372036854775808 ≤ b := by
    by_cases h : 9223372036854775808 ≤ b
    · exact h
    · rw [if_neg h] at h2; cases h2
  rw [key_neg_eq h1 h3, andNot_top b h3 hb, wrap_i64 (by omega)]
  exact compl_i64 _ (by omega) (by omega)
theorem key_pos (b : Nat) (hb : b < 18446744073709551616) (h1 : isNaN b = false) (h2 : ¬ (b : Int).fdiv (2 ^ (min (63 : Int).toNat IntKind.u64.bits)) = 1) : IntKind.i64.wrap (b : Int) = key b := by
  rw [shr63 b hb] at h2
  have h3 : b < 9223372036854775808 := by
    by_cases h : 9223372036854775808 ≤ b
    · rw [if_pos h] at h2; exact absurd rfl h2
    · omega
  rw [key_pos_eq h1 h3, wrap_i64 (by omega)]
theorem canon_lt' {b : Nat} (h : b < 18446744073709551616) : (canon b : Int) < 18446744073709551616 := by
  have := canon_lt h; omega
theorem place_neg (b : Nat) (hb : b < 18446744073709551616) (h : 9223372036854775808 ≤ ((canon b : Nat) : Int)) : IntKind.i64.wrap (-1 - IntKind.i64.wrap (IntKind.u64.wrap ((canon b : Nat) - 9223372036854775808))) = place b := by
  have := canon_lt' hb
  rw [IntWalk.u64_in _ (by omega), wrap_i64 (n := (canon b : Int) - 9223372036854775808) (by omega), wrap_i64 (by omega), place, if_pos (by omega)]
theorem place_pos (b : Nat) (hb : b < 18446744073709551616) (h : ((canon b : Nat) : Int) < 9223372036854775808) : IntKind.i64.wrap ((canon b : Nat) : Int) = place b := by
  rw [wrap_i64 (by omega), place, if_neg (by omega)]

theorem bits_key_spec (b : Nat) (hb : b < 18446744073709551616) (w : World) : Ret Tryz.prog 177 [.float .f64 b] w fun v w' => v = .int .i64 (key b) ∧ w = w' := by
 refine Ret.enter Tryz.func177 rfl rfl ?_;refine Sr fun _ kh1 => za rfl (zz (kh1 (zc fun _ kh3 => Sr fun _ kh4 => zm rfl (zm rfl ?_))));refine WL.ev (Ev.fneq rfl rfl) rfl ?_;refine zz (kh4 ?_);refine zy rfl (fun hc1 => ?_) fun hc1 => ?_
 ·rw [order_self] at hc1;refine Sr fun _ kh6 => za rfl (zz (kh6 ?_));refine zr (zr1 rfl rfl ?_);exact ⟨by simp [key, hc1], rfl⟩
 ·rw [order_self] at hc1;refine zkk ?_;refine kh3 (Sr fun _ kh8 => zm rfl ?_);refine WL.ev (Ev.ext rfl (ext63 _ _)) rfl ?_;refine za rfl (zz (kh8 (zc fun _ kh10 => Sr fun _ kh11 => zm rfl ?_)));refine WL.ev (Ev.shr rfl rfl (by omega)) rfl ?_;refine zq rfl rfl (zz (kh11 ?_));refine zy rfl (fun hc2 => ?_) fun hc2 => ?_
  ·simp only [decide_eq_true_eq, decide_eq_false_iff_not] at hc2;refine Sr fun _ kh13 => zm rfl ?_;refine WL.ev (Ev.andNot rfl rfl) rfl ?_;refine WL.ev (Ev.conv rfl rfl) rfl ?_;refine WL.ev (Ev.compl rfl) rfl ?_;refine za rfl (zz (kh13 ?_));refine zr (zr1 rfl rfl ?_);exact ⟨by rw [key_neg b hb hc1 hc2], rfl⟩
  ·simp only [decide_eq_true_eq, decide_eq_false_iff_not] at hc2;refine zkk ?_;refine kh10 (Sr fun _ kh15 => zm rfl ?_);refine WL.ev (Ev.conv rfl rfl) rfl ?_;refine za rfl (zz (kh15 ?_));refine zr (zr1 rfl rfl ?_);exact ⟨by rw [key_pos b hb hc1 hc2], rfl⟩

theorem bits_Order_spec (a b : Nat) (ha : a < 18446744073709551616) (hb : b < 18446744073709551616) (w : World) : Ret Tryz.prog 90 [.float .f64 a, .float .f64 b] w fun v w' => v = .int .i64 (cmpI (key a) (key b)) ∧ w = w' := by
 refine Ret.enter Tryz.func90 rfl rfl ?_;refine Sr fun _ kh1 => za rfl (zz (kh1 (Sr fun _ kh3 => zm rfl ?_)));refine WL.call hasF177 rfl rfl (bits_key_spec _ ha _) fun v w1 h => ?_;obtain ⟨rfl, rfl⟩ := h;refine zm rfl ?_;refine WL.call hasF177 rfl rfl (bits_key_spec _ hb _) fun v w2 h => ?_;obtain ⟨rfl, rfl⟩ := h;refine za rfl (za rfl (zz (kh3 (zc fun _ kh5 => ?_))));refine CW.block ?_;refine Sr fun _ kh6 => zm rfl (zm rfl ?_);refine WL.ev (Ev.lss rfl rfl) rfl ?_;refine za rfl (zz (kh6 ?_));refine zy rfl (fun hc1 => ?_) fun hc1 => ?_
 ·simp only [decide_eq_true_eq, decide_eq_false_iff_not, Decidable.not_not, Bool.and_eq_true, Bool.or_eq_true, Bool.not_eq_true', ne_eq, Int.not_lt, Int.not_le] at hc1;refine Sr fun _ kh8 => za rfl (zz (kh8 ?_));refine zr (zr1 rfl rfl ?_);exact ⟨by rw [cmpI, if_pos hc1], rfl⟩
 ·simp only [decide_eq_true_eq, decide_eq_false_iff_not, Decidable.not_not, Bool.and_eq_true, Bool.or_eq_true, Bool.not_eq_true', ne_eq, Int.not_lt, Int.not_le] at hc1;refine Sr fun _ kh10 => zm rfl (zm rfl ?_);refine WL.ev (Ev.gtr rfl rfl) rfl ?_;refine za rfl (zz (kh10 ?_));refine zy rfl (fun hc2 => ?_) fun hc2 => ?_
  ·simp only [decide_eq_true_eq, decide_eq_false_iff_not, Decidable.not_not, Bool.and_eq_true, Bool.or_eq_true, Bool.not_eq_true', ne_eq, Int.not_lt, Int.not_le] at hc2;refine Sr fun _ kh12 => za rfl (zz (kh12 ?_));refine zr (zr1 rfl rfl ?_);exact ⟨by rw [cmpI, if_neg (by omega), if_pos hc2], rfl⟩
  ·simp only [decide_eq_true_eq, decide_eq_false_iff_not, Decidable.not_not, Bool.and_eq_true, Bool.or_eq_true, Bool.not_eq_true', ne_eq, Int.not_lt, Int.not_le] at hc2;refine zkk ?_;refine kh5 (Sr fun _ kh14 => za rfl (zz (kh14 ?_)));refine zr (zr1 rfl rfl ?_);exact ⟨by rw [cmpI, if_neg (by omega), if_neg (by omega)], rfl⟩

theorem steelyardref01_Bits_spec (b : Nat) (hb : b < 18446744073709551616) (w : World) : Ret Tryz.prog 122 [.float .f64 b] w fun v w' => v = .int .u64 (canon b : Nat) ∧ w = w' := by
 refine Ret.enter Tryz.func122 rfl rfl ?_;refine Sr fun _ kh1 => za rfl (zz (kh1 (Sr fun _ kh3 => zm rfl ?_)));refine WL.ev (Ev.ext rfl (ext63 _ _)) rfl ?_;refine za rfl (zz (kh3 (zc fun _ kh5 => Sr fun _ kh6 => zm rfl ?_)))
 first | refine WL.ev (Ev.remIn rfl rfl (by omega) (by omega)) rfl ?_ | refine WL.ev (Ev.rem rfl rfl (by omega)) rfl ?_
 refine WL.ev (Ev.gtr rfl rfl) rfl ?_;refine zz (kh6 ?_);refine zy rfl (fun hc1 => ?_) fun hc1 => ?_
 ·simp only [decide_eq_true_eq, decide_eq_false_iff_not, Decidable.not_not, Bool.and_eq_true, Bool.or_eq_true, Bool.not_eq_true', ne_eq, Int.not_lt, Int.not_le] at hc1;refine Sr fun _ kh8 => za rfl (zz (kh8 ?_));refine zr (zr1 rfl rfl ?_);exact ⟨by rw [canon, if_pos (by simp only [isNaN, decide_eq_true_eq]; omega)]; rfl, rfl⟩
 ·simp only [decide_eq_true_eq, decide_eq_false_iff_not, Decidable.not_not, Bool.and_eq_true, Bool.or_eq_true, Bool.not_eq_true', ne_eq, Int.not_lt, Int.not_le] at hc1;refine zkk ?_;refine kh5 (Sr fun _ kh10 => zm rfl (za rfl (zz (kh10 ?_))));refine zr (zr1 rfl rfl ?_);exact ⟨by rw [canon, if_neg (by simp only [isNaN, decide_eq_true_eq]; omega)], rfl⟩

theorem steelyardref01_place_spec (b : Nat) (hb : b < 18446744073709551616) (w : World) : Ret Tryz.prog 216 [.float .f64 b] w fun v w' => v = .int .i64 (place b) ∧ w = w' := by
 refine Ret.enter Tryz.func216 rfl rfl ?_;refine Sr fun _ kh1 => za rfl (zz (kh1 (Sr fun _ kh3 => zm rfl ?_)));refine WL.call hasF122 rfl rfl (steelyardref01_Bits_spec _ hb _) fun v w1 h => ?_;obtain ⟨rfl, rfl⟩ := h;refine za rfl (zz (kh3 (zc fun _ kh5 => Sr fun _ kh6 => zm rfl ?_)));refine WL.ev (Ev.geq rfl rfl) rfl ?_;refine zz (kh6 ?_);refine zy rfl (fun hc1 => ?_) fun hc1 => ?_
 ·simp only [decide_eq_true_eq, decide_eq_false_iff_not, Decidable.not_not, Bool.and_eq_true, Bool.or_eq_true, Bool.not_eq_true', ne_eq, Int.not_lt, Int.not_le] at hc1;refine Sr fun _ kh8 => zm rfl ?_;refine WL.ev (Ev.sub rfl rfl) rfl ?_;refine WL.ev (Ev.conv rfl rfl) rfl ?_
  first | refine WL.ev (Ev.subIn rfl rfl (by omega)) rfl ?_ | refine WL.ev (Ev.sub rfl rfl) rfl ?_
  refine za rfl (zz (kh8 ?_));refine zr (zr1 rfl rfl ?_);exact ⟨by rw [place_neg b hb hc1], rfl⟩
 ·simp only [decide_eq_true_eq, decide_eq_false_iff_not, Decidable.not_not, Bool.and_eq_true, Bool.or_eq_true, Bool.not_eq_true', ne_eq, Int.not_lt, Int.not_le] at hc1;refine zkk ?_;refine kh5 (Sr fun _ kh10 => zm rfl ?_);refine WL.ev (Ev.conv rfl rfl) rfl ?_;refine za rfl (zz (kh10 ?_));refine zr (zr1 rfl rfl ?_);exact ⟨by rw [place_pos b hb hc1], rfl⟩

theorem steelyardref01_Order_spec (a b : Nat) (ha : a < 18446744073709551616) (hb : b < 18446744073709551616) (w : World) : Ret Tryz.prog 136 [.float .f64 a, .float .f64 b] w fun v w' => v = .int .i64 (cmpI (place a) (place b)) ∧ w = w' := by
 refine Ret.enter Tryz.func136 rfl rfl ?_;refine Sr fun _ kh1 => za rfl (zz (kh1 (Sr fun _ kh3 => zm rfl ?_)));refine WL.call hasF216 rfl rfl (steelyardref01_place_spec _ ha _) fun v w1 h => ?_;obtain ⟨rfl, rfl⟩ := h;refine za rfl (zz (kh3 (Sr fun _ kh5 => zm rfl ?_)));refine WL.call hasF216 rfl rfl (steelyardref01_place_spec _ hb _) fun v w2 h => ?_;obtain ⟨rfl, rfl⟩ := h;refine za rfl (zz (kh5 (zc fun _ kh7 => Sr fun _ kh8 => zm rfl (zm rfl ?_))));refine WL.ev (Ev.lss rfl rfl) rfl ?_;refine zz (kh8 ?_);refine zy rfl (fun hc1 => ?_) fun hc1 => ?_
 ·simp only [decide_eq_true_eq, decide_eq_false_iff_not, Decidable.not_not, Bool.and_eq_true, Bool.or_eq_true, Bool.not_eq_true', ne_eq, Int.not_lt, Int.not_le] at hc1;refine Sr fun _ kh10 => za rfl (zz (kh10 ?_));refine zr (zr1 rfl rfl ?_);exact ⟨by rw [cmpI, if_pos hc1], rfl⟩
 ·simp only [decide_eq_true_eq, decide_eq_false_iff_not, Decidable.not_not, Bool.and_eq_true, Bool.or_eq_true, Bool.not_eq_true', ne_eq, Int.not_lt, Int.not_le] at hc1;refine zkk ?_;refine kh7 (zc fun _ kh12 => Sr fun _ kh13 => zm rfl (zm rfl ?_));refine WL.ev (Ev.gtr rfl rfl) rfl ?_;refine zz (kh13 ?_);refine zy rfl (fun hc2 => ?_) fun hc2 => ?_
  ·simp only [decide_eq_true_eq, decide_eq_false_iff_not, Decidable.not_not, Bool.and_eq_true, Bool.or_eq_true, Bool.not_eq_true', ne_eq, Int.not_lt, Int.not_le] at hc2;refine Sr fun _ kh15 => za rfl (zz (kh15 ?_));refine zr (zr1 rfl rfl ?_);exact ⟨by rw [cmpI, if_neg (by omega), if_pos hc2], rfl⟩
  ·simp only [decide_eq_true_eq, decide_eq_false_iff_not, Decidable.not_not, Bool.and_eq_true, Bool.or_eq_true, Bool.not_eq_true', ne_eq, Int.not_lt, Int.not_le] at hc2;refine zkk ?_;refine kh12 (Sr fun _ kh17 => za rfl (zz (kh17 ?_)));refine zr (zr1 rfl rfl ?_);exact ⟨by rw [cmpI, if_neg (by omega), if_neg (by omega)], rfl⟩

theorem steelyardref01_Same_spec (a b : Nat) (ha : a < 18446744073709551616) (hb : b < 18446744073709551616) (w : World) : Ret Tryz.prog 40 [.float .f64 a, .float .f64 b] w fun v w' => v = .bool (decide (canon a = canon b)) ∧ w = w' := by
 refine Ret.enter Tryz.func40 rfl rfl ?_;refine Sr fun _ kh1 => za rfl (zz (kh1 (Sr fun _ kh3 => zm rfl ?_)));refine WL.call hasF122 rfl rfl (steelyardref01_Bits_spec _ ha _) fun v w1 h => ?_;obtain ⟨rfl, rfl⟩ := h;refine zm rfl ?_;refine WL.call hasF122 rfl rfl (steelyardref01_Bits_spec _ hb _) fun v w2 h => ?_;obtain ⟨rfl, rfl⟩ := h;refine zq rfl rfl (za rfl (zz (kh3 ?_)));refine zr (zr1 rfl rfl ?_);exact ⟨by congr 1; rw [decide_eq_decide]; omega, rfl⟩

end

/- slices.SortFunc over numbers by the numbers' order: the row holds the numbers in order. No condition but that each number has 64 bits. -/
section
open Go Sx Fl Go.Sort Go.Shelf

abbrev F64 := {b : Nat // b < 18446744073709551616}
instance f64Inh : Inhabited F64 := ⟨⟨0, by decide⟩⟩
def encF (x : F64) : Value := .float .f64 x.1
def cfF (x y : F64) : Int := cmpI (key x.1) (key y.1)
theorem ltF (x y : F64) : ltOf cfF x y = decide (key x.1 < key y.1) := by
  unfold ltOf cfF cmpI
  by_cases h1 : key x.1 < key y.1
  · simp [h1]
  · by_cases h2 : key y.1 < key x.1 <;> simp [h1, h2]
theorem swoF : SWO (ltOf cfF) where
  irrefl x := by rw [ltF]; simp
  trans x y z h1 h2 := by rw [ltF] at *; simp at *; omega
  ntrans x y z h1 h2 := by rw [ltF] at *; simp at *; omega
theorem cmpLaysF (blk off size : Nat) (w : World) : CmpLays1 Tryz.prog 90 #[] encF cfF blk off size w := fun _ _ _ _ x y =>
  Calls.mono (bits_Order_spec _ _ x.2 y.2 _) fun e w' ⟨v, he, hv, hw⟩ => ⟨by rw [he, hv]; rfl, 0, #[], by rw [grow_empty]; exact hw.symm⟩
def f64s (l : List Nat) (h : ∀ p ∈ l, p < 18446744073709551616) : List F64 := l.attach.map fun x => ⟨x.1, h x.1 x.2⟩
theorem f64s_val (l : List Nat) (h : ∀ p ∈ l, p < 18446744073709551616) : (f64s l h).map (·.1) = l := by
  unfold f64s
  rw [List.map_map]
  exact List.attach_map_subtype_val l
theorem f64s_get {l : List Nat} {h : ∀ p ∈ l, p < 18446744073709551616} {j : Nat} (hj : j < l.length) : encF ((f64s l h).toArray[j]!) = f64v (l[j]'hj) := by
  have hl : j < (f64s l h).toArray.size := by simpa [f64s] using hj
  rw [getElem!_pos _ j hl]
  simp [f64s, encF, f64v]
theorem sortWorldF_heap {w : World} {blk n : Nat} {d : Array F64} {os : Array Obj} {cur : Array Value} {T : TypeId} (h : w.heap[blk]? = some (.cells cur T (0, 0))) :
    Chg [blk] w (sortWorld encF w blk 0 n d os) ∧ (sortWorld encF w blk 0 n d os).heap[blk]? = some (.cells (putCells encF 0 d cur) T (0, 0)) := by
  have hlt := lt_of_heap h
  unfold sortWorld grow putRow mapBlock Go.Sort.ahead
  refine ⟨⟨rfl, rfl, rfl, by simp, fun k hk hn => ?_⟩, ?_⟩
  · simp only [List.mem_singleton] at hn
    rw [Array.getElem?_append_left (by simpa using hk), Array.getElem?_modify, if_neg (fun e => hn e.symm)]
  · rw [Array.getElem?_append_left (by simpa using hlt), Array.getElem?_modify, if_pos rfl, h]; rfl
/-- THE SORT: a row of one's own comes in order. -/
theorem sortF_spec (w : World) (v : Value) (l : List Nat) (lo : Nat) (X : List Nat) (hl : ∀ p ∈ l, p < 18446744073709551616) (hne : l ≠ []) (hsz : l.length < 4611686018427387904) (hown : GR w 30 f64v lo X v l) :
    Ret Tryz.prog 132 [v, .func (.func 90) #[] #[]] w fun u w' =>
      ∃ l' : List Nat, l'.Perm l ∧ Srt l' ∧ Chg v.ownBlock.toList w w' ∧ GR w' 30 f64v lo X v l' := by
  obtain ⟨blk, cap, cur, rfl, hheap, hnc, hcm, hcs, htake, hlo, hX⟩ := hown.own hne
  have hd : (f64s l hl).toArray.size = l.length := by simp [f64s]
  have hblk := lt_of_heap hheap
  have hH : Holds encF w blk 0 (f64s l hl).toArray := by
    intro j hj
    have hj' : j < l.length := by rw [← hd]; exact hj
    refine ⟨?_, by rw [Nat.zero_add]; exact frozen_no hheap⟩
    rw [Nat.zero_add, cell_at' hheap, f64s_get hj']
    have : cur.toList[j]? = (l.map f64v)[j]? := by
      rw [← htake, List.getElem?_take, if_pos (by omega)]
    rw [← Array.getElem?_toList, this]
    simp [hj']
  have eg : ∀ args w, (callFunc 90 args).run Tryz.prog w = .ok (.enter 90 args) w := fun args w => HasF.run hasF90 args
  have hcon := Any.slices_SortFunc Tryz.laySortLayF encF (fun x => rfl) cfF swoF 90 #[] blk 0 cap (f64s l hl).toArray w eg (cmpLaysF blk 0 _ w) hH hblk (by rw [hd]; exact hsz)
  rw [hd] at hcon
  refine Calls.mono hcon fun e w' ⟨he, d', n, os, hp, hs, hw⟩ => ⟨_, he, ?_⟩
  obtain ⟨hps, _, hpp⟩ := hp
  have hsz' : d'.size = l.length := by rw [hps, hd]
  have hperm : d'.toList.Perm (f64s l hl) := by
    have e1 : d'.extract 0 l.length = d' := by rw [← hsz']; simp
    have e2 : (f64s l hl).toArray.extract 0 l.length = (f64s l hl).toArray := by rw [← hd]; simp
    rw [e1, e2] at hpp
    exact hpp
  subst hw
  obtain ⟨hc, hh⟩ := sortWorldF_heap (n := n) (d := d') (os := os) hheap
  have hlen : (d'.toList.map (·.1)).length = l.length := by simp [hsz']
  refine ⟨d'.toList.map (·.1), ?_, ?_, hc, ?_⟩
  · have := hperm.map Subtype.val
    rw [f64s_val] at this
    exact this
  · unfold Srt
    rw [List.pairwise_iff_getElem]
    intro i j hi hj hij
    have := hs i j (Nat.zero_le _) hij (by simpa [hsz'] using hj)
    rw [ltF] at this
    have hi' : i < d'.size := by simpa using hi
    have hj' : j < d'.size := by simpa using hj
    rw [getElem!_pos d' i hi', getElem!_pos d' j hj'] at this
    simp at this
    simpa using this
  · refine ⟨⟨by simp, .inr ⟨blk, cap, _, ?_, Nat.zero_le _, hh, ?_, hcm, ?_, ?_⟩⟩, fun b hb => ?_⟩
    · rw [hlen]
    · rw [hlen]; exact hnc
    · simp [putCells, hcs]
    · rw [hlen, Nat.mul_one]
      apply List.ext_getElem?
      intro i
      rw [List.getElem?_take]
      by_cases hi : i < l.length
      · rw [if_pos hi]
        have hi' : i < d'.size := by rw [hsz']; exact hi
        have hc' : i < cur.size := by rw [hcs]; exact Nat.lt_of_lt_of_le hi hnc
        simp [putCells, hi', hc', encF, f64v]
      · rw [if_neg hi, List.getElem?_eq_none (by rw [List.length_map, hlen]; omega)]
    · cases hb; exact ⟨hlo, hX⟩
end

/- Package mean: Trimmed. No condition. -/
section
open Go Sx Wd Fl

end

/- Package quant: what is refused, lists in order. No condition. -/
section
open Go Sx Wd Fl

structure KRf (l : List Nat) (w0 : World) (i : Nat) (w : World) : Prop where
  hi : i ≤ l.length
  f : finL (l.take i)
  ch : Chg [] w0 w

theorem refused_spec (v : Value) (l : List Nat) (w : World) (hv : NF w v l) : Ret Tryz.prog 56 [v] w fun u w' => u = .int .i64 (refuseE l) ∧ Chg [] w w' := by
 have hv0 := hv;obtain ⟨⟨al, cl, rfl, hcapl, hrl⟩, hWl, hll⟩ := hv;have hch : Chg [] w w := Chg.refl _ _;refine zE1 Tryz.func56 rfl ?_;refine Sr fun _ kh1 => za rfl (zz (kh1 (zc fun _ kh3 => Sr fun _ kh4 => zm rfl (zn rfl ?_))));refine WL.ev (Ev.gtr rfl rfl) rfl ?_;refine zz (kh4 ?_);refine zy rfl ?_ ?_<;>intro hc1<;>try simp only [qs] at hc1
 ·have hlong : 65536 < l.length := by omega
  refine Sr fun _ kh6 => za rfl (zz (kh6 ?_));refine zr (zr1 rfl rfl ?_);refine ⟨?_, hch⟩;unfold refuseE;rw [if_pos hlong]
 ·have hlong : ¬ 65536 < l.length := by omega
  refine zkk ?_;refine kh3 (zc fun _ kh8 => Sr fun _ kh9 => zm rfl (zn rfl (zm rfl (zz (kh9 ?_)))));refine CW.block ?_;refine CW.loop (S := fun i : Nat => [(0, .slice al l.length cl), (8, .int .i64 (l.length : Int)), (9, .int .i64 (i : Int))]) (Inv := KRf l w) (mu := fun i => l.length - i) (0) ?_ ?_ ?_
  ·exact ⟨Nat.zero_le _, fun x hx => (by simp at hx), hch⟩
  ·exact SLp
  ·rintro i wr ⟨hi, hf, hch⟩;refine Sr fun _ kh11 => ?_;refine WL.ev (Ev.lss rfl rfl) rfl ?_;refine zz (kh11 (zc fun _ kh13 => ?_));refine zy rfl ?_ ?_<;>intro hc2<;>try simp only [qs] at hc2
   ·have hx := D_getD hWl i
    refine zkk ?_;refine kh13 (zc fun _ kh14 => ?_);refine CW.block ?_;refine Sr fun _ kh15 => zm rfl (za rfl (zz (kh15 (Sr fun _ kh17 => zm rfl (zm rfl ?_)))));refine WL.ev (Ev.ixR (i) rfl rfl (hrl.keep0 hch) (by omega) (by omega) (by simp; omega)) rfl ?_;refine WL.ev (Ev.load rfl rfl ((hrl.keep0 hch).f64 (by first | omega | (simp; omega)))) rfl ?_;refine WL.call hasF130 rfl rfl (Class_spec (l.getD i 0) _ hx) fun v w1 h' => ?_;obtain ⟨rfl, hC⟩ := h';have hch := hch.ta hC;refine WL.ev (Ev.gtr rfl rfl) rfl ?_;refine zz (kh17 ?_);refine zy rfl ?_ ?_<;>intro hc3<;>try simp only [qs] at hc3
    ·have hnf : ¬ finL l := fun q => by have := finL_getD2 q (i := i) (by omega); omega
     refine Sr fun _ kh19 => za rfl (zz (kh19 ?_));refine zr (zr1 rfl rfl ?_);refine ⟨?_, hch⟩;unfold refuseE;rw [if_neg hlong, if_pos hnf]
    ·refine zkk ?_
     refine kh14 ?_;refine zR fun _ kr21 => ?_;(first | refine zi rfl rfl ?_ | refine zo rfl rfl ?_);refine zm rfl ?_;refine WL.nil (kr21 _ _ _ ?_);refine ⟨rfl, i + 1, ?_, ?_, ?_⟩
     ·exact SLp
     ·exact ⟨by omega, (finL_step (by omega)).2 ⟨hf, by omega⟩, hch⟩
     ·show l.length - (i + 1) < l.length - i; omega
   ·have hiX : i = l.length := by omega
    subst hiX;rw [List.take_length] at hf;refine CW.exit ?_;refine kh8 (zc fun _ kh22 => Sr fun _ kh23 => zm rfl (zn rfl (zq rfl rfl (zz (kh23 ?_)))));refine zy rfl ?_ ?_<;>intro hc4<;>try simp only [qs] at hc4
    ·have h0 : l = [] := List.length_eq_zero_iff.1 (by omega);refine Sr fun _ kh25 => za rfl (zz (kh25 ?_));refine zr (zr1 rfl rfl ?_);refine ⟨?_, hch⟩;unfold refuseE;rw [if_neg hlong, if_neg (fun q => q hf), if_pos h0]
    ·have h0 : l ≠ [] := fun q => by rw [q] at hc4; exact hc4 rfl
     refine zkk ?_;refine kh22 (Sr fun _ kh27 => za rfl (zz (kh27 ?_)));refine zr (zr1 rfl rfl ?_);refine ⟨?_, hch⟩;unfold refuseE;rw [if_neg hlong, if_neg (fun q => q hf), if_neg h0]

theorem qsorted_spec (v : Value) (l : List Nat) (w : World) (hv : NF w v l) (hl : l.length ≤ 65536) (hf : finL l) (hne : l ≠ []) : Ret Tryz.prog 57 [v] w fun u w' => GR w' 30 f64v w.heap.size [] u (sortP l) ∧ Chg [] w w' := by
 have hv0 := hv;obtain ⟨⟨al, cl, rfl, hcapl, hrl⟩, hWl, hll⟩ := hv;have hch : Chg [] w w := Chg.refl _ _;refine zE1 Tryz.func57 rfl ?_;refine Sr fun _ kh1 => za rfl (zz (kh1 (Sr fun _ kh3 => zm rfl ?_)));refine WL.call hasF131 rfl rfl (CloneF_spec _ l _ (hv0.keep0 hch) (by omega)) fun v w1 h' => ?_;obtain ⟨hgc, hC⟩ := h';have hch := hch.ta hC;refine za rfl (zz (kh3 (Sr fun _ kh5 => zm rfl ?_)));refine WL.call hasF132 rfl rfl (sortF_spec _ v l _ _ hWl hne (by omega) hgc) fun v w2 h' => ?_;obtain ⟨ls, hperm, hsrt, hcs, hgs⟩ := h';have hch := GR.frame hgc hcs hch (Nat.le_refl _);have hls : ls = sortP l := sortP_eq hperm hsrt (finL_nums hf hWl);subst hls;refine zz (kh5 (Sr fun _ kh7 => zm rfl (za rfl (zz (kh7 ?_)))));refine zr (zr1 rfl rfl ?_);exact ⟨hgs, hch⟩

theorem qmay_spec (rule mode : Int) (w : World) : Ret Tryz.prog 55 [.int .i64 rule, .int .i64 mode] w fun u w' => u = .bool (decide ((0 ≤ mode ∧ mode ≤ 4) ∧ (0 ≤ rule ∧ rule ≤ 4))) ∧ w = w' := by
 refine zE2 Tryz.func55 rfl ?_;refine Sr fun _ kh1 => za rfl (zz (kh1 (Sr fun _ kh3 => zm rfl ?_)));refine WL.ev (Ev.geq rfl rfl) rfl ?_;refine zm rfl ?_;refine zb ?_ ?_<;>intro hg1<;>try simp only [qs] at hg1
 ·refine zw rfl (zm rfl (zw rfl ?_));refine WL.ev (Ev.leq rfl rfl) rfl ?_
  refine zt rfl rfl (zm rfl ?_);refine zb ?_ ?_<;>intro hg2<;>try simp only [qs] at hg2
  ·refine zw rfl (zm rfl (zw rfl ?_));refine WL.ev (Ev.geq rfl rfl) rfl ?_
   refine zt rfl rfl (zm rfl ?_);refine zb ?_ ?_<;>intro hg3<;>try simp only [qs] at hg3
   ·refine zw rfl (zm rfl (zw rfl ?_));refine WL.ev (Ev.leq rfl rfl) rfl ?_
    refine zt rfl rfl (za rfl (zz (kh3 ?_)));refine zr (zr1 rfl rfl ?_);refine ⟨congrArg Value.bool ?_, rfl⟩
    first | exact (decide_eq_true (by omega)).symm | exact (decide_eq_false (by omega)).symm | exact decide_eq_decide.2 (by omega)
   ·refine zv rfl (zv rfl (ze rfl rfl (za rfl (zz (kh3 ?_)))));refine zr (zr1 rfl rfl ?_);refine ⟨congrArg Value.bool ?_, rfl⟩
    first | exact (decide_eq_true (by omega)).symm | exact (decide_eq_false (by omega)).symm | exact decide_eq_decide.2 (by omega)
  ·refine zv rfl (zv rfl (ze rfl rfl (zm rfl (zv rfl (zv rfl (ze rfl rfl (za rfl (zz (kh3 ?_)))))))));refine zr (zr1 rfl rfl ?_);refine ⟨congrArg Value.bool ?_, rfl⟩
   first | exact (decide_eq_true (by omega)).symm | exact (decide_eq_false (by omega)).symm | exact decide_eq_decide.2 (by omega)
 ·refine zv rfl (zv rfl (ze rfl rfl (zm rfl (zv rfl (zv rfl (ze rfl rfl (zm rfl (zv rfl (zv rfl (ze rfl rfl (za rfl (zz (kh3 ?_)))))))))))));refine zr (zr1 rfl rfl ?_);refine ⟨congrArg Value.bool ?_, rfl⟩
  first | exact (decide_eq_true (by omega)).symm | exact (decide_eq_false (by omega)).symm | exact decide_eq_decide.2 (by omega)

end

/- Equality of numbers' parts. No condition. -/
section
open Go Sx

theorem fieldsOf_of {P : Program} {t : TypeId} {fs : Array Field} (h : P.underlying t = some (.struct fs)) : P.fieldsOf t = fs := by unfold Program.fieldsOf; rw [h]
theorem run_eqParts (n1 n2 : Bool) (c1 c2 e1 e2 f1 f2 : Int) (w : World) : (Op.equalIn 10000 193 (.agg [.bool n1, .int .i64 c1, .int .i64 e1, .int .u64 f1].toArray) (.agg [.bool n2, .int .i64 c2, .int .i64 e2, .int .u64 f2].toArray)).run Tryz.prog w = .ok (n1 == n2 && (c1 == c2 && (e1 == e2 && f1 == f2))) w := by
  have hu := Tryz.underlying193
  have hf := fieldsOf_of hu
  have ht : Tryz.prog.underlying 193 = some (.struct (Program.fieldsOf Tryz.prog 193)) := by rw [hf]; exact hu
  rw [run_equalIn_struct w 9999 _ _ _ ht (by kernel_rfl), hf]
  have b1 : (isAgg 4).run Tryz.prog w = .ok false w := (inferInstance : HasT Tryz.prog 4 _ _ _ _).isAgg
  have b2 : (isAgg 3).run Tryz.prog w = .ok false w := (inferInstance : HasT Tryz.prog 3 _ _ _ _).isAgg
  have b3 : (isAgg 98).run Tryz.prog w = .ok false w := (inferInstance : HasT Tryz.prog 98 _ _ _ _).isAgg
  have q1 : ∀ a b : Bool, (Op.equalIn 9999 4 (.bool a) (.bool b)).run Tryz.prog w = .ok (a == b) w := fun a b => run_equalIn_bool' w 9998 _ a b Tryz.underlying4
  have q2 : ∀ a b : Int, (Op.equalIn 9999 3 (.int .i64 a) (.int .i64 b)).run Tryz.prog w = .ok (a == b) w := fun a b => run_equalIn_int w 9998 _ .i64 .i64 a b Tryz.underlying3
  have q3 : ∀ a b : Int, (Op.equalIn 9999 98 (.int .u64 a) (.int .u64 b)).run Tryz.prog w = .ok (a == b) w := fun a b => run_equalIn_int w 9998 _ .u64 .u64 a b Tryz.underlying98
  cases h1 : (n1 == n2) <;> cases h2 : (c1 == c2) <;> cases h3 : (e1 == e2) <;> cases h4 : (f1 == f2) <;> simp [Op.eqFields, part, b1, b2, b3, q1, q2, q3, h1, h2, h3, h4]
theorem Ev.eqlParts {s : Sl} {w : World} {ty t' : TypeId} {x y : Operand} {n1 n2 : Bool} {c1 c2 e1 e2 f1 f2 : Int} (hx : opnd s x = some (.agg [.bool n1, .int .i64 c1, .int .i64 e1, .int .u64 f1].toArray)) (hy : opnd s y = some (.agg [.bool n2, .int .i64 c2, .int .i64 e2, .int .u64 f2].toArray)) :
    Ev Tryz.prog s (.binOp .eql 193 x y t') ty w (.bool (n1 == n2 && (c1 == c2 && (e1 == e2 && f1 == f2)))) w :=
  run_bin hx hy (fun _ _ => run_eqGuard_agg _ _ _ _ _ _ _ (by kernel_rfl)) (by rw [run_eql_struct, run_eqParts]; rfl)
end

/- Package dyad: Of. No condition. -/
section
open Go Sx Wd Fl

theorem parts_eq (n b : Bool) (c f : Nat) (e : Int) : (n == b && ((c : Int) == 0 && (e == e && (f : Int) == 0))) = ((n == b) && decide (c = 0 ∧ f = 0)) := by
  have h1 : ((c : Int) == 0) = decide (c = 0) := by rw [Bool.eq_iff_iff]; simp
  have h2 : ((f : Int) == 0) = decide (f = 0) := by rw [Bool.eq_iff_iff]; simp
  rw [h1, h2, beq_self_eq_true, Bool.true_and, Bool.decide_and]
theorem cls0_frac {x : Nat} : (splitP x).cls = 0 → (splitP x).frac = 0 := by
  unfold splitP
  by_cases a : x / 4503599627370496 % 2048 = 2047 ∧ x % 4503599627370496 ≠ 0
  · rw [if_pos a]; simp
  · rw [if_neg a]
    by_cases b : x / 4503599627370496 % 2048 = 2047
    · rw [if_pos b]; simp
    · rw [if_neg b]
      by_cases d : 0 < x / 4503599627370496 % 2048
      · rw [if_pos d]; simp
      · rw [if_neg d]
        by_cases f : 0 < x % 4503599627370496
        · rw [if_pos f]; simp
        · rw [if_neg f]; simp
theorem splitP_frac (x : Nat) : (splitP x).frac < 9007199254740992 := by
  unfold splitP
  split
  · simp
  · split
    · simp
    · split
      · dsimp only; omega
      · split
        · dsimp only; omega
        · simp
theorem splitP_range (x : Nat) : -5000 ≤ (splitP x).exp ∧ (splitP x).exp ≤ 5000 := by
  unfold splitP
  split
  · simp
  · split
    · simp
    · split
      · dsimp only; omega
      · split
        · dsimp only; omega
        · simp

theorem dOf_spec (x : Nat) (w : World) (hx : x < 18446744073709551616) (hg : GW w) : Ret Tryz.prog 69 [.float .f64 x] w fun u w' => (((splitP x).cls ≤ 2 ∧ ∃ r, u = .tuple [.agg [.bool (sumD (fvI x)).neg, r, .int .i64 (sumD (fvI x)).e].toArray, .int .i64 0].toArray ∧ NU w' r (wd (sumD (fvI x)).m)) ∨ (¬ (splitP x).cls ≤ 2 ∧ u = .tuple [.agg [.bool false, .slice none 0 0, .int .i64 0].toArray, .int .i64 30].toArray)) ∧ Chg [] w w' := by
 have hch : Chg [] w w := Chg.refl _ _;refine zE1 Tryz.func69 rfl ?_;refine Sr fun _ kh1 => ?_;refine zAh rfl rfl hch fun b2 wm2 hb2 hcm2 hge2 hgehch2 hch => ?_;refine za rfl (zz (kh1 (Sr fun _ kh3 => zm rfl ?_)));refine WL.call hasF143 rfl rfl (Split_spec x _ hx) fun v w1 h' => ?_;obtain ⟨rfl, hC⟩ := h';have hch := hch.ta hC;have hb2 := hb2.k0 hC;refine WL.allocB (l := [.bool false, .int .i64 0, .int .i64 0, .int .u64 0]) rfl rfl fun b4 wm4 hb4 hcm4 hge4 => ?_;have hgehch4 := Nat.le_trans hch.size hge4;have hch := hch.ta hcm4;have hneb24 := zdd hb2.lt hge4;have hb2 := hb2.k0 hcm4;refine zss rfl rfl ao hb4 rfl fun ws1 hb4_ hcs1 => ?_;(try simp only [Sx.splice, qt] at hb4_);have hch := hch.s1 hcs1;have hb2 := hb2.kq hcs1;have hb4 := hb4_;refine zz (kh3 (Sr fun _ kh5 => zf rfl (zl hb4 rfl rfl ?_)));refine WL.ev (Ev.build (vs := _) (cs := [_, _, _, _]) rfl rfl) rfl ?_;refine WL.allocB (l := [.bool false, .int .i64 0, .int .i64 0, .int .u64 0]) rfl rfl fun b5 wm5 hb5 hcm5 hge5 => ?_;have hgehch5 := Nat.le_trans hch.size hge5;have hch := hch.ta hcm5;have hneb25 := zdd hb2.lt hge5;have hb2 := hb2.k0 hcm5;have hneb45 := zdd hb4.lt hge5;have hb4 := hb4.k0 hcm5;refine zss rfl rfl ao hb5 rfl fun ws2 hb5_ hcs2 => ?_;(try simp only [Sx.splice, qt] at hb5_);have hch := hch.s1 hcs2;have hb2 := hb2.kq hcs2;have hb4 := hb4.kq hcs2;have hb5 := hb5_;refine zz (kh5 (Sr fun _ kh7 => zg hb5 rfl ?_));refine WL.allocB (l := [.bool false, .int .i64 0, .int .i64 0, .int .u64 0]) rfl rfl fun b6 wm6 hb6 hcm6 hge6 => ?_;have hgehch6 := Nat.le_trans hch.size hge6;have hch := hch.ta hcm6;have hneb26 := zdd hb2.lt hge6;have hb2 := hb2.k0 hcm6;have hneb46 := zdd hb4.lt hge6;have hb4 := hb4.k0 hcm6;have hneb56 := zdd hb5.lt hge6;have hb5 := hb5.k0 hcm6;refine zss rfl rfl ao hb6 rfl fun ws3 hb6_ hcs3 => ?_;(try simp only [Sx.splice, qt] at hb6_);have hch := hch.s1 hcs3;have hb2 := hb2.kq hcs3;have hb4 := hb4.kq hcs3;have hb5 := hb5.kq hcs3;have hb6 := hb6_;refine zz (kh7 (Sr fun _ kh9 => zf rfl ?_));refine WL.storeC rfl rfl o1 hb6 (by simp) rfl fun ws4 hb6_ hcs4 => ?_;(try simp only [Sx.splice, qt] at hb6_);have hch := hch.s1 hcs4;have hb2 := hb2.kq hcs4;have hb4 := hb4.kq hcs4;have hb5 := hb5.kq hcs4;have hb6 := hb6_;refine zz (kh9 (zc fun _ kh11 => ?_));refine CW.block ?_;refine CW.seqM 14 (decide ((splitP x).cls = 3 ∨ (splitP x).cls = 4)) ?_ ?_
 ·refine zR fun _ kr12 => ?_;refine zf rfl (zl hb4 rfl rfl (zq rfl rfl (zm rfl ?_)));refine zb ?_ ?_<;>intro hg1<;>try simp only [qs] at hg1
  ·refine zv rfl (zv rfl (zv rfl (zt rfl rfl (za rfl ?_))));refine WL.nil (kr12 _ _ _ ?_);refine ⟨rfl, rfl, Subs.consB rfl ?_ ?_⟩
   ·first | (simp; omega) | (simp_all; done) | (refine decide_eq_decide.2 ?_; omega)
   ·exact SMg
  ·refine zw rfl (zf rfl (zw rfl (zl hb4 rfl rfl (zw rfl (zq rfl rfl (ze rfl rfl (za rfl ?_)))))));refine WL.nil (kr12 _ _ _ ?_);refine ⟨rfl, rfl, Subs.consB rfl ?_ ?_⟩
   ·first | (simp; omega) | (simp_all; done) | (refine decide_eq_decide.2 ?_; omega)
   ·exact SMg
 ·refine zy rfl ?_ ?_<;>intro hc2<;>try simp only [qs] at hc2
  ·have hodd : ¬ (splitP x).cls ≤ 2 := by have := hc2; omega
   refine Sr fun _ kh13 => ?_;refine WL.ev (Ev.build (vs := _) (cs := [_, _, _]) rfl rfl) rfl ?_;refine zss rfl rfl ao hb2 rfl fun ws5 hb2_ hcs5 => ?_;(try simp only [Sx.splice, qt] at hb2_);have hch := hch.s1 hcs5;have hb2 := hb2_;refine za rfl (zz (kh13 ?_));refine zr (bodyA.retR2 rfl (RVal.cell rfl (hb2.varA rfl rfl)) (RVal.tmp rfl) ?_);exact ⟨.inr ⟨hodd, rfl⟩, hch⟩
  ·have hfx : (splitP x).cls ≤ 2 := by have := hc2; have := splitP_cls x; omega
   refine CW.seqM 24 (decide ((splitP x).cls = 0 ∧ (splitP x).frac = 0)) ?_ ?_
   ·refine zR fun _ kr15 => ?_;refine zg hb4 rfl (zg hb5 rfl ?_);refine WL.ev (Ev.eqlParts rfl rfl) rfl ?_;rw [parts_eq];refine zm rfl ?_;refine zb ?_ ?_<;>intro hg3<;>try simp only [qs] at hg3
    ·refine zv rfl (zv rfl (zv rfl (zt rfl rfl (za rfl ?_))));refine WL.nil (kr15 _ _ _ ?_);refine ⟨rfl, rfl, Subs.consB rfl ?_ ?_⟩
     ·generalize (splitP x).neg = nn at *
      by_cases hP : (splitP x).cls = 0 ∧ (splitP x).frac = 0
      · (try rw [decide_eq_true hP] at *) <;> cases nn <;> simp_all
      · (try rw [decide_eq_false hP] at *) <;> cases nn <;> simp_all
     ·exact SMg
    ·refine zw rfl (zg hb4 rfl (zw rfl (zg hb6 rfl (zw rfl ?_))));refine WL.ev (Ev.eqlParts rfl rfl) rfl ?_
     rw [parts_eq];refine ze rfl rfl (za rfl ?_);refine WL.nil (kr15 _ _ _ ?_);refine ⟨rfl, rfl, Subs.consB rfl ?_ ?_⟩
     ·generalize (splitP x).neg = nn at *
      by_cases hP : (splitP x).cls = 0 ∧ (splitP x).frac = 0
      · (try rw [decide_eq_true hP] at *) <;> cases nn <;> simp_all
      · (try rw [decide_eq_false hP] at *) <;> cases nn <;> simp_all
     ·exact SMg
   ·refine zy rfl ?_ ?_<;>intro hc4<;>try simp only [qs] at hc4
    ·have hq : (splitP x).cls = 0 ∧ (splitP x).frac = 0 := hc4
     refine Sr fun _ kh16 => ?_;refine WL.ev (Ev.build (vs := _) (cs := [_, _, _]) rfl rfl) rfl ?_;refine zss rfl rfl ao hb2 rfl fun ws6 hb2_ hcs6 => ?_;(try simp only [Sx.splice, qt] at hb2_);have hch := hch.s1 hcs6;have hb2 := hb2_;refine za rfl (zz (kh16 ?_));refine zr (bodyA.retR2 rfl (RVal.cell rfl (hb2.varA rfl rfl)) (RVal.tmp rfl) ?_);refine ⟨.inl ⟨hfx, ?_⟩, hch⟩;have hz : fvI x = 0 := fvI_zero (by omega);rw [hz];exact ⟨.slice none 0 0, rfl, by rw [show (sumD 0).m = 0 from rfl, wd_zero]; exact NU.nil⟩
    ·have hq : (splitP x).cls = 1 ∨ (splitP x).cls = 2 := by have := hc4; have h2 := cls0_frac (x := x); omega
     have hff := fin_form hq;have hfl := splitP_frac x;have hex := splitP_range x;refine zkk ?_;refine kh11 (zc fun _ kh18 => ?_);refine CW.regionKC 10 12 rfl hmix fun kR19 kr19 hS hdr => ?_;have hch := hch.ta hdr;have hb2 := hb2.k0 hdr;have hb4 := hb4.k0 hdr;have hb4_r := hb4;refine wk 0 rfl hS (fun _ _ => Ev.fieldAddr rfl) (wk 1 rfl hS (fun _ hw' => Ev.load rfl rfl ((hb4_r.keep0 hw').at_ rfl)) (wk 2 rfl hS (fun _ _ => Ev.fieldAddr rfl) (wk 3 rfl hS (fun _ hw' => Ev.load rfl rfl ((hb4_r.keep0 hw').at_ rfl)) (wk 5 rfl hS (fun _ _ => Ev.fieldAddr rfl) (wk 6 rfl hS (fun _ hw' => Ev.load rfl rfl ((hb4_r.keep0 hw').at_ rfl)) ?_)))));refine WK.oneCall 4 rfl (by kernel_rfl) hasF145 rfl rfl (Of_spec (splitP x).frac _ (by omega)) fun v w2 h' => ?_;obtain ⟨hN, hC⟩ := h';have hch := hch.ta hC;have hb2 := hb2.k0 hC;have hS := hS.trans hC;refine ⟨hS, ?_⟩;refine WK.oneCall 7 rfl (by kernel_rfl) hasF144 rfl rfl (form_spec (splitP x).neg _ (wd (splitP x).frac) (splitP x).exp _ hN (hg.keep0 hch) (by omega)) fun v w3 h' => ?_;obtain ⟨hD, hC⟩ := h';rw [val_wd, hff] at hD;obtain ⟨r, d, hd, rfl, hNr⟩ := hD.resolve_right (fun q => by cases q.1);cases hd;have hch := hch.ta hC;have hb2 := hb2.k0 hC;have hS := hS.trans hC;refine ⟨hS, ?_⟩;refine wk 8 rfl hS (fun _ _ => Ev.extract rfl rfl) (wk 9 rfl hS (fun _ _ => Ev.extract rfl rfl) ?_);refine WK.storeB 10 rfl (by kernel_rfl) (by kernel_rfl) rfl rfl rfl ao hb2 (by simp) rfl fun ws7 hb2_ hcs7 => ?_;(try simp only [Sx.splice, qt] at hb2_);have hch := hch.s1 hcs7;have hNr := hNr.keepBK hb2 hcs7 an;have hb2 := hb2_;refine WK.after 11 rfl (by kernel_rfl) (by kernel_rfl) (Ev.assign rfl) rfl ?_;refine WK.done (by kernel_rfl) (kr19 _ _ _ ?_);refine kh18 ?_;refine zr (bodyA.retR2 rfl (RVal.cell rfl (hb2.varA rfl rfl)) (RVal.tmp rfl) ?_);exact ⟨.inl ⟨hfx, r, rfl, hNr⟩, hch⟩

end

/- Package quant: between two numbers. No condition. -/
section
open Go Sx Wd Fl

theorem qline_spec (x y num den : Nat) (mode : Int) (w : World) (hx : x < 18446744073709551616) (hy : y < 18446744073709551616) (hfx : (splitP x).cls ≤ 2) (hfy : (splitP y).cls ≤ 2) (hn : 1 ≤ num) (hnd : num < den) (hd : den ≤ 2147483648) (hg : GW w) : Ret Tryz.prog 134 [.float .f64 x, .float .f64 y, .int .i64 (num : Int), .int .i64 (den : Int), .int .i64 mode] w fun u w' => (∃ bits e, u = .tuple [.float .f64 bits, .int .i64 e].toArray ∧ lineR x y num den mode bits e) ∧ Chg [] w w' := by
 have hch : Chg [] w w := Chg.refl _ _;have hg0 := hg;have hokX := rsumD_ok (fvI_in x);have hokY := rsumD_ok (fvI_in y);have hokm := intD_ok (n := ((den - num : Nat) : Int)) (by omega);have hokn := intD_ok (n := (num : Int)) (by omega);have hokd := intD_ok (n := (den : Int)) (by omega);have hPx := fv_small x (n := den - num) (by omega);have hPy := fv_small y (n := num) (by omega);have hV := lineV_in (x := x) (y := y) (num := num) (den := den) (by omega) hd;have hokPx := rsumD_ok hPx;have hokPy := rsumD_ok hPy;have hokV := rsumD_ok hV;have hsf := (sift_fin (l := [x, y]) (pn := 0) (pi := 0) (by intro z hz; simp only [List.mem_cons, List.not_mem_nil, or_false] at hz; rcases hz with rfl | rfl <;> assumption) (by simp) ⟨by decide, by decide⟩).1;refine zE5 Tryz.func134 rfl ?_;refine Sr fun _ kh1 => za rfl (za rfl (zz (kh1 (Sr fun _ kh3 => zm rfl ?_))));refine WL.call hasF69 rfl rfl (dOf_spec (x) _ hx (hg0.keep0 hch)) fun v w1 h' => ?_;obtain ⟨hD, hC⟩ := h';obtain ⟨-, rx, rfl, hNx⟩ := hD.resolve_right (fun q => q.1 hfx);have hch := hch.ta hC;refine zm rfl (zx rfl rfl (zx rfl rfl ?_));refine zAh rfl rfl hch fun b12 wm12 hb12 hcm12 hge12 hgehch12 hch => ?_;have hNx := hNx.keep0 hcm12;refine zss rfl rfl ao hb12 rfl fun ws1 hb12_ hcs1 => ?_;(try simp only [Sx.splice, qt] at hb12_);have hch := hch.s1 hcs1;have hNx := hNx.keepBK hb12 hcs1 an;have hb12 := hb12_;refine za rfl (zz (kh3 (Sr fun _ kh5 => zm rfl ?_)));refine WL.call hasF69 rfl rfl (dOf_spec (y) _ hy (hg0.keep0 hch)) fun v w2 h' => ?_;obtain ⟨hD, hC⟩ := h';obtain ⟨-, ry, rfl, hNy⟩ := hD.resolve_right (fun q => q.1 hfy);have hch := hch.ta hC;have hb12 := hb12.k0 hC;have hNx := hNx.keep0 hC;refine zm rfl (zx rfl rfl (zx rfl rfl ?_));refine zAh rfl rfl hch fun b14 wm14 hb14 hcm14 hge14 hgehch14 hch => ?_;have hNx := hNx.keep0 hcm14;have hNy := hNy.keep0 hcm14;have hneb1214 := zdd hb12.lt hge14;have hb12 := hb12.k0 hcm14;refine zss rfl rfl ao hb14 rfl fun ws2 hb14_ hcs2 => ?_;(try simp only [Sx.splice, qt] at hb14_);have hch := hch.s1 hcs2;have hb12 := hb12.kq hcs2;have hNx := hNx.keepBK hb14 hcs2 an;have hNy := hNy.keepBK hb14 hcs2 an;have hb14 := hb14_;refine za rfl (zz (kh5 (zc fun _ kh7 => ?_)));refine CW.regionKC 9 10 rfl hmix fun kR8 kr8 hS hdr => ?_;have hch := hch.ta hdr;have hb12 := hb12.k0 hdr;have hb14 := hb14.k0 hdr;have hNx := hNx.keep0 hdr;have hNy := hNy.keep0 hdr;have hb12_r := hb12;have hb14_r := hb14;refine wk 0 rfl hS (fun _ hw' => Ev.loadA rfl rfl (hb12_r.keep0 hw') rfl) (wk 1 rfl hS (fun _ _ => Ev.move rfl) (wk 2 rfl hS (fun _ _ => Ev.move rfl) (wk 3 rfl hS (fun _ _ => Ev.subIn rfl rfl (by omega)) ?_)));rw [show (den : Int) - (num : Int) = ((den - num : Nat) : Int) by omega]
 refine WK.oneCall 4 rfl (by kernel_rfl) hasF180 rfl rfl (Int_spec ((den - num : Nat) : Int) _ (hg0.keep0 hch) (by omega)) fun v w3 h' => ?_;obtain ⟨⟨ria, rfl, hNia⟩, hC⟩ := h';have hch := hch.ta hC;have hb12 := hb12.k0 hC;have hb14 := hb14.k0 hC;have hNx := hNx.keep0 hC;have hNy := hNy.keep0 hC;have hS := hS.trans hC;refine ⟨hS, ?_⟩;refine WK.oneCall 5 rfl (by kernel_rfl) hasF154 rfl rfl (Mul_dspec (sumD (fvI x)).neg (intD ((den - num : Nat) : Int)).neg _ _ (wd (sumD (fvI x)).m) (wd (intD ((den - num : Nat) : Int)).m) (sumD (fvI x)).e (intD ((den - num : Nat) : Int)).e _ hNx hNia (hg0.keep0 hch) (ok_e hokX) (ok_e hokm)) fun v w4 h' => ?_;obtain ⟨hD, hC⟩ := h';rw [val_wd, val_wd, formD_sumD (fvI_in x), formD_self hokm, show both2 mulD (some (sumD (fvI x))) (some (intD ((den - num : Nat) : Int))) = mulD (sumD (fvI x)) (intD ((den - num : Nat) : Int)) from rfl, mulD_int (fvI_in x) (by omega) (by omega) hPx] at hD;obtain ⟨rpx, dpx, hdpx, rfl, hNpx⟩ := hD.resolve_right (fun q => by cases q.1);cases hdpx;have hch := hch.ta hC;have hb12 := hb12.k0 hC;have hb14 := hb14.k0 hC;have hNy := hNy.keep0 hC;have hS := hS.trans hC;refine ⟨hS, ?_⟩;refine wk 6 rfl hS (fun _ _ => Ev.move rfl) (wk 7 rfl hS (fun _ _ => Ev.extract rfl rfl) ?_);refine WK.takeT 8 rfl (by kernel_rfl) (by kernel_rfl) (by kernel_rfl) (by kernel_rfl) (fun _ => hS) (fun w' => Ev.extract rfl rfl) rfl ?_;refine WK.storeB 9 rfl (by kernel_rfl) (by kernel_rfl) rfl rfl rfl ao hb12 (by simp) rfl fun ws3 hb12_ hcs3 => ?_;(try simp only [Sx.splice, qt] at hb12_);have hch := hch.s1 hcs3;have hb14 := hb14.kq hcs3;have hNy := hNy.keepBK hb12 hcs3 an;have hNpx := hNpx.keepBK hb12 hcs3 an;have hb12 := hb12_;refine WK.done (by kernel_rfl) (kr8 _ _ _ ?_);refine kh7 (zc fun _ kh9 => ?_);refine CW.regionKC 7 8 rfl hmix fun kR10 kr10 hS hdr => ?_;have hch := hch.ta hdr;have hb12 := hb12.k0 hdr;have hb14 := hb14.k0 hdr;have hNy := hNy.keep0 hdr;have hNpx := hNpx.keep0 hdr;have hb14_r := hb14;refine wk 0 rfl hS (fun _ hw' => Ev.loadA rfl rfl (hb14_r.keep0 hw') rfl) (wk 1 rfl hS (fun _ _ => Ev.move rfl) ?_);refine WK.oneCall 2 rfl (by kernel_rfl) hasF180 rfl rfl (Int_spec ((num : Nat) : Int) _ (hg0.keep0 hch) (by omega)) fun v w5 h' => ?_;obtain ⟨⟨rib, rfl, hNib⟩, hC⟩ := h';have hch := hch.ta hC;have hb12 := hb12.k0 hC;have hb14 := hb14.k0 hC;have hNy := hNy.keep0 hC;have hNpx := hNpx.keep0 hC;have hS := hS.trans hC;refine ⟨hS, ?_⟩;refine WK.oneCall 3 rfl (by kernel_rfl) hasF154 rfl rfl (Mul_dspec (sumD (fvI y)).neg (intD ((num : Nat) : Int)).neg _ _ (wd (sumD (fvI y)).m) (wd (intD ((num : Nat) : Int)).m) (sumD (fvI y)).e (intD ((num : Nat) : Int)).e _ hNy hNib (hg0.keep0 hch) (ok_e hokY) (ok_e hokn)) fun v w6 h' => ?_;obtain ⟨hD, hC⟩ := h';rw [val_wd, val_wd, formD_sumD (fvI_in y), formD_self hokn, show both2 mulD (some (sumD (fvI y))) (some (intD ((num : Nat) : Int))) = mulD (sumD (fvI y)) (intD ((num : Nat) : Int)) from rfl, mulD_int (fvI_in y) (by omega) (by omega) hPy] at hD
 obtain ⟨rpy, dpy, hdpy, rfl, hNpy⟩ := hD.resolve_right (fun q => by cases q.1);cases hdpy;have hch := hch.ta hC;have hb12 := hb12.k0 hC;have hb14 := hb14.k0 hC;have hNpx := hNpx.keep0 hC;have hS := hS.trans hC;refine ⟨hS, ?_⟩;refine wk 4 rfl hS (fun _ _ => Ev.move rfl) (wk 5 rfl hS (fun _ _ => Ev.extract rfl rfl) ?_);refine WK.takeT 6 rfl (by kernel_rfl) (by kernel_rfl) (by kernel_rfl) (by kernel_rfl) (fun _ => hS) (fun w' => Ev.extract rfl rfl) rfl ?_;refine WK.storeB 7 rfl (by kernel_rfl) (by kernel_rfl) rfl rfl rfl ao hb14 (by simp) rfl fun ws4 hb14_ hcs4 => ?_;(try simp only [Sx.splice, qt] at hb14_);have hch := hch.s1 hcs4;have hb12 := hb12.kq hcs4;have hNpx := hNpx.keepBK hb14 hcs4 an;have hNpy := hNpy.keepBK hb14 hcs4 an;have hb14 := hb14_;refine WK.done (by kernel_rfl) (kr10 _ _ _ ?_);refine kh9 (Sr fun _ kh11 => zg hb12 rfl (zg hb14 rfl ?_));refine WL.call hasF70 rfl rfl (Add_dspec (sumD (fvI x * ((den - num : Nat) : Int))).neg (sumD (fvI y * ((num : Nat) : Int))).neg _ _ (wd (sumD (fvI x * ((den - num : Nat) : Int))).m) (wd (sumD (fvI y * ((num : Nat) : Int))).m) (sumD (fvI x * ((den - num : Nat) : Int))).e (sumD (fvI y * ((num : Nat) : Int))).e _ hNpx hNpy (hg0.keep0 hch) (ok_e hokPx) (ok_e hokPy)) fun v w7 h' => ?_;obtain ⟨hD, hC⟩ := h';rw [val_wd, val_wd, formD_sumD hPx, formD_sumD hPy, show both2 addD (some (sumD (fvI x * ((den - num : Nat) : Int)))) (some (sumD (fvI y * ((num : Nat) : Int)))) = addD (sumD (fvI x * ((den - num : Nat) : Int))) (sumD (fvI y * ((num : Nat) : Int))) from rfl, addD_sum hPx hPy hV, show (fvI x * ((den - num : Nat) : Int)) + (fvI y * ((num : Nat) : Int)) = lineV x y num den from rfl] at hD;obtain ⟨rv, dv, hdv, rfl, hNv⟩ := hD.resolve_right (fun q => by cases q.1);cases hdv;have hch := hch.ta hC;refine zm rfl (zx rfl rfl (zx rfl rfl ?_));refine zAh rfl rfl hch fun b16 wm16 hb16 hcm16 hge16 hgehch16 hch => ?_;have hNv := hNv.keep0 hcm16;refine zss rfl rfl ao hb16 rfl fun ws5 hb16_ hcs5 => ?_;(try simp only [Sx.splice, qt] at hb16_);have hch := hch.s1 hcs5;have hNv := hNv.keepBK hb16 hcs5 an;have hb16 := hb16_;refine za rfl (zz (kh11 (zc fun _ kh13 => Sr fun _ kh14 => zg hb16 rfl ?_)));refine WL.call hasF100 rfl rfl (Sign_dspec (sumD (lineV x y num den)).neg _ (wd (sumD (lineV x y num den)).m) (sumD (lineV x y num den)).e _ hNv) fun v w8 h' => ?_;obtain ⟨rfl, hC⟩ := h';rw [val_wd];have hch := hch.ta hC;have hb16 := hb16.k0 hC;have hNv := hNv.keep0 hC;refine zq rfl rfl (zz (kh14 ?_));refine zy rfl ?_ ?_<;>intro hc1<;>try simp only [qs] at hc1
 ·have hz : (sumD (lineV x y num den)).m = 0 := sgD_zero.1 hc1
  refine Sr fun _ kh16 => zm rfl (zm rfl ?_);refine WL.buildSlice (m := 2) (cs := [f64v (x), f64v (y)]) (by decide) (by decide) rfl (by kernel_rfl) rfl fun b59 w59 hn59 => ?_;have hcm59 := hn59.chg;have hge59 := hn59.ge;have hb59 : FB w59 b59 _ [x, y] := hn59.at_;have hgehch59 := Nat.le_trans hch.size hge59;have hch := hch.ta hcm59;refine WL.call hasF153 rfl rfl (Plain_spec _) fun v w9 h' => ?_;obtain ⟨rfl, hC⟩ := h';have hch := hch.ta hC;have hb59 := hb59.k0 hC;refine WL.call hasF111 rfl rfl (Sift_spec _ [x, y] 0 0 _ ((NF.of_row hb59.row (by intro z hz; simp only [List.mem_cons, List.not_mem_nil, or_false] at hz; rcases hz with rfl | rfl <;> assumption) (by simp) rfl (by simp)))) fun v w10 h' => ?_;obtain ⟨-, v2, hNf, rfl, hC⟩ := h'.resolve_left (fun q => q.1 hsf);have ho2 := hNf.one;unfold SP.cells;have hch := hch.ta hC;refine zm rfl (zx rfl rfl (zx rfl rfl (zx rfl rfl ?_)));refine WL.allocB (l := [.int .i64 0, .int .i64 0, .int .i64 0, .int .i64 0, .int .i64 0, .int .i64 0]) rfl rfl fun b19 wm19 hb19 hcm19 hge19 => ?_;have hgehch19 := Nat.le_trans hch.size hge19;have hch := hch.ta hcm19;refine za rfl ?_;refine zss rfl rfl ao hb19 rfl fun ws6 hb19_ hcs6 => ?_;(try simp only [Sx.splice, qt] at hb19_);have hch := hch.s1 hcs6;have hb19 := hb19_;refine za rfl (zz (kh16 (Sr fun _ kh18 => zg hb19 rfl (zm rfl ?_))));refine WL.call hasF101 rfl rfl (Nought_spec (cntP [x, y]) mode _ ((cnt_le [x, y]).mono (by simp))) fun v w11 h' => ?_;obtain ⟨rfl, hC⟩ := h';have hch := hch.ta hC;refine za rfl (za rfl (zz (kh18 ?_)));refine zr (zr2 rfl rfl rfl ?_);exact ⟨⟨_, _, rfl, .inl ⟨hz, rfl, rfl⟩⟩, hch⟩
 ·have hz : (sumD (lineV x y num den)).m ≠ 0 := fun q => hc1 (sgD_zero.2 q);refine zkk ?_
  refine kh13 (zc fun _ kh20 => ?_);refine CW.regionHC 10 rfl hmix fun kR21 kr21 hS hdr => ?_;have hch := hch.ta hdr;have hb16 := hb16.k0 hdr;have hNv := hNv.keep0 hdr;have hb16_r := hb16;refine wh 0 rfl hS (fun _ hw' => Ev.loadA rfl rfl (hb16_r.keep0 hw') rfl) (wh 1 rfl hS (fun _ _ => Ev.move rfl) (wh 4 rfl hS (fun _ _ => Ev.move rfl) ?_));refine WH.oneCall 2 rfl (by kernel_rfl) hasF180 rfl rfl (Int_spec ((den : Nat) : Int) _ (hg0.keep0 hch) (by omega)) fun v w12 h' => ?_;obtain ⟨⟨ric, rfl, hNic⟩, hC⟩ := h';have hch := hch.ta hC;have hNv := hNv.keep0 hC;have hS := hS.trans hC;refine ⟨hS, ?_⟩;refine wh 3 rfl hS (fun _ _ => Ev.build (vs := _) (cs := [_, _, _, _, _, _]) rfl rfl) ?_;refine WH.oneCall 5 rfl (by kernel_rfl) hasF116 rfl rfl (Quot_spec (sumD (lineV x y num den)).neg (intD (den : Int)).neg _ _ (wd (sumD (lineV x y num den)).m) (wd (intD (den : Int)).m) (sumD (lineV x y num den)).e (intD (den : Int)).e mode _ hNv hNic (hg0.keep0 hch) (ok_e hokV) (ok_e hokd)) fun v w13 h' => ?_;obtain ⟨⟨bits, e, rfl, hQ⟩, hC⟩ := h';rw [val_wd, val_wd] at hQ;have hch := hch.ta hC;have hS := hS.trans hC;refine ⟨hS, ?_⟩;refine wh 6 rfl hS (fun _ _ => Ev.extract rfl rfl) (wh 7 rfl hS (fun _ _ => Ev.extract rfl rfl) (wh 8 rfl hS (fun _ _ => Ev.assign rfl) (wh 9 rfl hS (fun _ _ => Ev.assign rfl) ?_)));refine WH.done (by kernel_rfl) (kr21 _ _ _ ?_);refine kh20 ?_;refine zr (zr2 rfl rfl rfl ?_);exact ⟨⟨_, _, rfl, .inr ⟨hz, hQ⟩⟩, hch⟩

end

/- Package quant: at a share. No condition. -/
section
open Go Sx Wd Fl

theorem qat_spec (v : Value) (s : List Nat) (num den : Nat) (rule mode : Int) (w : World) (hv : NF w v s) (hs : Row s) (hl : s.length ≤ 65536) (hn : num ≤ den) (hd : 1 ≤ den ∧ den ≤ 2147483648) (hg : GW w) : Ret Tryz.prog 58 [v, .int .i64 (num : Int), .int .i64 (den : Int), .int .i64 rule, .int .i64 mode] w fun u w' => (∃ bits e, u = .tuple [.float .f64 bits, .int .i64 e].toArray ∧ atR s num den rule mode bits e) ∧ Chg [] w w' := by
 have hv0 := hv;obtain ⟨⟨al, cl, rfl, hcapl, hrl⟩, hWl, hll⟩ := hv;have hch : Chg [] w w := Chg.refl _ _;have hg0 := hg;have hpos := hs.pos;obtain ⟨p1, p2⟩ := place_lt (m := s.length - 1) (num := num) hd.1 hn;have hplb : (s.length - 1) * num ≤ 65536 * 2147483648 := Nat.mul_le_mul (by omega) (by omega);generalize hpl : (s.length - 1) * num = pl at *;have hpl := hpl.symm;refine zE5 Tryz.func58 rfl ?_;refine Sr fun _ kh1 => za rfl (za rfl (zz (kh1 (Sr fun _ kh3 => zm rfl (zn rfl ?_)))));refine WL.ev (Ev.subIn rfl rfl (by omega)) rfl ?_;rw [show ((s.length : Nat) : Int) - 1 = ((s.length - 1 : Nat) : Int) by omega];refine zm rfl ?_;refine WL.ev (Ev.mulIn rfl rfl (by rw [← Int.natCast_mul, ← hpl]; omega)) rfl ?_;rw [← Int.natCast_mul, ← hpl];refine za rfl (zz (kh3 (zc fun _ kh5 => ?_)));refine CW.regionSC hmix (by kernel_rfl) fun kR6 kr6 hdr => ?_;have hch := hch.ta hdr;refine ym rfl (ym rfl ?_);refine WS.ev (Ev.quoIn rfl rfl (by omega) (by simp only [IntKind.max, IntKind.signed, IntKind.bits]; omega) (by omega)) rfl ?_;rw [show (pl : Int) / (den : Int) = ((pl / den : Nat) : Int) from rfl];refine ym rfl (ym rfl ?_);refine WS.ev (Ev.remIn rfl rfl (by omega) (by omega)) rfl ?_;rw [show (pl : Int) % (den : Int) = ((pl % den : Nat) : Int) from rfl];have hm1 := Nat.mod_lt pl (show den > 0 by omega);generalize hi : pl / den = i at *;generalize hr : pl % den = r at *;have hx := lt_getD2 hWl i;have hfx := finL_getD2 hs.fin (i := i) (by omega);refine ya rfl (ya rfl ?_);refine WS.nil (kr6 _ _ ?_);refine kh5 (zc fun _ kh7 => ?_);refine CW.seqM 34 (decide (r = 0 ∨ rule = 0)) ?_ ?_
 ·refine zR fun _ kr8 => ?_;refine zm rfl (zq rfl rfl (zm rfl ?_));refine zb ?_ ?_<;>intro hg1<;>try simp only [qs] at hg1
  ·refine zv rfl (zv rfl (zt rfl rfl ?_));refine WL.nil (kr8 _ _ _ ?_);refine ⟨rfl, rfl, Subs.consB rfl ?_ ?_⟩
   ·first | (simp; omega) | (simp_all; done) | (refine decide_eq_decide.2 ?_; omega)
   ·exact SMg
  ·refine zw rfl (zm rfl (zw rfl (zq rfl rfl (ze rfl rfl ?_))));refine WL.nil (kr8 _ _ _ ?_);refine ⟨rfl, rfl, Subs.consB rfl ?_ ?_⟩
   ·first | (simp; omega) | (simp_all; done) | (refine decide_eq_decide.2 ?_; omega)
   ·exact SMg
 ·refine zy rfl ?_ ?_<;>intro hc2<;>try simp only [qs] at hc2
  ·have hq : r = 0 ∨ rule = 0 := hc2
   refine Sr fun _ kh9 => zm rfl (zm rfl ?_);refine WL.ev (Ev.ixR (i) rfl rfl (hrl.keep0 hch) (by omega) (by omega) (by simp; omega)) rfl ?_;refine WL.ev (Ev.load rfl rfl ((hrl.keep0 hch).f64 (by first | omega | (simp; omega)))) rfl ?_;refine za rfl (za rfl (zz (kh9 ?_)));refine zr (zr2 rfl rfl rfl ?_);refine ⟨⟨_, _, rfl, ?_⟩, hch⟩;unfold atR;rw [← hpl, hi, hr, if_pos hq];exact ⟨rfl, rfl⟩
  ·have hq : ¬ (r = 0 ∨ rule = 0) := hc2
   have hi2 := p2 (fun q => hq (.inl q));have hy := lt_getD2 hWl (i + 1);have hfy := finL_getD2 hs.fin (i := i + 1) (by omega);refine zkk ?_;refine kh7 (zc fun _ kh11 => ?_);refine CW.regionSC hmix (by kernel_rfl) fun kR12 kr12 hdr => ?_;have hch := hch.ta hdr;refine ym rfl (ym rfl ?_);refine WS.ev (Ev.ixR (i) rfl rfl (hrl.keep0 hch) (by omega) (by omega) (by simp; omega)) rfl ?_;refine WS.ev (Ev.load rfl rfl ((hrl.keep0 hch).f64 (by first | omega | (simp; omega)))) rfl ?_;refine ym rfl (ym rfl ?_)
   first | refine WS.ev (Ev.addIn rfl rfl (by omega)) rfl ?_ | refine WS.ev (Ev.add rfl rfl) rfl ?_
   refine WS.ev (Ev.ixR ((i + 1)) rfl rfl (hrl.keep0 hch) (by omega) (by omega) (by simp; omega)) rfl ?_;refine WS.ev (Ev.load rfl rfl ((hrl.keep0 hch).f64 (by first | omega | (simp; omega)))) rfl ?_;refine ya rfl (ya rfl ?_);refine WS.nil (kr12 _ _ ?_);refine kh11 (zc fun _ kh13 => Sr fun _ kh14 => zm rfl (zz (kh14 ?_)));refine CW.block ?_;refine Sr fun _ kh16 => zq rfl rfl (za rfl (zz (kh16 ?_)));refine zy rfl ?_ ?_<;>intro hc3<;>try simp only [qs] at hc3
   ·have h3 : rule = 3 := hc3
    refine Sr fun _ kh18 => zm rfl (zm rfl (zm rfl ?_));refine WL.call hasF133 rfl rfl (Middle_spec (s.getD i 0) (s.getD (i + 1) 0) mode _ hx hy (hg0.keep0 hch)) fun v w1 h' => ?_;obtain ⟨⟨bits, e, rfl, hM⟩, hC⟩ := h';have hch := hch.ta hC;refine zx rfl rfl (zx rfl rfl (za rfl (za rfl (zz (kh18 ?_)))));refine zr (zr2 rfl rfl rfl ?_);refine ⟨⟨_, _, rfl, ?_⟩, hch⟩;unfold atR;rw [← hpl, hi, hr, if_neg hq, if_pos h3];exact hM
   ·have h3 : ¬ rule = 3 := hc3
    refine Sr fun _ kh20 => zq rfl rfl (za rfl (zz (kh20 ?_)));refine zy rfl ?_ ?_<;>intro hc4<;>try simp only [qs] at hc4
    ·have h4 : rule = 4 := hc4
     refine Sr fun _ kh22 => zm rfl (zm rfl (zm rfl (zm rfl (zm rfl ?_))));refine WL.call hasF134 rfl rfl (qline_spec (s.getD i 0) (s.getD (i + 1) 0) r den mode _ hx hy hfx hfy (by omega) hm1 (by omega) (hg0.keep0 hch)) fun v w2 h' => ?_;obtain ⟨⟨bits, e, rfl, hM⟩, hC⟩ := h';have hch := hch.ta hC;refine zx rfl rfl (zx rfl rfl (za rfl (za rfl (zz (kh22 ?_)))));refine zr (zr2 rfl rfl rfl ?_);refine ⟨⟨_, _, rfl, ?_⟩, hch⟩;unfold atR;rw [← hpl, hi, hr, if_neg hq, if_neg h3, if_pos h4];exact hM
    ·have h4 : ¬ rule = 4 := hc4
     refine Sr fun _ kh24 => zq rfl rfl (za rfl (zz (kh24 ?_)));refine zy rfl ?_ ?_<;>intro hc5<;>try simp only [qs] at hc5
     ·have h2 : rule = 2 := hc5
      refine Sr fun _ kh26 => zm rfl ?_;refine WL.ev (Ev.mulIn rfl rfl (by omega)) rfl ?_;refine zm rfl ?_;refine WL.ev (Ev.subIn rfl rfl (by omega)) rfl ?_;refine za rfl (zz (kh26 ?_));refine CW.seqM 83 (decide (2 * r < den ∨ (2 * r = den ∧ i % 2 = 0))) ?_ ?_
      ·refine zR fun _ kr28 => ?_;refine zm rfl ?_;refine WL.ev (Ev.lss rfl rfl) rfl ?_;refine zm rfl ?_;refine zb ?_ ?_<;>intro hg6<;>try simp only [qs] at hg6
       ·refine zv rfl (zv rfl (zv rfl (zu rfl (zu rfl (zu rfl (zv rfl (zt rfl rfl ?_)))))));refine WL.nil (kr28 _ _ _ ?_);refine ⟨rfl, rfl, Subs.consB rfl ?_ ?_⟩
        ·first | exact (decide_eq_true (by omega)).symm | exact (decide_eq_false (by omega)).symm | exact decide_eq_decide.2 (by omega)
        ·exact SMg
       ·refine zw rfl (zm rfl (zw rfl (zq rfl rfl (zw rfl (zm rfl ?_)))));refine zb ?_ ?_<;>intro hg7<;>try simp only [qs] at hg7
        ·refine zw rfl (zm rfl (zw rfl ?_));refine WL.ev (Ev.remIn rfl rfl (by omega) (by omega)) rfl ?_
         refine zw rfl (zq rfl rfl (zw rfl (zt rfl rfl (ze rfl rfl ?_))));refine WL.nil (kr28 _ _ _ ?_);refine ⟨rfl, rfl, Subs.consB rfl ?_ ?_⟩
         ·first | exact (decide_eq_true (by omega)).symm | exact (decide_eq_false (by omega)).symm | exact decide_eq_decide.2 (by omega)
         ·exact SMg
        ·refine zv rfl (zv rfl (zv rfl (zw rfl (ze rfl rfl (ze rfl rfl ?_)))));refine WL.nil (kr28 _ _ _ ?_);refine ⟨rfl, rfl, Subs.consB rfl ?_ ?_⟩
         ·first | exact (decide_eq_true (by omega)).symm | exact (decide_eq_false (by omega)).symm | exact decide_eq_decide.2 (by omega)
         ·exact SMg
      ·refine zy rfl ?_ ?_<;>intro hc8<;>try simp only [qs] at hc8
       ·have hn : 2 * r < den ∨ (2 * r = den ∧ i % 2 = 0) := hc8
        refine Sr fun _ kh29 => zm rfl (za rfl (za rfl (zz (kh29 ?_))));refine zr (zr2 rfl rfl rfl ?_);refine ⟨⟨_, _, rfl, ?_⟩, hch⟩;unfold atR;rw [← hpl, hi, hr, if_neg hq, if_neg h3, if_neg h4, if_pos ⟨h2, hn⟩];exact ⟨rfl, rfl⟩
       ·have hn : ¬ (2 * r < den ∨ (2 * r = den ∧ i % 2 = 0)) := hc8
        refine zkk ?_;refine kh13 (Sr fun _ kh31 => zm rfl (za rfl (za rfl (zz (kh31 ?_)))));refine zr (zr2 rfl rfl rfl ?_);refine ⟨⟨_, _, rfl, ?_⟩, hch⟩;unfold atR;rw [← hpl, hi, hr, if_neg hq, if_neg h3, if_neg h4, if_neg (fun z => hn z.2)];exact ⟨rfl, rfl⟩
     ·have h2 : ¬ rule = 2 := hc5
      refine zkk ?_;refine kh13 (Sr fun _ kh33 => zm rfl (za rfl (za rfl (zz (kh33 ?_)))));refine zr (zr2 rfl rfl rfl ?_);refine ⟨⟨_, _, rfl, ?_⟩, hch⟩;unfold atR;rw [← hpl, hi, hr, if_neg hq, if_neg h3, if_neg h4, if_neg (fun z => h2 z.1)];exact ⟨rfl, rfl⟩

end

/- Package quant: Quantile, Several, Share. No condition. -/
section
open Go Sx Wd Fl

theorem GR.of_FB {w : World} {lo b k : Nat} {e : TypeId} {X l : List Nat} (h : FB w b e l) (hk : k = l.length) (hm : l.length ≤ 281474976710656) (hlo : lo ≤ b) (hX : b ∉ X) : GR w e f64v lo X (.slice (some ⟨b, 0, none⟩) k k) l := by
  subst hk
  exact ⟨⟨by simp, .inr ⟨b, l.length, _, rfl, Nat.zero_le _, h, Nat.le_refl _, by unfold maxLen; omega, by simp, by rw [Nat.mul_one, List.take_of_length_le (by simp)]⟩⟩, fun b' hb => by cases hb; exact ⟨hlo, hX⟩⟩
theorem sev_step {L : List Nat} {i b : Nat} {e : Int} {Q : Nat → Nat → Int → Prop} (h : ∀ k, k < i → ∃ e, Q k (L.getD k 0) e) (hi : i < L.length) (hA : Q i b e) : ∀ k, k < i + 1 → ∃ e, Q k ((L.set i b).getD k 0) e := fun k hk => by
  by_cases q : k = i
  · subst q
    refine ⟨e, ?_⟩
    rw [List.getD_eq_getElem?_getD, List.getElem?_set_self hi]
    exact hA
  · rw [List.getD_eq_getElem?_getD, List.getElem?_set_ne (by omega), ← List.getD_eq_getElem?_getD]
    exact h k (by omega)
structure KSv (s : List Nat) (sv : Value) (pn : Nat) (rule mode : Int) (b lo : Nat) (w0 : World) (g : Nat × List Nat) (w : World) : Prop where
  hi : g.1 ≤ pn + 1
  len : g.2.length = pn + 1
  f : ∀ k, k < g.1 → ∃ e, atR s k pn rule mode (g.2.getD k 0) e
  hB : FB w b 30 g.2
  hg : GR w 30 f64v lo [b] sv s
  ch : Chg [] w0 w
def cntLE (l : List Nat) (x : Nat) : Nat := (l.filter fun z => FloatKind.f64.format.order z x == some .lt || FloatKind.f64.format.order z x == some .eq).length
theorem cntLE_step {l : List Nat} {x i : Nat} (hi : i < l.length) : cntLE (l.take (i + 1)) x = cntLE (l.take i) x + if (FloatKind.f64.format.order (l.getD i 0) x == some .lt || FloatKind.f64.format.order (l.getD i 0) x == some .eq) = true then 1 else 0 := by
  have e1 : l.getD i 0 = l[i] := by rw [List.getD_eq_getElem?_getD, List.getElem?_eq_getElem hi]; rfl
  unfold cntLE
  rw [List.take_succ_eq_append_getElem hi, List.filter_append, List.length_append, e1]
  split
  · rename_i q; rw [List.filter_cons_of_pos (by simpa using q)]; rfl
  · rename_i q; rw [List.filter_cons_of_neg (by simpa using q)]; rfl
theorem cntLE_le (l : List Nat) (x : Nat) : cntLE l x ≤ l.length := List.length_filter_le _ _
structure KSs (l : List Nat) (x : Nat) (w0 : World) (i : Nat) (w : World) : Prop where
  hi : i ≤ l.length
  ch : Chg [] w0 w

theorem Quantile_spec (v : Value) (l : List Nat) (num den rule mode : Int) (w : World) (hv : NF w v l) (hnr : -9223372036854775808 ≤ num ∧ num ≤ 9223372036854775807) (hdr : -9223372036854775808 ≤ den ∧ den ≤ 9223372036854775807) (hg : GW w) : Ret Tryz.prog 19 [v, .int .i64 num, .int .i64 den, .int .i64 rule, .int .i64 mode] w fun u w' => (∃ bits e, u = .tuple [.float .f64 bits, .int .i64 e].toArray ∧ quantR l num den rule mode bits e) ∧ Chg [] w w' := by
 have hWl := hv.hw;have hll := hv.len;have hov := hv.one;have hch : Chg [] w w := Chg.refl _ _;have hg0 := hg;refine zE5 Tryz.func19 rfl ?_;refine Sr fun _ kh1 => za rfl (za rfl (zz (kh1 (zc fun _ kh3 => ?_))));refine CW.seqM 33 (decide (¬ askQ num den rule mode)) ?_ ?_
 ·refine zR fun _ kr4 => ?_;refine zm rfl (zm rfl ?_);refine WL.call hasF55 rfl rfl (qmay_spec rule mode _) fun v w1 h' => ?_;obtain ⟨rfl, rfl⟩ := h';refine WL.ev (Ev.not rfl) rfl ?_;refine zm rfl ?_;refine zb ?_ ?_<;>intro hg1<;>try simp only [qs] at hg1
  ·refine zv rfl (zv rfl (zt rfl rfl (zm rfl (zv rfl (zv rfl (zt rfl rfl (zm rfl (zv rfl (zv rfl (zt rfl rfl (zm rfl (zv rfl (zv rfl (zv rfl (zt rfl rfl ?_)))))))))))))));refine WL.nil (kr4 _ _ _ ?_);refine ⟨rfl, rfl, Subs.consB rfl ?_ ?_⟩
   ·first | exact (decide_eq_true (by unfold askQ; omega)).symm | exact (decide_eq_false (by unfold askQ; omega)).symm | exact decide_eq_decide.2 (by unfold askQ; omega)
   ·exact SMg
  ·refine zw rfl (zm rfl (zw rfl ?_));refine WL.ev (Ev.lss rfl rfl) rfl ?_
   refine ze rfl rfl (zm rfl ?_);refine zb ?_ ?_<;>intro hg2<;>try simp only [qs] at hg2
   ·refine zv rfl (zv rfl (zt rfl rfl (zm rfl (zv rfl (zv rfl (zt rfl rfl (zm rfl (zv rfl (zv rfl (zv rfl (zt rfl rfl ?_)))))))))));refine WL.nil (kr4 _ _ _ ?_);refine ⟨rfl, rfl, Subs.consB rfl ?_ ?_⟩
    ·first | exact (decide_eq_true (by unfold askQ; omega)).symm | exact (decide_eq_false (by unfold askQ; omega)).symm | exact decide_eq_decide.2 (by unfold askQ; omega)
    ·exact SMg
   ·refine zw rfl (zm rfl (zw rfl ?_));refine WL.ev (Ev.gtr rfl rfl) rfl ?_
    refine ze rfl rfl (zm rfl ?_);refine zb ?_ ?_<;>intro hg3<;>try simp only [qs] at hg3
    ·refine zv rfl (zv rfl (zt rfl rfl (zm rfl (zv rfl (zv rfl (zv rfl (zt rfl rfl ?_)))))));refine WL.nil (kr4 _ _ _ ?_);refine ⟨rfl, rfl, Subs.consB rfl ?_ ?_⟩
     ·first | exact (decide_eq_true (by unfold askQ; omega)).symm | exact (decide_eq_false (by unfold askQ; omega)).symm | exact decide_eq_decide.2 (by unfold askQ; omega)
     ·exact SMg
    ·refine zw rfl (zm rfl (zw rfl ?_));refine WL.ev (Ev.lss rfl rfl) rfl ?_
     refine ze rfl rfl (zm rfl ?_);refine zb ?_ ?_<;>intro hg4<;>try simp only [qs] at hg4
     ·refine zv rfl (zv rfl (zv rfl (zt rfl rfl ?_)));refine WL.nil (kr4 _ _ _ ?_);refine ⟨rfl, rfl, Subs.consB rfl ?_ ?_⟩
      ·first | exact (decide_eq_true (by unfold askQ; omega)).symm | exact (decide_eq_false (by unfold askQ; omega)).symm | exact decide_eq_decide.2 (by unfold askQ; omega)
      ·exact SMg
     ·refine zw rfl (zm rfl (zw rfl (zm rfl (zw rfl ?_))));refine WL.ev (Ev.gtr rfl rfl) rfl ?_
      refine ze rfl rfl ?_;refine WL.nil (kr4 _ _ _ ?_);refine ⟨rfl, rfl, Subs.consB rfl ?_ ?_⟩
      ·first | exact (decide_eq_true (by unfold askQ; omega)).symm | exact (decide_eq_false (by unfold askQ; omega)).symm | exact decide_eq_decide.2 (by unfold askQ; omega)
      ·exact SMg
 ·refine zy rfl ?_ ?_<;>intro hc5<;>try simp only [qs] at hc5
  ·have hq : ¬ askQ num den rule mode := hc5
   refine Sr fun _ kh5 => za rfl (za rfl (zz (kh5 ?_)));refine zr (zr2 rfl rfl rfl ?_);exact ⟨⟨_, _, rfl, .inl ⟨hq, rfl, rfl⟩⟩, hch⟩
  ·have hq : askQ num den rule mode := hc5
   obtain ⟨hm, hru, hde, hnu, hnd⟩ := id hq;obtain ⟨nn, rfl⟩ := Int.eq_ofNat_of_zero_le hnu;obtain ⟨dn, rfl⟩ := Int.eq_ofNat_of_zero_le (show 0 ≤ den by omega);refine zkk ?_;refine kh3 (zc fun _ kh7 => Sr fun _ kh8 => zm rfl ?_);refine WL.call hasF56 rfl rfl (refused_spec v l _ (hv.keep0 hch)) fun v w2 h' => ?_;obtain ⟨rfl, hC⟩ := h';have hch := hch.ta hC;refine za rfl (zz (kh8 (Sr fun _ kh10 => zm rfl ?_)));refine WL.ev (Ev.neq rfl rfl) rfl ?_;refine zz (kh10 ?_);refine zy rfl ?_ ?_<;>intro hc6<;>try simp only [qs] at hc6
   ·have h0 : refuseE l ≠ 0 := hc6
    refine Sr fun _ kh12 => zm rfl (za rfl (za rfl (zz (kh12 ?_))));refine zr (zr2 rfl rfl rfl ?_);exact ⟨⟨_, _, rfl, .inr ⟨hq, .inl ⟨h0, rfl, rfl⟩⟩⟩, hch⟩
   ·have h0 : refuseE l = 0 := hc6
    obtain ⟨hl6, hf, hne⟩ := refuse_ok h0;have hRow := Row.of hf hWl hne;have hsl := sortP_length l;have hsW := hRow.w;refine zkk ?_;refine kh7 (Sr fun _ kh14 => zm rfl ?_);refine WL.call hasF57 rfl rfl (qsorted_spec v l _ (hv.keep0 hch) hl6 hf hne) fun v w3 h' => ?_;obtain ⟨hgs, hC⟩ := h';have hNs := hgs.nf hsW (by omega);have hch := hch.ta hC;refine zm rfl (zm rfl (zm rfl (zm rfl ?_)));refine WL.call hasF58 rfl rfl (qat_spec _ (sortP l) nn dn rule mode _ hNs hRow (by omega) (by omega) (by omega) (hg0.keep0 hch)) fun v w4 h' => ?_;obtain ⟨⟨bits, e, rfl, hA⟩, hC⟩ := h';have hch := hch.ta hC;refine zx rfl rfl (zx rfl rfl (za rfl (za rfl (zz (kh14 ?_)))));refine zr (zr2 rfl rfl rfl ?_);exact ⟨⟨_, _, rfl, .inr ⟨hq, .inr ⟨h0, hA⟩⟩⟩, hch⟩

theorem Several_spec (v : Value) (l : List Nat) (parts rule mode : Int) (w : World) (hv : NF w v l) (hpr : -9223372036854775808 ≤ parts ∧ parts ≤ 9223372036854775807) (hg : GW w) : Ret Tryz.prog 13 [v, .int .i64 parts, .int .i64 rule, .int .i64 mode] w fun u w' => (∃ vL L e, u = .tuple [vL, .int .i64 e].toArray ∧ GR w' 30 f64v w.heap.size [] vL L ∧ sevR l parts rule mode L e) ∧ Chg [] w w' := by
 have hWl := hv.hw;have hll := hv.len;have hov := hv.one;have hch : Chg [] w w := Chg.refl _ _;have hg0 := hg;refine zE4 Tryz.func13 rfl ?_;refine Sr fun _ kh1 => za rfl (za rfl (zz (kh1 (zc fun _ kh3 => ?_))));refine CW.seqM 25 (decide (¬ partQ parts rule mode)) ?_ ?_
 ·refine zR fun _ kr4 => ?_;refine zm rfl (zm rfl ?_);refine WL.call hasF55 rfl rfl (qmay_spec rule mode _) fun v w1 h' => ?_;obtain ⟨rfl, rfl⟩ := h';refine WL.ev (Ev.not rfl) rfl ?_;refine zm rfl ?_;refine zb ?_ ?_<;>intro hg1<;>try simp only [qs] at hg1
  ·refine zv rfl (zv rfl (zt rfl rfl (zm rfl (zv rfl (zv rfl (zt rfl rfl ?_))))));refine WL.nil (kr4 _ _ _ ?_);refine ⟨rfl, rfl, Subs.consB rfl ?_ ?_⟩
   ·first | exact (decide_eq_true (by unfold partQ; omega)).symm | exact (decide_eq_false (by unfold partQ; omega)).symm | exact decide_eq_decide.2 (by unfold partQ; omega)
   ·exact SMg
  ·refine zw rfl (zm rfl (zw rfl ?_));refine WL.ev (Ev.lss rfl rfl) rfl ?_
   refine ze rfl rfl (zm rfl ?_);refine zb ?_ ?_<;>intro hg2<;>try simp only [qs] at hg2
   ·refine zv rfl (zv rfl (zt rfl rfl ?_));refine WL.nil (kr4 _ _ _ ?_);refine ⟨rfl, rfl, Subs.consB rfl ?_ ?_⟩
    ·first | exact (decide_eq_true (by unfold partQ; omega)).symm | exact (decide_eq_false (by unfold partQ; omega)).symm | exact decide_eq_decide.2 (by unfold partQ; omega)
    ·exact SMg
   ·refine zw rfl (zm rfl (zw rfl ?_));refine WL.ev (Ev.gtr rfl rfl) rfl ?_
    refine ze rfl rfl ?_;refine WL.nil (kr4 _ _ _ ?_);refine ⟨rfl, rfl, Subs.consB rfl ?_ ?_⟩
    ·first | exact (decide_eq_true (by unfold partQ; omega)).symm | exact (decide_eq_false (by unfold partQ; omega)).symm | exact decide_eq_decide.2 (by unfold partQ; omega)
    ·exact SMg
 ·refine zy rfl ?_ ?_<;>intro hc3<;>try simp only [qs] at hc3
  ·have hq : ¬ partQ parts rule mode := hc3
   refine Sr fun _ kh5 => za rfl (za rfl (zz (kh5 ?_)));refine zr (zr2 rfl rfl rfl ?_);exact ⟨⟨_, [], _, rfl, GR.nil, .inl ⟨hq, rfl, rfl⟩⟩, hch⟩
  ·have hq : partQ parts rule mode := hc3
   obtain ⟨hm, hru, hp1, hp2⟩ := id hq;obtain ⟨pn, rfl⟩ := Int.eq_ofNat_of_zero_le (show 0 ≤ parts by omega);refine zkk ?_;refine kh3 (zc fun _ kh7 => Sr fun _ kh8 => zm rfl ?_);refine WL.call hasF56 rfl rfl (refused_spec v l _ (hv.keep0 hch)) fun v w2 h' => ?_;obtain ⟨rfl, hC⟩ := h';have hch := hch.ta hC;refine za rfl (zz (kh8 (Sr fun _ kh10 => zm rfl ?_)));refine WL.ev (Ev.neq rfl rfl) rfl ?_;refine zz (kh10 ?_);refine zy rfl ?_ ?_<;>intro hc4<;>try simp only [qs] at hc4
   ·have h0 : refuseE l ≠ 0 := hc4
    refine Sr fun _ kh12 => zm rfl (za rfl (za rfl (zz (kh12 ?_))));refine zr (zr2 rfl rfl rfl ?_);exact ⟨⟨_, [], _, rfl, GR.nil, .inr ⟨hq, .inl ⟨h0, rfl, rfl⟩⟩⟩, hch⟩
   ·have h0 : refuseE l = 0 := hc4
    obtain ⟨hl6, hf, hne⟩ := refuse_ok h0;have hRow := Row.of hf hWl hne;have hsl := sortP_length l;have hsW := hRow.w;refine zkk ?_;refine kh7 (Sr fun _ kh14 => zm rfl ?_);refine WL.call hasF57 rfl rfl (qsorted_spec v l _ (hv.keep0 hch) hl6 hf hne) fun vs w3 h' => ?_;obtain ⟨hgs, hC⟩ := h';have hlo := hch.size;generalize hSs : sortP l = s at *;have hone := hgs.one;have hch := hch.ta hC;refine za rfl (zz (kh14 (Sr fun _ kh16 => zm rfl ?_)));refine WL.ev (Ev.addIn rfl rfl (by omega)) rfl ?_;rw [show (pn : Int) + 1 = ((pn + 1 : Nat) : Int) by omega];have hgs0 := hgs;refine WL.makeF ((pn + 1)) ((pn + 1)) rfl rfl (by omega) (by omega) (by omega) (by omega) (by omega) rfl fun b35 wm35 hb35 hcm35 hge35 => ?_;have hgehch35 := Nat.le_trans hch.size hge35;have hch := hch.ta hcm35;have hgs := hgs.keep0 hcm35;refine za rfl (zz (kh16 (zc fun _ kh18 => zc fun _ kh19 => ?_)));have hgs := (hgs0.mono (X' := [b35]) (Nat.le_refl _) (by intro b hb; simp only [List.mem_singleton] at hb; subst hb; exact .inr (.inr hge35))).keep0 hcm35;obtain ⟨lo, hgs⟩ : ∃ lo, GR _ 30 f64v lo [b35] vs s := ⟨_, hgs⟩;refine zR fun _ kr20 => ?_;refine zm rfl (zn rfl (zm rfl ?_));refine WL.nil (kr20 _ _ _ (kh19 ?_));refine CW.block ?_;refine CW.loop (S := fun g : Nat × List Nat => [(1, .int .i64 (pn : Int)), (2, .int .i64 rule), (3, .int .i64 mode), (11, vs), (12, .slice (some ⟨b35, 0, none⟩) (pn + 1) (pn + 1)), (37, .int .i64 ((pn + 1 : Nat) : Int)), (38, .int .i64 (g.1 : Int))]) (Inv := KSv s vs pn rule mode b35 lo w) (mu := fun g => pn + 1 - g.1) ((0, List.replicate (pn + 1) 0)) ?_ ?_ ?_
    ·exact ⟨Nat.zero_le _, by simp, fun k hk => absurd hk (Nat.not_lt_zero _), hb35, hgs, hch⟩
    ·exact SLp
    ·rintro ⟨i, L⟩ wr ⟨hi, hlen, hfk, hb35, hgs, hch⟩;dsimp only at hi hlen hfk hb35 hgs hch;dsimp only;refine Sr fun _ kh21 => ?_;refine WL.ev (Ev.lss rfl rfl) rfl ?_;refine zz (kh21 (zc fun _ kh23 => ?_));refine zy rfl ?_ ?_<;>intro hc5<;>try simp only [qs] at hc5
     ·refine zkk ?_
      refine kh23 (zc fun _ kh24 => ?_);refine CW.block ?_;refine Sr fun _ kh25 => zm rfl (za rfl (zz (kh25 ?_)));refine zR fun _ kr27 => ?_;refine zm rfl (zm rfl (zm rfl (zm rfl (zm rfl (zm rfl (zm rfl ?_))))));refine WL.call hasF58 rfl rfl (qat_spec _ s i pn rule mode _ (hgs.nf hsW (by omega)) hRow (by omega) (by omega) (by omega) (hg0.keep0 hch)) fun v w4 h' => ?_;obtain ⟨⟨bits, e, rfl, hA⟩, hC⟩ := h';have hch := hch.ta hC;have hb35 := hb35.k0 hC;have hgs := hgs.keep0 hC;refine zm rfl (zx rfl rfl (zx rfl rfl ?_));refine WL.ev (Ev.ixB (i) rfl rfl (by omega) (by omega)) rfl ?_;refine WL.storeF rfl rfl hb35 (by first | omega | (simp; done) | (simp; omega)) fun ws7 hb35_ hcs7 => ?_;have hch := hch.s1 hcs7;have hgs := hgs.keep hcs7 (fun y hy => by simp only [List.mem_singleton] at hy; subst hy; first | exact .inl (by simp) | exact .inr (.inl (by omega)) | exact .inr (.inr (by omega)));have hb35 := hb35_;refine WL.nil (kr27 _ _ _ (kh24 ?_));refine zR fun _ kr28 => ?_;(first | refine zi rfl rfl ?_ | refine zo rfl rfl ?_);refine zm rfl ?_;refine WL.nil (kr28 _ _ _ ?_);refine ⟨rfl, (i + 1, L.set i bits), ?_, ?_, ?_⟩
      ·exact SLp
      ·exact ⟨by show i + 1 ≤ pn + 1; omega, by dsimp only; rw [List.length_set, hlen], sev_step (Q := fun k => atR s k pn rule mode) hfk (by omega) hA, hb35, hgs, hch⟩
      ·show pn + 1 - (i + 1) < pn + 1 - i; omega
     ·have hiX : i = pn + 1 := by omega
      subst hiX;refine CW.exit ?_;refine kh18 (Sr fun _ kh29 => zm rfl (za rfl (za rfl (zz (kh29 ?_)))));refine zr (zr2 rfl rfl rfl ?_);refine ⟨⟨_, L, _, rfl, GR.of_FB hb35 hlen.symm (by omega) hgehch35 (by simp), .inr ⟨hq, .inr ⟨h0, rfl, hlen, fun k hk => ?_⟩⟩⟩, hch⟩;rw [hSs];exact hfk k (by have : (pn : Int).toNat = pn := rfl; omega)

theorem Share_spec (v : Value) (l : List Nat) (x : Nat) (w : World) (hv : NF w v l) : Ret Tryz.prog 53 [v, .float .f64 x] w fun u w' => (∃ a b e, u = .tuple [.int .i64 a, .int .i64 b, .int .i64 e].toArray ∧ shareR l x a b e) ∧ Chg [] w w' := by
 have hv0 := hv;obtain ⟨⟨al, cl, rfl, hcapl, hrl⟩, hWl, hll⟩ := hv;have hch : Chg [] w w := Chg.refl _ _;refine zE2 Tryz.func53 rfl ?_;refine Sr fun _ kh1 => za rfl (za rfl (za rfl (zz (kh1 (Sr fun _ kh3 => zm rfl ?_)))));refine WL.call hasF56 rfl rfl (refused_spec _ l _ (hv0.keep0 hch)) fun v w1 h' => ?_;obtain ⟨rfl, hC⟩ := h';have h3 := refuse_three l;have hch := hch.ta hC;refine za rfl (zz (kh3 (zc fun _ kh5 => ?_)));refine CW.seqM 15 (decide (refuseE l = 2 ∨ refuseE l = 30)) ?_ ?_
 ·refine zR fun _ kr6 => ?_;refine zm rfl (zq rfl rfl (zm rfl ?_));refine zb ?_ ?_<;>intro hg1<;>try simp only [qs] at hg1
  ·refine zv rfl (zv rfl (zt rfl rfl ?_));refine WL.nil (kr6 _ _ _ ?_);refine ⟨rfl, rfl, Subs.consB rfl ?_ ?_⟩
   ·first | (simp; omega) | (simp_all; done) | (refine decide_eq_decide.2 ?_; omega)
   ·exact SMg
  ·refine zw rfl (zm rfl (zw rfl (zq rfl rfl (ze rfl rfl ?_))));refine WL.nil (kr6 _ _ _ ?_);refine ⟨rfl, rfl, Subs.consB rfl ?_ ?_⟩
   ·first | (simp; omega) | (simp_all; done) | (refine decide_eq_decide.2 ?_; omega)
   ·exact SMg
 ·refine zy rfl ?_ ?_<;>intro hc2<;>try simp only [qs] at hc2
  ·have hq : refuseE l = 2 ∨ refuseE l = 30 := hc2
   refine Sr fun _ kh7 => zm rfl (za rfl (za rfl (za rfl (zz (kh7 ?_)))));refine zr ?_;refine bodyA.ret3 rfl rfl rfl rfl ?_;refine ⟨⟨_, _, _, rfl, ?_⟩, hch⟩;exact .inl ⟨hq, rfl, rfl, rfl⟩
  ·have hq : ¬ (refuseE l = 2 ∨ refuseE l = 30) := hc2
   refine zkk ?_;refine kh5 (zc fun _ kh9 => Sr fun _ kh10 => zm rfl (zm rfl ?_));refine WL.ev (Ev.fneq rfl rfl) rfl ?_;rw [bne, order_self_eq, Bool.not_not];refine zz (kh10 ?_);refine zy rfl ?_ ?_<;>intro hc3<;>try simp only [qs] at hc3
   ·have hx : isNaN x = true := hc3
    refine Sr fun _ kh12 => za rfl (za rfl (za rfl (zz (kh12 ?_))));refine zr ?_;refine bodyA.ret3 rfl rfl rfl rfl ?_;refine ⟨⟨_, _, _, rfl, ?_⟩, hch⟩;exact .inr ⟨hq, .inl ⟨hx, rfl, rfl, rfl⟩⟩
   ·have hx : isNaN x = false := by simpa using hc3
    refine zkk ?_;refine kh9 (zc fun _ kh14 => Sr fun _ kh15 => zm rfl ?_);refine WL.ev (Ev.neq rfl rfl) rfl ?_;refine zz (kh15 ?_);refine zy rfl ?_ ?_<;>intro hc4<;>try simp only [qs] at hc4
    ·have h0 : refuseE l ≠ 0 := hc4
     refine Sr fun _ kh17 => zm rfl (za rfl (za rfl (za rfl (zz (kh17 ?_)))));refine zr ?_;refine bodyA.ret3 rfl rfl rfl rfl ?_;refine ⟨⟨_, _, _, rfl, ?_⟩, hch⟩;exact .inr ⟨hq, .inr ⟨hx, .inl ⟨h0, rfl, rfl, rfl⟩⟩⟩
    ·have h0 : refuseE l = 0 := hc4
     refine zkk ?_;refine kh14 (zc fun _ kh19 => Sr fun _ kh20 => zm rfl (zn rfl (zm rfl (zz (kh20 ?_)))));refine CW.block ?_;refine CW.loop (S := fun i : Nat => [(0, .slice al l.length cl), (1, .float .f64 x), (4, .int .i64 (cntLE (l.take i) x : Int)), (24, .int .i64 (l.length : Int)), (25, .int .i64 (i : Int))]) (Inv := KSs l x w) (mu := fun i => l.length - i) (0) ?_ ?_ ?_
     ·exact ⟨Nat.zero_le _, hch⟩
     ·exact SLp
     ·rintro i wr ⟨hi, hch⟩;have hle := cntLE_le (l.take i) x;rw [List.length_take] at hle;refine Sr fun _ kh22 => ?_;refine WL.ev (Ev.lss rfl rfl) rfl ?_;refine zz (kh22 (zc fun _ kh24 => ?_));refine zy rfl ?_ ?_<;>intro hc5<;>try simp only [qs] at hc5
      ·have hst := cntLE_step (l := l) (x := x) (i := i) (by omega);refine zkk ?_
       refine kh24 (zc fun _ kh25 => ?_);refine CW.block ?_;refine Sr fun _ kh26 => zm rfl (za rfl (zz (kh26 (Sr fun _ kh28 => zm rfl (zm rfl ?_)))));refine WL.ev (Ev.ixR (i) rfl rfl (hrl.keep0 hch) (by omega) (by omega) (by simp; omega)) rfl ?_;refine WL.ev (Ev.load rfl rfl ((hrl.keep0 hch).f64 (by first | omega | (simp; omega)))) rfl ?_;refine zm rfl ?_;refine WL.ev (Ev.fleq rfl rfl) rfl ?_;refine zz (kh28 ?_);refine zy rfl ?_ ?_<;>intro hc6<;>try simp only [qs] at hc6
       ·rw [if_pos (by rw [Bool.or_eq_true]; exact hc6)] at hst
        refine zR fun _ kr30 => ?_;refine zm rfl ?_;refine WL.ev (Ev.addIn rfl rfl (by omega)) rfl ?_;rw [show ((cntLE (l.take i) x : Nat) : Int) + 1 = ((cntLE (l.take (i + 1)) x : Nat) : Int) by omega];refine za rfl ?_;refine WL.nil (kr30 _ _ _ (kh25 ?_));refine zR fun _ kr31 => ?_;(first | refine zi rfl rfl ?_ | refine zo rfl rfl ?_);refine zm rfl ?_;refine WL.nil (kr31 _ _ _ ?_);refine ⟨rfl, i + 1, ?_, ?_, ?_⟩
        ·exact SLp
        ·exact ⟨by omega, hch⟩
        ·show l.length - (i + 1) < l.length - i; omega
       ·rw [if_neg (by rw [hc6]; exact Bool.false_ne_true)] at hst
        have hst2 : cntLE (l.take (i + 1)) x = cntLE (l.take i) x := hst;rw [← hst2];refine zkk ?_;refine kh25 ?_;refine zR fun _ kr32 => ?_;(first | refine zi rfl rfl ?_ | refine zo rfl rfl ?_);refine zm rfl ?_;refine WL.nil (kr32 _ _ _ ?_);refine ⟨rfl, i + 1, ?_, ?_, ?_⟩
        ·exact SLp
        ·exact ⟨by omega, hch⟩
        ·show l.length - (i + 1) < l.length - i; omega
      ·have hiX : i = l.length := by omega
       subst hiX;refine CW.exit ?_;refine kh19 (Sr fun _ kh33 => zm rfl (zm rfl (zn rfl (za rfl (za rfl (za rfl (zz (kh33 ?_))))))));refine zr ?_;refine bodyA.ret3 rfl rfl rfl rfl ?_;refine ⟨⟨_, _, _, rfl, ?_⟩, hch⟩;refine .inr ⟨hq, .inr ⟨hx, .inr ⟨h0, ?_, rfl, rfl⟩⟩⟩;rw [List.take_length]; rfl

end

/- Package steelyardlaw16: live, exact. No condition. -/
section
open Go Sx Wd Fl

theorem qexact_spec (x y : Nat) (w : World) : Ret Tryz.prog 16 [.float .f64 x, .float .f64 y] w fun u w' => u = .bool (decide (x = y)) ∧ w = w' := by
 refine zE2 Tryz.func16 rfl ?_;refine Sr fun _ kh1 => za rfl (zz (kh1 (Sr fun _ kh3 => zm rfl ?_)));refine WL.ev (Ev.ext rfl (ext63 _ _)) rfl ?_;refine zm rfl ?_;refine WL.ev (Ev.ext rfl (ext63 _ _)) rfl ?_;refine zq rfl rfl (za rfl (zz (kh3 ?_)));refine zr (zr1 rfl rfl ?_);refine ⟨congrArg Value.bool (decide_eq_decide.2 (by omega)), rfl⟩

theorem qlive_spec (w : World) (hg : GW w) : Ret Tryz.prog 11 [] w fun u w' => u = .bool true ∧ Chg [] w w' := by
 have hch : Chg [] w w := Chg.refl _ _;have hg0 := hg;refine zE0 Tryz.func11 rfl ?_;refine Sr fun _ kh1 => za rfl (zz (kh1 (Sr fun _ kh3 => ?_)));refine WL.buildSlice (m := 4) (cs := [f64v (4621819117588971520), f64v (4630826316843712512), f64v (4626322717216342016), f64v (4629137466983448576)]) (by decide) (by decide) rfl (by kernel_rfl) rfl fun b9 w9 hn9 => ?_;have hcm9 := hn9.chg;have hge9 := hn9.ge;have hb9 : FB w9 b9 _ [4621819117588971520, 4630826316843712512, 4626322717216342016, 4629137466983448576] := hn9.at_;have hgehch9 := Nat.le_trans hch.size hge9;have hch := hch.ta hcm9;refine za rfl (zz (kh3 (Sr fun _ kh5 => zm rfl ?_)));refine WL.call hasF19 rfl rfl (Quantile_spec _ lvq 1 4 4 0 _ (NF.of_row hb9.row (by decide) (by decide) rfl (by decide)) (by decide) (by decide) (hg0.keep0 hch)) fun v w1 h' => ?_;obtain ⟨⟨bits, e, rfl, hM⟩, hC12⟩ := h';obtain ⟨rfl, rfl⟩ := live_quant hM;have hch := hch.ta hC12;have hb9 := hb9.k0 hC12;refine zm rfl (zx rfl rfl (zx rfl rfl (za rfl (za rfl (zz (kh5 (Sr fun _ kh7 => zm rfl ?_)))))));refine WL.call hasF53 rfl rfl (Share_spec _ lvq 4626322717216342016 _ (NF.of_row hb9.row (by decide) (by decide) rfl (by decide))) fun v w2 h' => ?_;obtain ⟨⟨a, b, e, rfl, hM⟩, hC17⟩ := h';obtain ⟨ha, hb, rfl⟩ := share_fin hM lvq_ok (by decide +kernel);rw [live_share] at ha;obtain rfl : a = 2 := ha;obtain rfl : b = 4 := hb;have hch := hch.ta hC17;have hb9 := hb9.k0 hC17;refine zm rfl (zx rfl rfl (zx rfl rfl (zx rfl rfl (za rfl (za rfl (za rfl (zz (kh7 (Sr fun _ kh9 => zm rfl ?_)))))))));refine WL.call hasF13 rfl rfl (Several_spec _ lvq 2 3 0 _ (NF.of_row hb9.row (by decide) (by decide) rfl (by decide)) (by decide) (hg0.keep0 hch)) fun v w3 h' => ?_;obtain ⟨⟨vL, Ls, e, rfl, hgs, hM⟩, hC23⟩ := h';obtain ⟨rfl, hL3, hL1⟩ := live_sev hM;obtain ⟨aL, cL, rfl, hcL, hrL⟩ := hgs.row;have hch := hch.ta hC23;refine zm rfl (zx rfl rfl (zx rfl rfl (za rfl (za rfl (zz (kh9 (Sr fun _ kh11 => zm rfl (zq rfl rfl (zm rfl (zw rfl (zm rfl (zw rfl ?_))))))))))));refine WL.ev (Ev.feql rfl rfl) rfl ?_;rw [show (FloatKind.f64.format.order 4625619029774565376 4625619029774565376 == some .eq) = true by rw [Fl.order_self_eq]; decide];refine zt rfl rfl (zm rfl (zw rfl (zm rfl (zw rfl (zq rfl rfl (zt rfl rfl (zm rfl (zw rfl (zm rfl (zw rfl (zq rfl rfl (zt rfl rfl (zm rfl (zw rfl (zm rfl (zw rfl (zq rfl rfl (zt rfl rfl (zm rfl (zw rfl (zm rfl (zw rfl (zq rfl rfl ?_)))))))))))))))))))))));refine zt rfl rfl (zm rfl (zw rfl (zm rfl (zw rfl (zn rfl (zw rfl (zq rfl rfl ?_)))))));rw [hL3];refine zt rfl rfl (zm rfl (zw rfl (zm rfl (zw rfl ?_))));refine WL.ev (Ev.ixR (1) rfl rfl hrL (by omega) (by omega) (by simp; omega)) rfl ?_;refine zw rfl ?_;refine WL.ev (Ev.load rfl rfl (hrL.f64 (by first | omega | (simp; omega)))) rfl ?_;refine zw rfl ?_;refine WL.ev (Ev.feql rfl rfl) rfl ?_
 rw [hL1];rw [show (FloatKind.f64.format.order 4627730092099895296 4627730092099895296 == some .eq) = true by rw [Fl.order_self_eq]; decide];refine zt rfl rfl (za rfl (zz (kh11 ?_)));refine zr (zr1 rfl rfl ?_);exact ⟨rfl, hch⟩

end

/- Two lists in order, put together. No condition. -/
section
open Go Sx Wd Fl

def leK (a b : Nat) : Bool := decide (key a ≤ key b)
def mrg (A B : List Nat) : List Nat := A.merge B leK
theorem mrg_left {A B : List Nat} {i k : Nat} (hi : i < A.length) (hk : k ≤ B.length) (h : k = B.length ∨ key (A.getD i 0) ≤ key (B.getD k 0)) : mrg (A.drop i) (B.drop k) = A.getD i 0 :: mrg (A.drop (i + 1)) (B.drop k) := by
  rw [List.getD_eq_getElem?_getD, List.getElem?_eq_getElem hi, Option.getD_some] at *
  rw [List.drop_eq_getElem_cons hi]
  by_cases hB : k < B.length
  · rw [List.getD_eq_getElem?_getD, List.getElem?_eq_getElem hB, Option.getD_some] at h
    rw [List.drop_eq_getElem_cons hB]
    unfold mrg
    rw [List.cons_merge_cons_pos]
    unfold leK
    exact decide_eq_true (by rcases h with h | h; omega; exact h)
  · rw [List.drop_eq_nil_of_le (show B.length ≤ k by omega)]
    unfold mrg
    rw [List.merge_right, List.merge_right]
theorem mrg_right {A B : List Nat} {i k : Nat} (hk : k < B.length) (hi : i ≤ A.length) (h : i = A.length ∨ ¬ key (A.getD i 0) ≤ key (B.getD k 0)) : mrg (A.drop i) (B.drop k) = B.getD k 0 :: mrg (A.drop i) (B.drop (k + 1)) := by
  rw [List.getD_eq_getElem?_getD (l := B), List.getElem?_eq_getElem hk, Option.getD_some] at *
  rw [List.drop_eq_getElem_cons hk]
  by_cases hA : i < A.length
  · rw [List.getD_eq_getElem?_getD, List.getElem?_eq_getElem hA, Option.getD_some] at h
    rw [List.drop_eq_getElem_cons hA]
    unfold mrg
    rw [List.cons_merge_cons_neg]
    unfold leK
    rw [decide_eq_false (by rcases h with h | h; omega; exact h)]
    decide
  · rw [List.drop_eq_nil_of_le (show A.length ≤ i by omega)]
    unfold mrg
    rw [List.nil_merge, List.nil_merge]
theorem mrg_sorted {a b l : List Nat} (h : (a ++ b).Perm l) (hn : Nums l) : mrg (sortP a) (sortP b) = sortP l := by
  refine sortP_eq ?_ ?_ hn
  · unfold mrg
    exact (List.merge_perm_append _).trans (((sortP_perm a).append (sortP_perm b)).trans h)
  · have tr : ∀ a b c : Nat, leK a b = true → leK b c = true → leK a c = true := fun a b c h1 h2 => by
      unfold leK at *; simp only [decide_eq_true_eq] at *; omega
    have to : ∀ a b : Nat, (leK a b || leK b a) = true := fun a b => by
      unfold leK; simp only [Bool.or_eq_true, decide_eq_true_eq]; omega
    have := List.pairwise_merge tr to (sortP a) (sortP b) ((sortP_srt a).imp fun h => by unfold leK; exact decide_eq_true h) ((sortP_srt b).imp fun h => by unfold leK; exact decide_eq_true h)
    exact this.imp fun h => by unfold leK at h; exact of_decide_eq_true h
theorem sortP_short {l : List Nat} (h : l.length < 2) (hn : Nums l) : sortP l = l := by
  refine (sortP_eq (List.Perm.refl _) ?_ hn).symm
  match l, h with
  | [], _ => exact List.Pairwise.nil
  | [x], _ => exact List.pairwise_singleton _ _
theorem place_key {x : Nat} (h : isNaN x = false) : place x = key x := by
  have hc : canon x = x := by unfold canon; rw [h]; rfl
  unfold place key
  rw [hc, h]
  simp
theorem cmp_le (a b : Int) : cmpI a b ≤ 0 ↔ a ≤ b := by unfold cmpI; split <;> (try split) <;> omega
theorem Nums.getD {l : List Nat} (h : Nums l) {i : Nat} (hi : i < l.length) : l.getD i 0 < 18446744073709551616 ∧ isNaN (l.getD i 0) = false := by
  rw [List.getD_eq_getElem?_getD, List.getElem?_eq_getElem hi]
  exact h _ (List.getElem_mem hi)
theorem Nums.take {l : List Nat} (h : Nums l) (k : Nat) : Nums (l.take k) := fun x hx => h x (List.mem_of_mem_take hx)
theorem Nums.drop {l : List Nat} (h : Nums l) (k : Nat) : Nums (l.drop k) := fun x hx => h x (List.mem_of_mem_drop hx)

end

/- Not above, by value: of a finite number and one that may be infinite. No condition. -/
section
open Go Sx Wd Fl
set_option exponentiation.threshold 9000

end

/- References of layers 3 and 6: the difference; counts of a list. No condition. -/
section
open Go Sx Wd Fl

theorem r6Count_spec (s : SP) (x : Nat) (w : World) (hs : s.le 1000000000000000) (hx : x < 18446744073709551616) : Ret Tryz.prog 162 [.agg [.int .i64 (s.na : Int), .int .i64 (s.up : Int), .int .i64 (s.dn : Int), .int .i64 (s.mi : Int), .int .i64 (s.pl : Int), .int .i64 (s.al : Int)].toArray, .float .f64 x] w fun u w' => u = .agg (countP s (kindP x)).cells.toArray ∧ Chg [] w w' := by
 have hs0 := hs;obtain ⟨hs1, hs2, hs3, hs4, hs5, hs6⟩ := hs;have hch : Chg [] w w := Chg.refl _ _;have hk5 := kindP_le5 x;refine zE2 Tryz.func162 rfl ?_;refine Sr fun _ kh1 => ?_;refine zBh rfl rfl rfl hch fun b2 wm2 hb2 hcm2 hge2 hgehch2 hch => ?_;refine WL.allocB (l := [.int .i64 0, .int .i64 0, .int .i64 0, .int .i64 0, .int .i64 0, .int .i64 0]) rfl rfl fun b4 wm4 hb4 hcm4 hge4 => ?_;have hgehch4 := Nat.le_trans hch.size hge4;have hch := hch.ta hcm4;have hneb24 := zdd hb2.lt hge4;have hb2 := hb2.k0 hcm4;refine zz (kh1 (Sr fun _ kh3 => zf rfl (zl hb2 rfl rfl ?_)));(first | refine zi rfl rfl ?_ | refine zo rfl rfl ?_);refine zf rfl ?_;refine WL.storeC rfl rfl o1 hb2 (by simp) rfl fun ws1 hb2_ hcs1 => ?_;(try simp only [Sx.splice, qt] at hb2_);have hch := hch.s1 hcs1;have hb4 := hb4.kq hcs1;have hb2 := hb2_;refine zz (kh3 (zc fun _ kh5 => Sr fun _ kh6 => zm rfl ?_));refine WL.call hasF247 rfl rfl (r6Kind_spec x _ hx) fun v w1 h' => ?_;obtain ⟨rfl, rfl⟩ := h';refine zz (kh6 ?_);refine CW.block ?_;refine Sr fun _ kh8 => zq rfl rfl (za rfl (zz (kh8 ?_)));refine zy rfl ?_ ?_<;>intro hc1<;>try simp only [qs] at hc1
 ·refine zR fun _ kr10 => ?_
  refine zf rfl (zl hb2 rfl rfl ?_);(first | refine zi rfl rfl ?_ | refine zo rfl rfl ?_);refine zf rfl ?_;refine WL.storeC rfl rfl o1 hb2 (by simp) rfl fun ws2 hb2_ hcs2 => ?_;(try simp only [Sx.splice, qt] at hb2_);have hch := hch.s1 hcs2;have hb4 := hb4.kq hcs2;have hb2 := hb2_;refine WL.nil (kr10 _ _ _ (kh5 ?_));refine Sr fun _ kh11 => zg hb2 rfl ?_;refine zss rfl rfl ao hb4 rfl fun ws3 hb4_ hcs3 => ?_;(try simp only [Sx.splice, qt] at hb4_);have hch := hch.s1 hcs3;have hb4 := hb4_;refine zz (kh11 ?_);refine zr (bodyA.retR1 rfl (RVal.cell rfl (hb4.varA rfl rfl)) ?_);refine ⟨?_, hch⟩;have hk2 : kindP x = 5 := by omega
  rw [hk2];simp [SP.cells, countP]
 ·refine Sr fun _ kh13 => zq rfl rfl (za rfl (zz (kh13 ?_)));refine zy rfl ?_ ?_<;>intro hc2<;>try simp only [qs] at hc2
  ·refine zR fun _ kr15 => ?_
   refine zf rfl (zl hb2 rfl rfl ?_);(first | refine zi rfl rfl ?_ | refine zo rfl rfl ?_);refine zf rfl ?_;refine WL.storeC rfl rfl o1 hb2 (by simp) rfl fun ws4 hb2_ hcs4 => ?_;(try simp only [Sx.splice, qt] at hb2_);have hch := hch.s1 hcs4;have hb4 := hb4.kq hcs4;have hb2 := hb2_;refine WL.nil (kr15 _ _ _ (kh5 ?_));refine Sr fun _ kh16 => zg hb2 rfl ?_;refine zss rfl rfl ao hb4 rfl fun ws5 hb4_ hcs5 => ?_;(try simp only [Sx.splice, qt] at hb4_);have hch := hch.s1 hcs5;have hb4 := hb4_;refine zz (kh16 ?_);refine zr (bodyA.retR1 rfl (RVal.cell rfl (hb4.varA rfl rfl)) ?_);refine ⟨?_, hch⟩;have hk2 : kindP x = 3 := by omega
   rw [hk2];simp [SP.cells, countP]
  ·refine Sr fun _ kh18 => zq rfl rfl (za rfl (zz (kh18 ?_)));refine zy rfl ?_ ?_<;>intro hc3<;>try simp only [qs] at hc3
   ·refine zR fun _ kr20 => ?_
    refine zf rfl (zl hb2 rfl rfl ?_);(first | refine zi rfl rfl ?_ | refine zo rfl rfl ?_);refine zf rfl ?_;refine WL.storeC rfl rfl o1 hb2 (by simp) rfl fun ws6 hb2_ hcs6 => ?_;(try simp only [Sx.splice, qt] at hb2_);have hch := hch.s1 hcs6;have hb4 := hb4.kq hcs6;have hb2 := hb2_;refine WL.nil (kr20 _ _ _ (kh5 ?_));refine Sr fun _ kh21 => zg hb2 rfl ?_;refine zss rfl rfl ao hb4 rfl fun ws7 hb4_ hcs7 => ?_;(try simp only [Sx.splice, qt] at hb4_);have hch := hch.s1 hcs7;have hb4 := hb4_;refine zz (kh21 ?_);refine zr (bodyA.retR1 rfl (RVal.cell rfl (hb4.varA rfl rfl)) ?_);refine ⟨?_, hch⟩;have hk2 : kindP x = 4 := by omega
    rw [hk2];simp [SP.cells, countP]
   ·refine Sr fun _ kh23 => zq rfl rfl (za rfl (zz (kh23 ?_)));refine zy rfl ?_ ?_<;>intro hc4<;>try simp only [qs] at hc4
    ·refine zR fun _ kr25 => ?_
     refine zf rfl (zl hb2 rfl rfl ?_);(first | refine zi rfl rfl ?_ | refine zo rfl rfl ?_);refine zf rfl ?_;refine WL.storeC rfl rfl o1 hb2 (by simp) rfl fun ws8 hb2_ hcs8 => ?_;(try simp only [Sx.splice, qt] at hb2_);have hch := hch.s1 hcs8;have hb4 := hb4.kq hcs8;have hb2 := hb2_;refine WL.nil (kr25 _ _ _ (kh5 ?_));refine Sr fun _ kh26 => zg hb2 rfl ?_;refine zss rfl rfl ao hb4 rfl fun ws9 hb4_ hcs9 => ?_;(try simp only [Sx.splice, qt] at hb4_);have hch := hch.s1 hcs9;have hb4 := hb4_;refine zz (kh26 ?_);refine zr (bodyA.retR1 rfl (RVal.cell rfl (hb4.varA rfl rfl)) ?_);refine ⟨?_, hch⟩;have hk2 : kindP x = 1 := by omega
     rw [hk2];simp [SP.cells, countP]
    ·refine Sr fun _ kh28 => zq rfl rfl (za rfl (zz (kh28 ?_)));refine zy rfl ?_ ?_<;>intro hc5<;>try simp only [qs] at hc5
     ·refine zR fun _ kr30 => ?_
      refine zf rfl (zl hb2 rfl rfl ?_);(first | refine zi rfl rfl ?_ | refine zo rfl rfl ?_);refine zf rfl ?_;refine WL.storeC rfl rfl o1 hb2 (by simp) rfl fun ws10 hb2_ hcs10 => ?_;(try simp only [Sx.splice, qt] at hb2_);have hch := hch.s1 hcs10;have hb4 := hb4.kq hcs10;have hb2 := hb2_;refine WL.nil (kr30 _ _ _ (kh5 ?_));refine Sr fun _ kh31 => zg hb2 rfl ?_;refine zss rfl rfl ao hb4 rfl fun ws11 hb4_ hcs11 => ?_;(try simp only [Sx.splice, qt] at hb4_);have hch := hch.s1 hcs11;have hb4 := hb4_;refine zz (kh31 ?_);refine zr (bodyA.retR1 rfl (RVal.cell rfl (hb4.varA rfl rfl)) ?_);refine ⟨?_, hch⟩;have hk2 : kindP x = 2 := by omega
      rw [hk2];simp [SP.cells, countP]
     ·refine zkk ?_
      refine kh5 (Sr fun _ kh33 => zg hb2 rfl ?_);refine zss rfl rfl ao hb4 rfl fun ws12 hb4_ hcs12 => ?_;(try simp only [Sx.splice, qt] at hb4_);have hch := hch.s1 hcs12;have hb4 := hb4_;refine zz (kh33 ?_);refine zr (bodyA.retR1 rfl (RVal.cell rfl (hb4.varA rfl rfl)) ?_);refine ⟨?_, hch⟩;have hk2 : kindP x = 0 := by omega
      rw [hk2];simp [SP.cells, countP]

structure KOf6 (l : List Nat) (b2 b3 : Nat) (w0 : World) (i : Nat) (w : World) : Prop where
  le : i ≤ l.length
  h3 : BK w b3 124 (cntP (l.take i)).cells
  h2 : BK w b2 124 SP.zero.cells
  ch : Chg [] w0 w

theorem r6Of_spec (v : Value) (l : List Nat) (w : World) (hv : NF w v l) (hlm : l.length ≤ 1000000000) : Ret Tryz.prog 221 [v] w fun u w' => u = .agg (cntP l).cells.toArray ∧ Chg [] w w' := by
 have hv0 := hv;obtain ⟨⟨al, cl, rfl, hcapl, hrl⟩, hWl, hll⟩ := hv;have hch : Chg [] w w := Chg.refl _ _;refine zE1 Tryz.func221 rfl ?_;refine Sr fun _ kh1 => ?_;refine WL.allocB (l := [.int .i64 0, .int .i64 0, .int .i64 0, .int .i64 0, .int .i64 0, .int .i64 0]) rfl rfl fun b2 wm2 hb2 hcm2 hge2 => ?_;have hgehch2 := Nat.le_trans hch.size hge2;have hch := hch.ta hcm2;refine zz (kh1 (Sr fun _ kh3 => ?_));refine WL.allocB (l := [.int .i64 0, .int .i64 0, .int .i64 0, .int .i64 0, .int .i64 0, .int .i64 0]) rfl rfl fun b3 wm3 hb3 hcm3 hge3 => ?_;have hgehch3 := Nat.le_trans hch.size hge3;have hch := hch.ta hcm3;have hneb23 := zdd hb2.lt hge3;have hb2 := hb2.k0 hcm3;refine zz (kh3 (zc fun _ kh5 => Sr fun _ kh6 => za rfl (zz (kh6 ?_))));refine CW.block ?_;refine CW.loop (S := fun i : Nat => [(0, .slice al l.length cl), (2, .pointer (some ⟨b2, 0, none⟩)), (3, .pointer (some ⟨b3, 0, none⟩)), (4, .int .i64 (i : Int))]) (Inv := KOf6 l b2 b3 w) (mu := fun i => l.length - i) (0) ?_ ?_ ?_
 ·exact ⟨Nat.zero_le _, hb3, hb2, hch⟩
 ·exact SLp
 ·rintro i wr ⟨hi, hb3, hb2, hch⟩;unfold SP.cells at hb3 hb2;refine zc fun _ kh8 => Sr fun _ kh9 => zm rfl (zm rfl (zn rfl ?_));refine WL.ev (Ev.lss rfl rfl) rfl ?_;refine zz (kh9 ?_);refine zy rfl ?_ ?_<;>intro hc1<;>try simp only [qs] at hc1
  ·have hx := D_getD hWl i
   have hct := cntP_step (l := l) (i := i) (by omega);have hsl := cnt_le (l.take i);rw [take_len (by omega)] at hsl;refine zkk ?_;refine kh8 (zc fun _ kh11 => ?_);refine CW.block ?_;refine CW.regionKC 6 7 rfl hmix fun kR12 kr12 hS hdr => ?_;have hch := hch.ta hdr;have hb3 := hb3.k0 hdr;have hb2 := hb2.k0 hdr;have hch_r := hch;have hb3_r := hb3;refine wk 0 rfl hS (fun _ hw' => Ev.loadA rfl rfl (hb3_r.keep0 hw') rfl) (wk 1 rfl hS (fun _ _ => Ev.move rfl) (wk 2 rfl hS (fun _ _ => Ev.move rfl) (wk 3 rfl hS (fun _ hw' => Ev.ixR (i) rfl rfl (hrl.keep0 (hch_r.trans hw')) (by omega) (by omega) (by simp; omega)) (wk 4 rfl hS (fun _ hw' => Ev.load rfl rfl ((hrl.keep0 (hch_r.trans hw')).f64 (by first | omega | (simp; omega)))) ?_))));refine WK.oneCall 5 rfl (by kernel_rfl) hasF162 rfl rfl (r6Count_spec (cntP (l.take i)) (l.getD i 0) _ (hsl.mono (by omega)) hx) fun v w1 h' => ?_;obtain ⟨rfl, hC⟩ := h';unfold SP.cells;have hch := hch.ta hC;have hb3 := hb3.k0 hC;have hb2 := hb2.k0 hC;have hS := hS.trans hC;refine ⟨hS, ?_⟩;refine WK.storeB 6 rfl (by kernel_rfl) (by kernel_rfl) rfl rfl rfl ao hb3 (by simp) rfl fun ws13 hb3_ hcs13 => ?_;(try simp only [Sx.splice, qt] at hb3_);have hch := hch.s1 hcs13;have hb2 := hb2.kq hcs13;have hb3 := hb3_;refine WK.done (by kernel_rfl) (kr12 _ _ _ ?_);refine kh11 ?_;refine zR fun _ kr13 => ?_;refine zm rfl ?_;(first | refine zi rfl rfl ?_ | refine zo rfl rfl ?_);refine za rfl ?_;refine WL.nil (kr13 _ _ _ ?_);refine ⟨rfl, i + 1, ?_, ?_, ?_⟩
   ·exact SLp
   ·exact ⟨by omega, by rw [hct]; exact hb3, hb2, hch⟩
   ·show l.length - (i + 1) < l.length - i; omega
  ·have hiX : i = l.length := by omega
   subst hiX;rw [List.take_length] at hb3;refine CW.exit ?_;refine kh5 (Sr fun _ kh14 => zg hb3 rfl ?_);refine zss rfl rfl ao hb2 rfl fun ws14 hb2_ hcs14 => ?_;(try simp only [Sx.splice, qt] at hb2_);have hch := hch.s1 hcs14;have hb2 := hb2_;refine zz (kh14 ?_);refine zr (bodyA.retR1 rfl (RVal.cell rfl (hb2.varA rfl rfl)) ?_);exact ⟨rfl, hch⟩

theorem r3turned_spec (na : Bool) (va : Value) (la : List Nat) (ea : Int) (w : World) (ha : NU w va la) : Ret Tryz.prog 264 [.agg [.bool na, va, .int .i64 ea].toArray] w fun u w' => u = .agg [.bool (!na), va, .int .i64 ea].toArray ∧ Chg [] w w' := by
 have hch : Chg [] w w := Chg.refl _ _;have ha0 := ha;obtain ⟨⟨av, cv, rfl, hcapv, hrv⟩, hWv, hlv⟩ := ha;refine zE1 Tryz.func264 rfl ?_;refine Sr fun _ kh1 => ?_;refine zBh rfl rfl rfl hch fun b1 wm1 hb1 hcm1 hge1 hgehch1 hch => ?_;refine zAh rfl rfl hch fun b2 wm2 hb2 hcm2 hge2 hgehch2 hch => ?_;have hneb12 := zdd hb1.lt hge2;have hb1 := hb1.k0 hcm2;refine zz (kh1 (Sr fun _ kh3 => zf rfl (zl hb1 rfl rfl ?_)));refine WL.ev (Ev.not rfl) rfl ?_;refine zf rfl (zl hb1 rfl rfl (zf rfl (zl hb1 rfl rfl ?_)));refine WL.ev (Ev.build (vs := _) (cs := [_, _, _]) rfl rfl) rfl ?_;refine zss rfl rfl ao hb2 rfl fun ws15 hb2_ hcs15 => ?_;(try simp only [Sx.splice, qt] at hb2_);have hch := hch.s1 hcs15;have hb2 := hb2_;refine zz (kh3 ?_);refine zr (bodyA.retR1 rfl (RVal.cell rfl (hb2.varA rfl rfl)) ?_);exact ⟨rfl, hch⟩

theorem r3Sub_spec (na nb : Bool) (va vb : Value) (la lb : List Nat) (ea eb : Int) (w : World) (ha : NU w va la) (hb : NU w vb lb) (hea : -9223372036854775808 ≤ ea ∧ ea ≤ 9223372036854775807) (heb : -9223372036854775808 ≤ eb ∧ eb ≤ 9223372036854775807) (hla : la.length ≤ 34359738368) (hlb : lb.length ≤ 34359738368) : Ret Tryz.prog 174 [.agg [.bool na, va, .int .i64 ea].toArray, .agg [.bool nb, vb, .int .i64 eb].toArray] w fun u w' => DR w' u (both2 addD (formD na (val la) ea) (formD (!nb) (val lb) eb)) ∧ Chg [] w w' := by
 have hch : Chg [] w w := Chg.refl _ _;have hoa := ha.one;have hob := hb.one;refine zE2 Tryz.func174 rfl ?_;refine Sr fun _ kh1 => ?_;refine zBh rfl rfl rfl hch fun b2 wm2 hb2 hcm2 hge2 hgehch2 hch => ?_;have ha := ha.keep0 hcm2;have hb := hb.keep0 hcm2;refine zBh rfl rfl rfl hch fun b3 wm3 hb3 hcm3 hge3 hgehch3 hch => ?_;have ha := ha.keep0 hcm3;have hb := hb.keep0 hcm3;have hneb23 := zdd hb2.lt hge3;have hb2 := hb2.k0 hcm3;refine zAh rfl rfl hch fun b4 wm4 hb4 hcm4 hge4 hgehch4 hch => ?_;have ha := ha.keep0 hcm4;have hb := hb.keep0 hcm4;have hneb24 := zdd hb2.lt hge4;have hb2 := hb2.k0 hcm4;have hneb34 := zdd hb3.lt hge4;have hb3 := hb3.k0 hcm4;refine za rfl (zz (kh1 (zc fun _ kh3 => ?_)));refine CW.regionKC 6 8 rfl hmix fun kR4 kr4 hS hdr => ?_;have hch := hch.ta hdr;have hb2 := hb2.k0 hdr;have hb3 := hb3.k0 hdr;have hb4 := hb4.k0 hdr;have ha := ha.keep0 hdr;have hb := hb.keep0 hdr;have hb2_r := hb2;have hb3_r := hb3;refine wk 0 rfl hS (fun _ hw' => Ev.loadA rfl rfl (hb2_r.keep0 hw') rfl) (wk 1 rfl hS (fun _ hw' => Ev.loadA rfl rfl (hb3_r.keep0 hw') rfl) ?_);refine WK.oneCall 2 rfl (by kernel_rfl) hasF264 rfl rfl (r3turned_spec _ _ _ _ _ hb) fun v w1 h' => ?_;obtain ⟨rfl, hC⟩ := h';have hch := hch.ta hC;have hb4 := hb4.k0 hC;have ha := ha.keep0 hC;have hb := hb.keep0 hC;have hS := hS.trans hC;refine ⟨hS, ?_⟩;refine WK.oneCall 3 rfl (by kernel_rfl) hasF165 rfl rfl (r3Add_spec _ _ _ _ _ _ _ _ _ ha hb hea heb hla hlb) fun v w2 h' => ?_;obtain ⟨hD9, hC9⟩ := h';have hch := hch.ta hC9;have hb4 := hb4.k0 hC9;have hS := hS.trans hC9;refine ⟨hS, ?_⟩;rcases hD9 with ⟨r, d, hd, rfl, hNr⟩ | ⟨hd, rfl⟩
 ·refine wk 4 rfl hS (fun _ _ => Ev.extract rfl rfl) (wk 5 rfl hS (fun _ _ => Ev.extract rfl rfl) ?_);refine WK.storeB 6 rfl (by kernel_rfl) (by kernel_rfl) rfl rfl rfl ao hb4 (by simp) rfl fun ws16 hb4_ hcs16 => ?_;(try simp only [Sx.splice, qt] at hb4_);have hch := hch.s1 hcs16;have hNr := hNr.keepBK hb4 hcs16 an;have hb4 := hb4_;refine WK.after 7 rfl (by kernel_rfl) (by kernel_rfl) (Ev.assign rfl) rfl ?_;refine WK.done (by kernel_rfl) (kr4 _ _ _ ?_);refine kh3 ?_;refine zr (bodyA.retR2 rfl (RVal.cell rfl (hb4.varA rfl rfl)) (RVal.tmp rfl) ?_);exact ⟨.inl ⟨r, d, hd, rfl, hNr⟩, hch⟩
 ·refine wk 4 rfl hS (fun _ _ => Ev.extract rfl rfl) (wk 5 rfl hS (fun _ _ => Ev.extract rfl rfl) ?_);refine WK.storeB 6 rfl (by kernel_rfl) (by kernel_rfl) rfl rfl rfl ao hb4 (by simp) rfl fun ws17 hb4_ hcs17 => ?_;(try simp only [Sx.splice, qt] at hb4_);have hch := hch.s1 hcs17;have hb4 := hb4_;refine WK.after 7 rfl (by kernel_rfl) (by kernel_rfl) (Ev.assign rfl) rfl ?_;refine WK.done (by kernel_rfl) (kr4 _ _ _ ?_);refine kh3 ?_;refine zr (bodyA.retR2 rfl (RVal.cell rfl (hb4.varA rfl rfl)) (RVal.tmp rfl) ?_);exact ⟨.inr ⟨hd, rfl⟩, hch⟩

end

/- Reference of layer 16: line. No condition. -/
section
open Go Sx Wd Fl
set_option exponentiation.threshold 9000

theorem line_sum (x y : Nat) {num den : Nat} (h : num ≤ den) : fvI x * (den : Int) + (fvI y + -fvI x) * (num : Int) = lineV x y num den := by
  unfold lineV
  rw [show ((den - num : Nat) : Int) = (den : Int) - (num : Int) by omega, Int.add_mul, Int.mul_sub, Int.neg_mul]
  omega
theorem diff_le (x y : Nat) : (fvI y + -fvI x).natAbs ≤ 2 * 2 ^ 3172 := by
  have := fv_le x
  have := fv_le y
  omega
theorem diff_mul (x y : Nat) {n : Nat} : ((fvI y + -fvI x) * (n : Int)).natAbs ≤ (2 * n) * 2 ^ 3172 := by
  rw [Int.natAbs_mul, Int.natAbs_natCast, show 2 * n * 2 ^ 3172 = 2 * 2 ^ 3172 * n by rw [Nat.mul_assoc, Nat.mul_comm n, Nat.mul_assoc]]
  exact Nat.mul_le_mul_right _ (diff_le x y)

theorem r16line_spec (x y num den : Nat) (mode : Int) (w : World) (hx : x < 18446744073709551616) (hy : y < 18446744073709551616) (hfx : (splitP x).cls ≤ 2) (hfy : (splitP y).cls ≤ 2) (hn : 1 ≤ num) (hnd : num < den) (hd : den ≤ 2147483648) : Ret Tryz.prog 139 [.float .f64 x, .float .f64 y, .int .i64 (num : Int), .int .i64 (den : Int), .int .i64 mode] w fun u w' => (∃ bits e, u = .tuple [.float .f64 bits, .int .i64 e].toArray ∧ lineR x y num den mode bits e) ∧ Chg [] w w' := by
 have hch : Chg [] w w := Chg.refl _ _;have hX := fvI_in x;have hY := fvI_in y;have hF := in_of_le (n := 2) (diff_le x y) (by omega);have hFM := in_of_le (diff_mul x y (n := num)) (by omega);have hXD := fv_small x (n := den) (by omega);have hsum := line_sum x y (Nat.le_of_lt hnd);have hV := lineV_in (x := x) (y := y) (num := num) (den := den) (by omega) hd;have oknum := intD_ok (n := (num : Int)) (by omega);have okden := intD_ok (n := (den : Int)) (by omega);have oen := oknum.e;have oln := oknum.len;have oed := okden.e;have old := okden.len;have okX := rsumD_ok (S := (fvI x)) hX;have oeX := okX.e;have olX := okX.len;have okY := rsumD_ok (S := (fvI y)) hY;have oeY := okY.e;have olY := okY.len;have okF := rsumD_ok (S := (fvI y + -fvI x)) hF;have oeF := okF.e;have olF := okF.len;have okU := rsumD_ok (S := ((fvI y + -fvI x) * (num : Int))) hFM;have oeU := okU.e;have olU := okU.len;have okT := rsumD_ok (S := (fvI x * (den : Int))) hXD;have oeT := okT.e;have olT := okT.len;have okV := rsumD_ok (S := (lineV x y num den)) hV;have oeV := okV.e;have olV := okV.len;refine zE5 Tryz.func139 rfl ?_;refine Sr fun _ kh1 => za rfl (za rfl (zz (kh1 (Sr fun _ kh3 => zm rfl ?_))));refine WL.call hasF163 rfl rfl (r3Of_spec (x) _ hx) fun v w1 h' => ?_;obtain ⟨hDx, hC⟩ := h';rw [floatD_sum hx hfx] at hDx;obtain ⟨rx, dx, hdx, rfl, hNx⟩ := hDx.resolve_right (fun q => by cases q.1);cases hdx;have hch := hch.ta hC;refine zm rfl (zx rfl rfl (zx rfl rfl ?_));refine zAh rfl rfl hch fun b12 wm12 hb12 hcm12 hge12 hgehch12 hch => ?_;have hNx := hNx.keep0 hcm12;refine zss rfl rfl ao hb12 rfl fun ws18 hb12_ hcs18 => ?_;(try simp only [Sx.splice, qt] at hb12_);have hch := hch.s1 hcs18;have hNx := hNx.keepBK hb12 hcs18 an;have hb12 := hb12_;refine za rfl (zz (kh3 (Sr fun _ kh5 => zm rfl ?_)));refine WL.call hasF163 rfl rfl (r3Of_spec (y) _ hy) fun v w2 h' => ?_;obtain ⟨hDy, hC⟩ := h';rw [floatD_sum hy hfy] at hDy;obtain ⟨ry, dy, hdy, rfl, hNy⟩ := hDy.resolve_right (fun q => by cases q.1);cases hdy;have hch := hch.ta hC;have hb12 := hb12.k0 hC;have hNx := hNx.keep0 hC;refine zm rfl (zx rfl rfl (zx rfl rfl ?_));refine zAh rfl rfl hch fun b14 wm14 hb14 hcm14 hge14 hgehch14 hch => ?_;have hNx := hNx.keep0 hcm14;have hNy := hNy.keep0 hcm14;have hneb1214 := zdd hb12.lt hge14;have hb12 := hb12.k0 hcm14;refine zss rfl rfl ao hb14 rfl fun ws19 hb14_ hcs19 => ?_;(try simp only [Sx.splice, qt] at hb14_);have hch := hch.s1 hcs19;have hb12 := hb12.kq hcs19;have hNx := hNx.keepBK hb14 hcs19 an;have hNy := hNy.keepBK hb14 hcs19 an;have hb14 := hb14_;refine za rfl (zz (kh5 (Sr fun _ kh7 => zg hb14 rfl (zg hb12 rfl ?_))));refine WL.call hasF174 rfl rfl (r3Sub_spec _ _ _ _ _ _ _ _ _ hNy hNx (by omega) (by omega) (by omega) (by omega)) fun v w3 h' => ?_
 obtain ⟨hDf, hC⟩ := h';rw [val_wd, val_wd, formD_sumD hY, negF_sum hX, show both2 addD (some (sumD (fvI y))) (some (sumD (-fvI x))) = addD (sumD (fvI y)) (sumD (-fvI x)) from rfl, addD_sum hY hX.neg hF] at hDf;obtain ⟨rf, df, hdf, rfl, hNf⟩ := hDf.resolve_right (fun q => by cases q.1);cases hdf;have hch := hch.ta hC;have hb12 := hb12.k0 hC;have hNx := hNx.keep0 hC;refine zm rfl (zx rfl rfl (zx rfl rfl ?_));refine zAh rfl rfl hch fun b16 wm16 hb16 hcm16 hge16 hgehch16 hch => ?_;have hNx := hNx.keep0 hcm16;have hNf := hNf.keep0 hcm16;have hneb1216 := zdd hb12.lt hge16;have hb12 := hb12.k0 hcm16;refine zss rfl rfl ao hb16 rfl fun ws20 hb16_ hcs20 => ?_;(try simp only [Sx.splice, qt] at hb16_);have hch := hch.s1 hcs20;have hb12 := hb12.kq hcs20;have hNx := hNx.keepBK hb16 hcs20 an;have hNf := hNf.keepBK hb16 hcs20 an;have hb16 := hb16_;refine za rfl (zz (kh7 (zc fun _ kh9 => ?_)));refine CW.regionHC 10 rfl hmix fun kR10 kr10 hS hdr => ?_;have hch := hch.ta hdr;have hb12 := hb12.k0 hdr;have hb16 := hb16.k0 hdr;have hNx := hNx.keep0 hdr;have hNf := hNf.keep0 hdr;have hb12_r := hb12;have hb16_r := hb16;refine wh 0 rfl hS (fun _ hw' => Ev.loadA rfl rfl (hb16_r.keep0 hw') rfl) (wh 1 rfl hS (fun _ _ => Ev.move rfl) ?_);refine WH.all2 2 7 (by kernel_rfl) ?_ ?_
 ·refine WHat.call 2 rfl hasF172 rfl rfl (r3Int_spec ((num : Nat) : Int) _ (by omega)) fun v w4 h' => ?_;obtain ⟨⟨rim, rfl, hNim⟩, hC⟩ := h';have hch := hch.ta hC;have hb12 := hb12.k0 hC;have hNx := hNx.keep0 hC;have hNf := hNf.keep0 hC;have hS := hS.trans hC;refine ⟨hS, ?_⟩;refine WH.all2 3 7 (by kernel_rfl) ?_ ?_
  ·refine WHat.call 3 rfl hasF164 rfl rfl (r3Mul_spec _ _ _ _ _ _ _ _ _ hNf hNim (by omega) (by omega) (by omega) (by omega)) fun v w5 h' => ?_;obtain ⟨hDu, hC⟩ := h';rw [val_wd, val_wd, formD_sumD hF, formD_self oknum, show both2 mulD (some (sumD (fvI y + -fvI x))) (some (intD (num : Int))) = mulD (sumD (fvI y + -fvI x)) (intD (num : Int)) from rfl, mulD_int hF (by omega) (by omega) hFM] at hDu;obtain ⟨ru, du, hdu, rfl, hNu⟩ := hDu.resolve_right (fun q => by cases q.1);cases hdu;have hch := hch.ta hC;have hb12 := hb12.k0 hC;have hNx := hNx.keep0 hC;have hS := hS.trans hC;refine ⟨hS, ?_⟩;refine wh 4 rfl hS (fun _ _ => Ev.move rfl) (wh 5 rfl hS (fun _ _ => Ev.extract rfl rfl) (wh 6 rfl hS (fun _ _ => Ev.extract rfl rfl) ?_));refine WH.allocC (l := [.bool false, .slice none 0 0, .int .i64 0]) 7 rfl (by kernel_rfl) hS rfl rfl fun b18 wm18 hb18 hcm18 hge18 hS1 => ?_;have hgeS18 := Nat.le_trans hS.size hge18;have hS := hS1;have hgehch18 := Nat.le_trans hch.size hge18;have hch := hch.ta hcm18;have hNx := hNx.keep0 hcm18;have hNu := hNu.keep0 hcm18;have hneb1218 := zdd hb12.lt hge18;have hb12 := hb12.k0 hcm18;refine WH.storeBN 8 rfl (by kernel_rfl) hS hgeS18 rfl rfl rfl ao hb18 (by simp) rfl fun ws21 hb18_ hcs21 hS => ?_;(try simp only [Sx.splice, qt] at hb18_);have hch := hch.s1 hcs21;have hb12 := hb12.kq hcs21;have hNx := hNx.keepBK hb18 hcs21 an;have hNu := hNu.keepBK hb18 hcs21 an;have hb18 := hb18_;refine wh 9 rfl hS (fun _ _ => Ev.assign rfl) ?_;refine WH.done (by kernel_rfl) (kr10 _ _ _ ?_);refine kh9 (zc fun _ kh11 => ?_);refine CW.regionHC 10 rfl hmix fun kR12 kr12 hS hdr => ?_;have hch := hch.ta hdr;have hb12 := hb12.k0 hdr;have hb18 := hb18.k0 hdr;have hNx := hNx.keep0 hdr;have hNu := hNu.keep0 hdr;have hb12_r := hb12;refine wh 0 rfl hS (fun _ hw' => Ev.loadA rfl rfl (hb12_r.keep0 hw') rfl) (wh 1 rfl hS (fun _ _ => Ev.move rfl) ?_);refine WH.all2 2 7 (by kernel_rfl) ?_ ?_
   ·refine WHat.call 2 rfl hasF172 rfl rfl (r3Int_spec ((den : Nat) : Int) _ (by omega)) fun v w6 h' => ?_;obtain ⟨⟨rid, rfl, hNid⟩, hC⟩ := h';have hch := hch.ta hC;have hb18 := hb18.k0 hC;have hNx := hNx.keep0 hC;have hNu := hNu.keep0 hC;have hS := hS.trans hC;refine ⟨hS, ?_⟩;refine WH.all2 3 7 (by kernel_rfl) ?_ ?_
    ·refine WHat.call 3 rfl hasF164 rfl rfl (r3Mul_spec _ _ _ _ _ _ _ _ _ hNx hNid (by omega) (by omega) (by omega) (by omega)) fun v w7 h' => ?_;obtain ⟨hDt, hC⟩ := h';rw [val_wd, val_wd, formD_sumD hX, formD_self okden, show both2 mulD (some (sumD (fvI x))) (some (intD (den : Int))) = mulD (sumD (fvI x)) (intD (den : Int)) from rfl, mulD_int hX (by omega) (by omega) hXD] at hDt;obtain ⟨rt, dt, hdt, rfl, hNt⟩ := hDt.resolve_right (fun q => by cases q.1);cases hdt;have hch := hch.ta hC;have hb18 := hb18.k0 hC;have hNu := hNu.keep0 hC;have hS := hS.trans hC;refine ⟨hS, ?_⟩;refine wh 4 rfl hS (fun _ _ => Ev.move rfl) (wh 5 rfl hS (fun _ _ => Ev.extract rfl rfl) (wh 6 rfl hS (fun _ _ => Ev.extract rfl rfl) ?_));refine WH.allocC (l := [.bool false, .slice none 0 0, .int .i64 0]) 7 rfl (by kernel_rfl) hS rfl rfl fun b20 wm20 hb20 hcm20 hge20 hS1 => ?_;have hgeS20 := Nat.le_trans hS.size hge20;have hS := hS1;have hgehch20 := Nat.le_trans hch.size hge20;have hch := hch.ta hcm20;have hNu := hNu.keep0 hcm20;have hNt := hNt.keep0 hcm20;have hneb1820 := zdd hb18.lt hge20;have hb18 := hb18.k0 hcm20;refine WH.storeBN 8 rfl (by kernel_rfl) hS hgeS20 rfl rfl rfl ao hb20 (by simp) rfl fun ws22 hb20_ hcs22 hS => ?_;(try simp only [Sx.splice, qt] at hb20_);have hch := hch.s1 hcs22;have hb18 := hb18.kq hcs22;have hNu := hNu.keepBK hb20 hcs22 an;have hNt := hNt.keepBK hb20 hcs22 an;have hb20 := hb20_;refine wh 9 rfl hS (fun _ _ => Ev.assign rfl) ?_;refine WH.done (by kernel_rfl) (kr12 _ _ _ ?_);refine kh11 (Sr fun _ kh13 => zg hb20 rfl (zg hb18 rfl ?_));refine WL.call hasF165 rfl rfl (r3Add_spec _ _ _ _ _ _ _ _ _ hNt hNu (by omega) (by omega) (by omega) (by omega)) fun v w8 h' => ?_;obtain ⟨hDv, hC⟩ := h';rw [val_wd, val_wd, formD_sumD hXD, formD_sumD hFM, show both2 addD (some (sumD (fvI x * (den : Int)))) (some (sumD ((fvI y + -fvI x) * (num : Int)))) = addD (sumD (fvI x * (den : Int))) (sumD ((fvI y + -fvI x) * (num : Int))) from rfl, addD_sum hXD hFM (by rw [hsum]; exact hV), hsum] at hDv;obtain ⟨rv, dv, hdv, rfl, hNv⟩ := hDv.resolve_right (fun q => by cases q.1);cases hdv;obtain ⟨⟨av, cv, rfl, hcapv, hrv⟩, hWv, hlv⟩ := id hNv
     have hch := hch.ta hC;refine zm rfl (zx rfl rfl (zx rfl rfl ?_));refine zAh rfl rfl hch fun b22 wm22 hb22 hcm22 hge22 hgehch22 hch => ?_;have hNv := hNv.keep0 hcm22;refine zss rfl rfl ao hb22 rfl fun ws23 hb22_ hcs23 => ?_;(try simp only [Sx.splice, qt] at hb22_);have hch := hch.s1 hcs23;have hNv := hNv.keepBK hb22 hcs23 an;have hb22 := hb22_;refine za rfl (zz (kh13 (zc fun _ kh15 => Sr fun _ kh16 => zf rfl (zl hb22 rfl rfl (zn rfl (zq rfl rfl (zz (kh16 ?_))))))));refine zy rfl ?_ ?_<;>intro hc1<;>try simp only [qs] at hc1
     ·have h0 : (sumD (lineV x y num den)).m = 0 := wd_eq_nil.1 (List.length_eq_zero_iff.1 (by omega));refine Sr fun _ kh18 => zm rfl (zm rfl ?_);refine WL.buildSlice (m := 2) (cs := [f64v (x), f64v (y)]) (by decide) (by decide) rfl (by kernel_rfl) rfl fun b66 w66 hn66 => ?_
      have hcm66 := hn66.chg;have hge66 := hn66.ge;have hb66 : FB w66 b66 _ [x, y] := hn66.at_;have hgehch66 := Nat.le_trans hch.size hge66;have hch := hch.ta hcm66;have hneb2266 : b22 ≠ b66 := by have := hb22.lt; omega
      refine WL.call hasF221 rfl rfl (r6Of_spec _ [x, y] _ ((NF.of_row hb66.row (by intro z hz; simp only [List.mem_cons, List.not_mem_nil, or_false] at hz; rcases hz with rfl | rfl <;> assumption) (by simp) rfl (by simp))) (by simp)) fun v w9 h' => ?_;obtain ⟨rfl, hC⟩ := h';unfold SP.cells;have hch := hch.ta hC;refine zm rfl ?_;refine WL.call hasF168 rfl rfl (r6Nought_spec (cntP [x, y]) mode _ ((cnt_le [x, y]).mono (by simp))) fun v w10 h' => ?_;obtain ⟨rfl, hC⟩ := h';have hch := hch.ta hC;refine za rfl (za rfl (zz (kh18 ?_)));refine zr (zr2 rfl rfl rfl ?_);exact ⟨⟨_, _, rfl, .inl ⟨h0, rfl, rfl⟩⟩, hch⟩
     ·have h0 : (sumD (lineV x y num den)).m ≠ 0 := fun q => by rw [q, wd_zero] at hc1; exact hc1 rfl
      refine zkk ?_;refine kh15 (zc fun _ kh20 => ?_);refine CW.regionHC 10 rfl hmix fun kR21 kr21 hS hdr => ?_;have hch := hch.ta hdr;have hb22 := hb22.k0 hdr;have hNv := hNv.keep0 hdr;have hb22_r := hb22;refine wh 0 rfl hS (fun _ hw' => Ev.loadA rfl rfl (hb22_r.keep0 hw') rfl) (wh 1 rfl hS (fun _ _ => Ev.move rfl) (wh 4 rfl hS (fun _ _ => Ev.move rfl) ?_));refine WH.oneCall 2 rfl (by kernel_rfl) hasF172 rfl rfl (r3Int_spec ((den : Nat) : Int) _ (by omega)) fun v w11 h' => ?_;obtain ⟨⟨rie, rfl, hNie⟩, hC⟩ := h';have hch := hch.ta hC;have hNv := hNv.keep0 hC;have hS := hS.trans hC;refine ⟨hS, ?_⟩;refine wh 3 rfl hS (fun _ _ => Ev.build (vs := _) (cs := [_, _, _, _, _, _]) rfl rfl) ?_;refine WH.oneCall 5 rfl (by kernel_rfl) hasF171 rfl rfl (r11Quot_spec _ _ _ _ _ _ _ _ mode _ hNv hNie (by omega) (by omega) (by omega) (by omega)) fun v w12 h' => ?_;obtain ⟨⟨bits, e, rfl, hQ⟩, hC⟩ := h';rw [val_wd, val_wd] at hQ;have hch := hch.ta hC;have hS := hS.trans hC;refine ⟨hS, ?_⟩;refine wh 6 rfl hS (fun _ _ => Ev.extract rfl rfl) (wh 7 rfl hS (fun _ _ => Ev.extract rfl rfl) (wh 8 rfl hS (fun _ _ => Ev.assign rfl) (wh 9 rfl hS (fun _ _ => Ev.assign rfl) ?_)));refine WH.done (by kernel_rfl) (kr21 _ _ _ ?_);refine kh20 ?_;refine zr (zr2 rfl rfl rfl ?_);exact ⟨⟨_, _, rfl, .inr ⟨h0, hQ⟩⟩, hch⟩
    ·refine WHat.allocC (l := [.bool false, .slice none 0 0, .int .i64 0]) 7 rfl hS rfl rfl fun b20 wm20 hb20 hcm20 hge20 hS1 => ?_;have hgeS20 := Nat.le_trans hS.size hge20;have hS := hS1;have hgehch20 := Nat.le_trans hch.size hge20;have hch := hch.ta hcm20;have hNx := hNx.keep0 hcm20;have hNu := hNu.keep0 hcm20;have hNid := hNid.keep0 hcm20;have hneb1820 := zdd hb18.lt hge20;have hb18 := hb18.k0 hcm20;refine WH.oneCall 3 rfl (by kernel_rfl) hasF164 rfl rfl (r3Mul_spec _ _ _ _ _ _ _ _ _ hNx hNid (by omega) (by omega) (by omega) (by omega)) fun v w13 h' => ?_;obtain ⟨hDt, hC⟩ := h';rw [val_wd, val_wd, formD_sumD hX, formD_self okden, show both2 mulD (some (sumD (fvI x))) (some (intD (den : Int))) = mulD (sumD (fvI x)) (intD (den : Int)) from rfl, mulD_int hX (by omega) (by omega) hXD] at hDt;obtain ⟨rt, dt, hdt, rfl, hNt⟩ := hDt.resolve_right (fun q => by cases q.1);cases hdt;have hch := hch.ta hC;have hb18 := hb18.k0 hC;have hb20 := hb20.k0 hC;have hNu := hNu.keep0 hC;have hS := hS.trans hC;refine ⟨hS, ?_⟩;refine wh 4 rfl hS (fun _ _ => Ev.move rfl) (wh 5 rfl hS (fun _ _ => Ev.extract rfl rfl) (wh 6 rfl hS (fun _ _ => Ev.extract rfl rfl) ?_));refine WH.storeBN 8 rfl (by kernel_rfl) hS hgeS20 rfl rfl rfl ao hb20 (by simp) rfl fun ws24 hb20_ hcs24 hS => ?_;(try simp only [Sx.splice, qt] at hb20_);have hch := hch.s1 hcs24;have hb18 := hb18.kq hcs24;have hNu := hNu.keepBK hb20 hcs24 an;have hNt := hNt.keepBK hb20 hcs24 an;have hb20 := hb20_;refine wh 9 rfl hS (fun _ _ => Ev.assign rfl) ?_;refine WH.done (by kernel_rfl) (kr12 _ _ _ ?_);refine kh11 (Sr fun _ kh22 => zg hb20 rfl (zg hb18 rfl ?_));refine WL.call hasF165 rfl rfl (r3Add_spec _ _ _ _ _ _ _ _ _ hNt hNu (by omega) (by omega) (by omega) (by omega)) fun v w14 h' => ?_;obtain ⟨hDv, hC⟩ := h';rw [val_wd, val_wd, formD_sumD hXD, formD_sumD hFM, show both2 addD (some (sumD (fvI x * (den : Int)))) (some (sumD ((fvI y + -fvI x) * (num : Int)))) = addD (sumD (fvI x * (den : Int))) (sumD ((fvI y + -fvI x) * (num : Int))) from rfl, addD_sum hXD hFM (by rw [hsum]; exact hV), hsum] at hDv;obtain ⟨rv, dv, hdv, rfl, hNv⟩ := hDv.resolve_right (fun q => by cases q.1);cases hdv;obtain ⟨⟨av, cv, rfl, hcapv, hrv⟩, hWv, hlv⟩ := id hNv
     have hch := hch.ta hC;refine zm rfl (zx rfl rfl (zx rfl rfl ?_));refine zAh rfl rfl hch fun b22 wm22 hb22 hcm22 hge22 hgehch22 hch => ?_;have hNv := hNv.keep0 hcm22;refine zss rfl rfl ao hb22 rfl fun ws25 hb22_ hcs25 => ?_;(try simp only [Sx.splice, qt] at hb22_);have hch := hch.s1 hcs25;have hNv := hNv.keepBK hb22 hcs25 an;have hb22 := hb22_;refine za rfl (zz (kh22 (zc fun _ kh24 => Sr fun _ kh25 => zf rfl (zl hb22 rfl rfl (zn rfl (zq rfl rfl (zz (kh25 ?_))))))));refine zy rfl ?_ ?_<;>intro hc2<;>try simp only [qs] at hc2
     ·have h0 : (sumD (lineV x y num den)).m = 0 := wd_eq_nil.1 (List.length_eq_zero_iff.1 (by omega));refine Sr fun _ kh27 => zm rfl (zm rfl ?_);refine WL.buildSlice (m := 2) (cs := [f64v (x), f64v (y)]) (by decide) (by decide) rfl (by kernel_rfl) rfl fun b66 w66 hn66 => ?_
      have hcm66 := hn66.chg;have hge66 := hn66.ge;have hb66 : FB w66 b66 _ [x, y] := hn66.at_;have hgehch66 := Nat.le_trans hch.size hge66;have hch := hch.ta hcm66;have hneb2266 : b22 ≠ b66 := by have := hb22.lt; omega
      refine WL.call hasF221 rfl rfl (r6Of_spec _ [x, y] _ ((NF.of_row hb66.row (by intro z hz; simp only [List.mem_cons, List.not_mem_nil, or_false] at hz; rcases hz with rfl | rfl <;> assumption) (by simp) rfl (by simp))) (by simp)) fun v w15 h' => ?_;obtain ⟨rfl, hC⟩ := h';unfold SP.cells;have hch := hch.ta hC;refine zm rfl ?_;refine WL.call hasF168 rfl rfl (r6Nought_spec (cntP [x, y]) mode _ ((cnt_le [x, y]).mono (by simp))) fun v w16 h' => ?_;obtain ⟨rfl, hC⟩ := h';have hch := hch.ta hC;refine za rfl (za rfl (zz (kh27 ?_)));refine zr (zr2 rfl rfl rfl ?_);exact ⟨⟨_, _, rfl, .inl ⟨h0, rfl, rfl⟩⟩, hch⟩
     ·have h0 : (sumD (lineV x y num den)).m ≠ 0 := fun q => by rw [q, wd_zero] at hc2; exact hc2 rfl
      refine zkk ?_;refine kh24 (zc fun _ kh29 => ?_);refine CW.regionHC 10 rfl hmix fun kR30 kr30 hS hdr => ?_;have hch := hch.ta hdr;have hb22 := hb22.k0 hdr;have hNv := hNv.keep0 hdr;have hb22_r := hb22;refine wh 0 rfl hS (fun _ hw' => Ev.loadA rfl rfl (hb22_r.keep0 hw') rfl) (wh 1 rfl hS (fun _ _ => Ev.move rfl) (wh 4 rfl hS (fun _ _ => Ev.move rfl) ?_));refine WH.oneCall 2 rfl (by kernel_rfl) hasF172 rfl rfl (r3Int_spec ((den : Nat) : Int) _ (by omega)) fun v w17 h' => ?_;obtain ⟨⟨rie, rfl, hNie⟩, hC⟩ := h';have hch := hch.ta hC;have hNv := hNv.keep0 hC;have hS := hS.trans hC;refine ⟨hS, ?_⟩;refine wh 3 rfl hS (fun _ _ => Ev.build (vs := _) (cs := [_, _, _, _, _, _]) rfl rfl) ?_;refine WH.oneCall 5 rfl (by kernel_rfl) hasF171 rfl rfl (r11Quot_spec _ _ _ _ _ _ _ _ mode _ hNv hNie (by omega) (by omega) (by omega) (by omega)) fun v w18 h' => ?_;obtain ⟨⟨bits, e, rfl, hQ⟩, hC⟩ := h';rw [val_wd, val_wd] at hQ;have hch := hch.ta hC;have hS := hS.trans hC;refine ⟨hS, ?_⟩;refine wh 6 rfl hS (fun _ _ => Ev.extract rfl rfl) (wh 7 rfl hS (fun _ _ => Ev.extract rfl rfl) (wh 8 rfl hS (fun _ _ => Ev.assign rfl) (wh 9 rfl hS (fun _ _ => Ev.assign rfl) ?_)));refine WH.done (by kernel_rfl) (kr30 _ _ _ ?_);refine kh29 ?_;refine zr (zr2 rfl rfl rfl ?_);exact ⟨⟨_, _, rfl, .inr ⟨h0, hQ⟩⟩, hch⟩
   ·refine WHat.allocC (l := [.bool false, .slice none 0 0, .int .i64 0]) 7 rfl hS rfl rfl fun b20 wm20 hb20 hcm20 hge20 hS1 => ?_;have hgeS20 := Nat.le_trans hS.size hge20;have hS := hS1;have hgehch20 := Nat.le_trans hch.size hge20;have hch := hch.ta hcm20;have hNx := hNx.keep0 hcm20;have hNu := hNu.keep0 hcm20;have hneb1820 := zdd hb18.lt hge20;have hb18 := hb18.k0 hcm20;refine WH.oneCall 2 rfl (by kernel_rfl) hasF172 rfl rfl (r3Int_spec ((den : Nat) : Int) _ (by omega)) fun v w19 h' => ?_;obtain ⟨⟨rid, rfl, hNid⟩, hC⟩ := h';have hch := hch.ta hC;have hb18 := hb18.k0 hC;have hb20 := hb20.k0 hC;have hNx := hNx.keep0 hC;have hNu := hNu.keep0 hC;have hS := hS.trans hC;refine ⟨hS, ?_⟩;refine WH.oneCall 3 rfl (by kernel_rfl) hasF164 rfl rfl (r3Mul_spec _ _ _ _ _ _ _ _ _ hNx hNid (by omega) (by omega) (by omega) (by omega)) fun v w20 h' => ?_;obtain ⟨hDt, hC⟩ := h';rw [val_wd, val_wd, formD_sumD hX, formD_self okden, show both2 mulD (some (sumD (fvI x))) (some (intD (den : Int))) = mulD (sumD (fvI x)) (intD (den : Int)) from rfl, mulD_int hX (by omega) (by omega) hXD] at hDt;obtain ⟨rt, dt, hdt, rfl, hNt⟩ := hDt.resolve_right (fun q => by cases q.1);cases hdt;have hch := hch.ta hC;have hb18 := hb18.k0 hC;have hb20 := hb20.k0 hC;have hNu := hNu.keep0 hC;have hS := hS.trans hC;refine ⟨hS, ?_⟩;refine wh 4 rfl hS (fun _ _ => Ev.move rfl) (wh 5 rfl hS (fun _ _ => Ev.extract rfl rfl) (wh 6 rfl hS (fun _ _ => Ev.extract rfl rfl) ?_));refine WH.storeBN 8 rfl (by kernel_rfl) hS hgeS20 rfl rfl rfl ao hb20 (by simp) rfl fun ws26 hb20_ hcs26 hS => ?_;(try simp only [Sx.splice, qt] at hb20_);have hch := hch.s1 hcs26;have hb18 := hb18.kq hcs26;have hNu := hNu.keepBK hb20 hcs26 an;have hNt := hNt.keepBK hb20 hcs26 an;have hb20 := hb20_;refine wh 9 rfl hS (fun _ _ => Ev.assign rfl) ?_;refine WH.done (by kernel_rfl) (kr12 _ _ _ ?_);refine kh11 (Sr fun _ kh31 => zg hb20 rfl (zg hb18 rfl ?_));refine WL.call hasF165 rfl rfl (r3Add_spec _ _ _ _ _ _ _ _ _ hNt hNu (by omega) (by omega) (by omega) (by omega)) fun v w21 h' => ?_
    obtain ⟨hDv, hC⟩ := h';rw [val_wd, val_wd, formD_sumD hXD, formD_sumD hFM, show both2 addD (some (sumD (fvI x * (den : Int)))) (some (sumD ((fvI y + -fvI x) * (num : Int)))) = addD (sumD (fvI x * (den : Int))) (sumD ((fvI y + -fvI x) * (num : Int))) from rfl, addD_sum hXD hFM (by rw [hsum]; exact hV), hsum] at hDv;obtain ⟨rv, dv, hdv, rfl, hNv⟩ := hDv.resolve_right (fun q => by cases q.1);cases hdv;obtain ⟨⟨av, cv, rfl, hcapv, hrv⟩, hWv, hlv⟩ := id hNv;have hch := hch.ta hC;refine zm rfl (zx rfl rfl (zx rfl rfl ?_));refine zAh rfl rfl hch fun b22 wm22 hb22 hcm22 hge22 hgehch22 hch => ?_;have hNv := hNv.keep0 hcm22;refine zss rfl rfl ao hb22 rfl fun ws27 hb22_ hcs27 => ?_;(try simp only [Sx.splice, qt] at hb22_);have hch := hch.s1 hcs27;have hNv := hNv.keepBK hb22 hcs27 an;have hb22 := hb22_;refine za rfl (zz (kh31 (zc fun _ kh33 => Sr fun _ kh34 => zf rfl (zl hb22 rfl rfl (zn rfl (zq rfl rfl (zz (kh34 ?_))))))));refine zy rfl ?_ ?_<;>intro hc3<;>try simp only [qs] at hc3
    ·have h0 : (sumD (lineV x y num den)).m = 0 := wd_eq_nil.1 (List.length_eq_zero_iff.1 (by omega));refine Sr fun _ kh36 => zm rfl (zm rfl ?_);refine WL.buildSlice (m := 2) (cs := [f64v (x), f64v (y)]) (by decide) (by decide) rfl (by kernel_rfl) rfl fun b66 w66 hn66 => ?_
     have hcm66 := hn66.chg;have hge66 := hn66.ge;have hb66 : FB w66 b66 _ [x, y] := hn66.at_;have hgehch66 := Nat.le_trans hch.size hge66;have hch := hch.ta hcm66;refine WL.call hasF221 rfl rfl (r6Of_spec _ [x, y] _ ((NF.of_row hb66.row (by intro z hz; simp only [List.mem_cons, List.not_mem_nil, or_false] at hz; rcases hz with rfl | rfl <;> assumption) (by simp) rfl (by simp))) (by simp)) fun v w22 h' => ?_;obtain ⟨rfl, hC⟩ := h';unfold SP.cells;have hch := hch.ta hC;refine zm rfl ?_;refine WL.call hasF168 rfl rfl (r6Nought_spec (cntP [x, y]) mode _ ((cnt_le [x, y]).mono (by simp))) fun v w23 h' => ?_;obtain ⟨rfl, hC⟩ := h';have hch := hch.ta hC;refine za rfl (za rfl (zz (kh36 ?_)));refine zr (zr2 rfl rfl rfl ?_);exact ⟨⟨_, _, rfl, .inl ⟨h0, rfl, rfl⟩⟩, hch⟩
    ·have h0 : (sumD (lineV x y num den)).m ≠ 0 := fun q => by rw [q, wd_zero] at hc3; exact hc3 rfl
     refine zkk ?_;refine kh33 (zc fun _ kh38 => ?_);refine CW.regionHC 10 rfl hmix fun kR39 kr39 hS hdr => ?_;have hch := hch.ta hdr;have hb22 := hb22.k0 hdr;have hNv := hNv.keep0 hdr;have hb22_r := hb22;refine wh 0 rfl hS (fun _ hw' => Ev.loadA rfl rfl (hb22_r.keep0 hw') rfl) (wh 1 rfl hS (fun _ _ => Ev.move rfl) (wh 4 rfl hS (fun _ _ => Ev.move rfl) ?_));refine WH.oneCall 2 rfl (by kernel_rfl) hasF172 rfl rfl (r3Int_spec ((den : Nat) : Int) _ (by omega)) fun v w24 h' => ?_;obtain ⟨⟨rie, rfl, hNie⟩, hC⟩ := h';have hch := hch.ta hC;have hNv := hNv.keep0 hC;have hS := hS.trans hC;refine ⟨hS, ?_⟩;refine wh 3 rfl hS (fun _ _ => Ev.build (vs := _) (cs := [_, _, _, _, _, _]) rfl rfl) ?_;refine WH.oneCall 5 rfl (by kernel_rfl) hasF171 rfl rfl (r11Quot_spec _ _ _ _ _ _ _ _ mode _ hNv hNie (by omega) (by omega) (by omega) (by omega)) fun v w25 h' => ?_;obtain ⟨⟨bits, e, rfl, hQ⟩, hC⟩ := h';rw [val_wd, val_wd] at hQ;have hch := hch.ta hC;have hS := hS.trans hC;refine ⟨hS, ?_⟩;refine wh 6 rfl hS (fun _ _ => Ev.extract rfl rfl) (wh 7 rfl hS (fun _ _ => Ev.extract rfl rfl) (wh 8 rfl hS (fun _ _ => Ev.assign rfl) (wh 9 rfl hS (fun _ _ => Ev.assign rfl) ?_)));refine WH.done (by kernel_rfl) (kr39 _ _ _ ?_);refine kh38 ?_;refine zr (zr2 rfl rfl rfl ?_);exact ⟨⟨_, _, rfl, .inr ⟨h0, hQ⟩⟩, hch⟩
  ·refine WHat.allocC (l := [.bool false, .slice none 0 0, .int .i64 0]) 7 rfl hS rfl rfl fun b18 wm18 hb18 hcm18 hge18 hS1 => ?_;have hgeS18 := Nat.le_trans hS.size hge18;have hS := hS1;have hgehch18 := Nat.le_trans hch.size hge18;have hch := hch.ta hcm18;have hNx := hNx.keep0 hcm18;have hNf := hNf.keep0 hcm18;have hNim := hNim.keep0 hcm18;have hneb1218 := zdd hb12.lt hge18;have hb12 := hb12.k0 hcm18;refine WH.oneCall 3 rfl (by kernel_rfl) hasF164 rfl rfl (r3Mul_spec _ _ _ _ _ _ _ _ _ hNf hNim (by omega) (by omega) (by omega) (by omega)) fun v w26 h' => ?_;obtain ⟨hDu, hC⟩ := h';rw [val_wd, val_wd, formD_sumD hF, formD_self oknum, show both2 mulD (some (sumD (fvI y + -fvI x))) (some (intD (num : Int))) = mulD (sumD (fvI y + -fvI x)) (intD (num : Int)) from rfl, mulD_int hF (by omega) (by omega) hFM] at hDu;obtain ⟨ru, du, hdu, rfl, hNu⟩ := hDu.resolve_right (fun q => by cases q.1);cases hdu;have hch := hch.ta hC;have hb12 := hb12.k0 hC;have hb18 := hb18.k0 hC;have hNx := hNx.keep0 hC;have hS := hS.trans hC;refine ⟨hS, ?_⟩;refine wh 4 rfl hS (fun _ _ => Ev.move rfl) (wh 5 rfl hS (fun _ _ => Ev.extract rfl rfl) (wh 6 rfl hS (fun _ _ => Ev.extract rfl rfl) ?_));refine WH.storeBN 8 rfl (by kernel_rfl) hS hgeS18 rfl rfl rfl ao hb18 (by simp) rfl fun ws28 hb18_ hcs28 hS => ?_;(try simp only [Sx.splice, qt] at hb18_);have hch := hch.s1 hcs28;have hb12 := hb12.kq hcs28;have hNx := hNx.keepBK hb18 hcs28 an;have hNu := hNu.keepBK hb18 hcs28 an;have hb18 := hb18_;refine wh 9 rfl hS (fun _ _ => Ev.assign rfl) ?_;refine WH.done (by kernel_rfl) (kr10 _ _ _ ?_);refine kh9 (zc fun _ kh40 => ?_);refine CW.regionHC 10 rfl hmix fun kR41 kr41 hS hdr => ?_;have hch := hch.ta hdr;have hb12 := hb12.k0 hdr;have hb18 := hb18.k0 hdr;have hNx := hNx.keep0 hdr;have hNu := hNu.keep0 hdr;have hb12_r := hb12;refine wh 0 rfl hS (fun _ hw' => Ev.loadA rfl rfl (hb12_r.keep0 hw') rfl) (wh 1 rfl hS (fun _ _ => Ev.move rfl) ?_);refine WH.all2 2 7 (by kernel_rfl) ?_ ?_
   ·refine WHat.call 2 rfl hasF172 rfl rfl (r3Int_spec ((den : Nat) : Int) _ (by omega)) fun v w27 h' => ?_;obtain ⟨⟨rid, rfl, hNid⟩, hC⟩ := h';have hch := hch.ta hC;have hb18 := hb18.k0 hC;have hNx := hNx.keep0 hC;have hNu := hNu.keep0 hC;have hS := hS.trans hC;refine ⟨hS, ?_⟩;refine WH.all2 3 7 (by kernel_rfl) ?_ ?_
    ·refine WHat.call 3 rfl hasF164 rfl rfl (r3Mul_spec _ _ _ _ _ _ _ _ _ hNx hNid (by omega) (by omega) (by omega) (by omega)) fun v w28 h' => ?_;obtain ⟨hDt, hC⟩ := h';rw [val_wd, val_wd, formD_sumD hX, formD_self okden, show both2 mulD (some (sumD (fvI x))) (some (intD (den : Int))) = mulD (sumD (fvI x)) (intD (den : Int)) from rfl, mulD_int hX (by omega) (by omega) hXD] at hDt;obtain ⟨rt, dt, hdt, rfl, hNt⟩ := hDt.resolve_right (fun q => by cases q.1);cases hdt;have hch := hch.ta hC;have hb18 := hb18.k0 hC;have hNu := hNu.keep0 hC;have hS := hS.trans hC;refine ⟨hS, ?_⟩;refine wh 4 rfl hS (fun _ _ => Ev.move rfl) (wh 5 rfl hS (fun _ _ => Ev.extract rfl rfl) (wh 6 rfl hS (fun _ _ => Ev.extract rfl rfl) ?_));refine WH.allocC (l := [.bool false, .slice none 0 0, .int .i64 0]) 7 rfl (by kernel_rfl) hS rfl rfl fun b20 wm20 hb20 hcm20 hge20 hS1 => ?_;have hgeS20 := Nat.le_trans hS.size hge20;have hS := hS1;have hgehch20 := Nat.le_trans hch.size hge20;have hch := hch.ta hcm20;have hNu := hNu.keep0 hcm20;have hNt := hNt.keep0 hcm20;have hneb1820 := zdd hb18.lt hge20;have hb18 := hb18.k0 hcm20;refine WH.storeBN 8 rfl (by kernel_rfl) hS hgeS20 rfl rfl rfl ao hb20 (by simp) rfl fun ws29 hb20_ hcs29 hS => ?_;(try simp only [Sx.splice, qt] at hb20_);have hch := hch.s1 hcs29;have hb18 := hb18.kq hcs29;have hNu := hNu.keepBK hb20 hcs29 an;have hNt := hNt.keepBK hb20 hcs29 an;have hb20 := hb20_;refine wh 9 rfl hS (fun _ _ => Ev.assign rfl) ?_;refine WH.done (by kernel_rfl) (kr41 _ _ _ ?_);refine kh40 (Sr fun _ kh42 => zg hb20 rfl (zg hb18 rfl ?_));refine WL.call hasF165 rfl rfl (r3Add_spec _ _ _ _ _ _ _ _ _ hNt hNu (by omega) (by omega) (by omega) (by omega)) fun v w29 h' => ?_;obtain ⟨hDv, hC⟩ := h';rw [val_wd, val_wd, formD_sumD hXD, formD_sumD hFM, show both2 addD (some (sumD (fvI x * (den : Int)))) (some (sumD ((fvI y + -fvI x) * (num : Int)))) = addD (sumD (fvI x * (den : Int))) (sumD ((fvI y + -fvI x) * (num : Int))) from rfl, addD_sum hXD hFM (by rw [hsum]; exact hV), hsum] at hDv;obtain ⟨rv, dv, hdv, rfl, hNv⟩ := hDv.resolve_right (fun q => by cases q.1);cases hdv;obtain ⟨⟨av, cv, rfl, hcapv, hrv⟩, hWv, hlv⟩ := id hNv
     have hch := hch.ta hC;refine zm rfl (zx rfl rfl (zx rfl rfl ?_));refine zAh rfl rfl hch fun b22 wm22 hb22 hcm22 hge22 hgehch22 hch => ?_;have hNv := hNv.keep0 hcm22;refine zss rfl rfl ao hb22 rfl fun ws30 hb22_ hcs30 => ?_;(try simp only [Sx.splice, qt] at hb22_);have hch := hch.s1 hcs30;have hNv := hNv.keepBK hb22 hcs30 an;have hb22 := hb22_;refine za rfl (zz (kh42 (zc fun _ kh44 => Sr fun _ kh45 => zf rfl (zl hb22 rfl rfl (zn rfl (zq rfl rfl (zz (kh45 ?_))))))));refine zy rfl ?_ ?_<;>intro hc4<;>try simp only [qs] at hc4
     ·have h0 : (sumD (lineV x y num den)).m = 0 := wd_eq_nil.1 (List.length_eq_zero_iff.1 (by omega));refine Sr fun _ kh47 => zm rfl (zm rfl ?_);refine WL.buildSlice (m := 2) (cs := [f64v (x), f64v (y)]) (by decide) (by decide) rfl (by kernel_rfl) rfl fun b66 w66 hn66 => ?_
      have hcm66 := hn66.chg;have hge66 := hn66.ge;have hb66 : FB w66 b66 _ [x, y] := hn66.at_;have hgehch66 := Nat.le_trans hch.size hge66;have hch := hch.ta hcm66;have hneb2266 : b22 ≠ b66 := by have := hb22.lt; omega
      refine WL.call hasF221 rfl rfl (r6Of_spec _ [x, y] _ ((NF.of_row hb66.row (by intro z hz; simp only [List.mem_cons, List.not_mem_nil, or_false] at hz; rcases hz with rfl | rfl <;> assumption) (by simp) rfl (by simp))) (by simp)) fun v w30 h' => ?_;obtain ⟨rfl, hC⟩ := h';unfold SP.cells;have hch := hch.ta hC;refine zm rfl ?_;refine WL.call hasF168 rfl rfl (r6Nought_spec (cntP [x, y]) mode _ ((cnt_le [x, y]).mono (by simp))) fun v w31 h' => ?_;obtain ⟨rfl, hC⟩ := h';have hch := hch.ta hC;refine za rfl (za rfl (zz (kh47 ?_)));refine zr (zr2 rfl rfl rfl ?_);exact ⟨⟨_, _, rfl, .inl ⟨h0, rfl, rfl⟩⟩, hch⟩
     ·have h0 : (sumD (lineV x y num den)).m ≠ 0 := fun q => by rw [q, wd_zero] at hc4; exact hc4 rfl
      refine zkk ?_;refine kh44 (zc fun _ kh49 => ?_);refine CW.regionHC 10 rfl hmix fun kR50 kr50 hS hdr => ?_;have hch := hch.ta hdr;have hb22 := hb22.k0 hdr;have hNv := hNv.keep0 hdr;have hb22_r := hb22;refine wh 0 rfl hS (fun _ hw' => Ev.loadA rfl rfl (hb22_r.keep0 hw') rfl) (wh 1 rfl hS (fun _ _ => Ev.move rfl) (wh 4 rfl hS (fun _ _ => Ev.move rfl) ?_));refine WH.oneCall 2 rfl (by kernel_rfl) hasF172 rfl rfl (r3Int_spec ((den : Nat) : Int) _ (by omega)) fun v w32 h' => ?_;obtain ⟨⟨rie, rfl, hNie⟩, hC⟩ := h';have hch := hch.ta hC;have hNv := hNv.keep0 hC;have hS := hS.trans hC;refine ⟨hS, ?_⟩;refine wh 3 rfl hS (fun _ _ => Ev.build (vs := _) (cs := [_, _, _, _, _, _]) rfl rfl) ?_;refine WH.oneCall 5 rfl (by kernel_rfl) hasF171 rfl rfl (r11Quot_spec _ _ _ _ _ _ _ _ mode _ hNv hNie (by omega) (by omega) (by omega) (by omega)) fun v w33 h' => ?_;obtain ⟨⟨bits, e, rfl, hQ⟩, hC⟩ := h';rw [val_wd, val_wd] at hQ;have hch := hch.ta hC;have hS := hS.trans hC;refine ⟨hS, ?_⟩;refine wh 6 rfl hS (fun _ _ => Ev.extract rfl rfl) (wh 7 rfl hS (fun _ _ => Ev.extract rfl rfl) (wh 8 rfl hS (fun _ _ => Ev.assign rfl) (wh 9 rfl hS (fun _ _ => Ev.assign rfl) ?_)));refine WH.done (by kernel_rfl) (kr50 _ _ _ ?_);refine kh49 ?_;refine zr (zr2 rfl rfl rfl ?_);exact ⟨⟨_, _, rfl, .inr ⟨h0, hQ⟩⟩, hch⟩
    ·refine WHat.allocC (l := [.bool false, .slice none 0 0, .int .i64 0]) 7 rfl hS rfl rfl fun b20 wm20 hb20 hcm20 hge20 hS1 => ?_;have hgeS20 := Nat.le_trans hS.size hge20;have hS := hS1;have hgehch20 := Nat.le_trans hch.size hge20;have hch := hch.ta hcm20;have hNx := hNx.keep0 hcm20;have hNu := hNu.keep0 hcm20;have hNid := hNid.keep0 hcm20;have hneb1820 := zdd hb18.lt hge20;have hb18 := hb18.k0 hcm20;refine WH.oneCall 3 rfl (by kernel_rfl) hasF164 rfl rfl (r3Mul_spec _ _ _ _ _ _ _ _ _ hNx hNid (by omega) (by omega) (by omega) (by omega)) fun v w34 h' => ?_;obtain ⟨hDt, hC⟩ := h';rw [val_wd, val_wd, formD_sumD hX, formD_self okden, show both2 mulD (some (sumD (fvI x))) (some (intD (den : Int))) = mulD (sumD (fvI x)) (intD (den : Int)) from rfl, mulD_int hX (by omega) (by omega) hXD] at hDt;obtain ⟨rt, dt, hdt, rfl, hNt⟩ := hDt.resolve_right (fun q => by cases q.1);cases hdt;have hch := hch.ta hC;have hb18 := hb18.k0 hC;have hb20 := hb20.k0 hC;have hNu := hNu.keep0 hC;have hS := hS.trans hC;refine ⟨hS, ?_⟩;refine wh 4 rfl hS (fun _ _ => Ev.move rfl) (wh 5 rfl hS (fun _ _ => Ev.extract rfl rfl) (wh 6 rfl hS (fun _ _ => Ev.extract rfl rfl) ?_));refine WH.storeBN 8 rfl (by kernel_rfl) hS hgeS20 rfl rfl rfl ao hb20 (by simp) rfl fun ws31 hb20_ hcs31 hS => ?_;(try simp only [Sx.splice, qt] at hb20_);have hch := hch.s1 hcs31;have hb18 := hb18.kq hcs31;have hNu := hNu.keepBK hb20 hcs31 an;have hNt := hNt.keepBK hb20 hcs31 an;have hb20 := hb20_;refine wh 9 rfl hS (fun _ _ => Ev.assign rfl) ?_;refine WH.done (by kernel_rfl) (kr41 _ _ _ ?_);refine kh40 (Sr fun _ kh51 => zg hb20 rfl (zg hb18 rfl ?_));refine WL.call hasF165 rfl rfl (r3Add_spec _ _ _ _ _ _ _ _ _ hNt hNu (by omega) (by omega) (by omega) (by omega)) fun v w35 h' => ?_;obtain ⟨hDv, hC⟩ := h';rw [val_wd, val_wd, formD_sumD hXD, formD_sumD hFM, show both2 addD (some (sumD (fvI x * (den : Int)))) (some (sumD ((fvI y + -fvI x) * (num : Int)))) = addD (sumD (fvI x * (den : Int))) (sumD ((fvI y + -fvI x) * (num : Int))) from rfl, addD_sum hXD hFM (by rw [hsum]; exact hV), hsum] at hDv;obtain ⟨rv, dv, hdv, rfl, hNv⟩ := hDv.resolve_right (fun q => by cases q.1);cases hdv;obtain ⟨⟨av, cv, rfl, hcapv, hrv⟩, hWv, hlv⟩ := id hNv
     have hch := hch.ta hC;refine zm rfl (zx rfl rfl (zx rfl rfl ?_));refine zAh rfl rfl hch fun b22 wm22 hb22 hcm22 hge22 hgehch22 hch => ?_;have hNv := hNv.keep0 hcm22;refine zss rfl rfl ao hb22 rfl fun ws32 hb22_ hcs32 => ?_;(try simp only [Sx.splice, qt] at hb22_);have hch := hch.s1 hcs32;have hNv := hNv.keepBK hb22 hcs32 an;have hb22 := hb22_;refine za rfl (zz (kh51 (zc fun _ kh53 => Sr fun _ kh54 => zf rfl (zl hb22 rfl rfl (zn rfl (zq rfl rfl (zz (kh54 ?_))))))));refine zy rfl ?_ ?_<;>intro hc5<;>try simp only [qs] at hc5
     ·have h0 : (sumD (lineV x y num den)).m = 0 := wd_eq_nil.1 (List.length_eq_zero_iff.1 (by omega));refine Sr fun _ kh56 => zm rfl (zm rfl ?_);refine WL.buildSlice (m := 2) (cs := [f64v (x), f64v (y)]) (by decide) (by decide) rfl (by kernel_rfl) rfl fun b66 w66 hn66 => ?_
      have hcm66 := hn66.chg;have hge66 := hn66.ge;have hb66 : FB w66 b66 _ [x, y] := hn66.at_;have hgehch66 := Nat.le_trans hch.size hge66;have hch := hch.ta hcm66;have hneb2266 : b22 ≠ b66 := by have := hb22.lt; omega
      refine WL.call hasF221 rfl rfl (r6Of_spec _ [x, y] _ ((NF.of_row hb66.row (by intro z hz; simp only [List.mem_cons, List.not_mem_nil, or_false] at hz; rcases hz with rfl | rfl <;> assumption) (by simp) rfl (by simp))) (by simp)) fun v w36 h' => ?_;obtain ⟨rfl, hC⟩ := h';unfold SP.cells;have hch := hch.ta hC;refine zm rfl ?_;refine WL.call hasF168 rfl rfl (r6Nought_spec (cntP [x, y]) mode _ ((cnt_le [x, y]).mono (by simp))) fun v w37 h' => ?_;obtain ⟨rfl, hC⟩ := h';have hch := hch.ta hC;refine za rfl (za rfl (zz (kh56 ?_)));refine zr (zr2 rfl rfl rfl ?_);exact ⟨⟨_, _, rfl, .inl ⟨h0, rfl, rfl⟩⟩, hch⟩
     ·have h0 : (sumD (lineV x y num den)).m ≠ 0 := fun q => by rw [q, wd_zero] at hc5; exact hc5 rfl
      refine zkk ?_;refine kh53 (zc fun _ kh58 => ?_);refine CW.regionHC 10 rfl hmix fun kR59 kr59 hS hdr => ?_;have hch := hch.ta hdr;have hb22 := hb22.k0 hdr;have hNv := hNv.keep0 hdr;have hb22_r := hb22;refine wh 0 rfl hS (fun _ hw' => Ev.loadA rfl rfl (hb22_r.keep0 hw') rfl) (wh 1 rfl hS (fun _ _ => Ev.move rfl) (wh 4 rfl hS (fun _ _ => Ev.move rfl) ?_));refine WH.oneCall 2 rfl (by kernel_rfl) hasF172 rfl rfl (r3Int_spec ((den : Nat) : Int) _ (by omega)) fun v w38 h' => ?_;obtain ⟨⟨rie, rfl, hNie⟩, hC⟩ := h';have hch := hch.ta hC;have hNv := hNv.keep0 hC;have hS := hS.trans hC;refine ⟨hS, ?_⟩;refine wh 3 rfl hS (fun _ _ => Ev.build (vs := _) (cs := [_, _, _, _, _, _]) rfl rfl) ?_;refine WH.oneCall 5 rfl (by kernel_rfl) hasF171 rfl rfl (r11Quot_spec _ _ _ _ _ _ _ _ mode _ hNv hNie (by omega) (by omega) (by omega) (by omega)) fun v w39 h' => ?_;obtain ⟨⟨bits, e, rfl, hQ⟩, hC⟩ := h';rw [val_wd, val_wd] at hQ;have hch := hch.ta hC;have hS := hS.trans hC;refine ⟨hS, ?_⟩;refine wh 6 rfl hS (fun _ _ => Ev.extract rfl rfl) (wh 7 rfl hS (fun _ _ => Ev.extract rfl rfl) (wh 8 rfl hS (fun _ _ => Ev.assign rfl) (wh 9 rfl hS (fun _ _ => Ev.assign rfl) ?_)));refine WH.done (by kernel_rfl) (kr59 _ _ _ ?_);refine kh58 ?_;refine zr (zr2 rfl rfl rfl ?_);exact ⟨⟨_, _, rfl, .inr ⟨h0, hQ⟩⟩, hch⟩
   ·refine WHat.allocC (l := [.bool false, .slice none 0 0, .int .i64 0]) 7 rfl hS rfl rfl fun b20 wm20 hb20 hcm20 hge20 hS1 => ?_;have hgeS20 := Nat.le_trans hS.size hge20;have hS := hS1;have hgehch20 := Nat.le_trans hch.size hge20;have hch := hch.ta hcm20;have hNx := hNx.keep0 hcm20;have hNu := hNu.keep0 hcm20;have hneb1820 := zdd hb18.lt hge20;have hb18 := hb18.k0 hcm20;refine WH.oneCall 2 rfl (by kernel_rfl) hasF172 rfl rfl (r3Int_spec ((den : Nat) : Int) _ (by omega)) fun v w40 h' => ?_;obtain ⟨⟨rid, rfl, hNid⟩, hC⟩ := h';have hch := hch.ta hC;have hb18 := hb18.k0 hC;have hb20 := hb20.k0 hC;have hNx := hNx.keep0 hC;have hNu := hNu.keep0 hC;have hS := hS.trans hC;refine ⟨hS, ?_⟩;refine WH.oneCall 3 rfl (by kernel_rfl) hasF164 rfl rfl (r3Mul_spec _ _ _ _ _ _ _ _ _ hNx hNid (by omega) (by omega) (by omega) (by omega)) fun v w41 h' => ?_;obtain ⟨hDt, hC⟩ := h';rw [val_wd, val_wd, formD_sumD hX, formD_self okden, show both2 mulD (some (sumD (fvI x))) (some (intD (den : Int))) = mulD (sumD (fvI x)) (intD (den : Int)) from rfl, mulD_int hX (by omega) (by omega) hXD] at hDt;obtain ⟨rt, dt, hdt, rfl, hNt⟩ := hDt.resolve_right (fun q => by cases q.1);cases hdt;have hch := hch.ta hC;have hb18 := hb18.k0 hC;have hb20 := hb20.k0 hC;have hNu := hNu.keep0 hC;have hS := hS.trans hC;refine ⟨hS, ?_⟩;refine wh 4 rfl hS (fun _ _ => Ev.move rfl) (wh 5 rfl hS (fun _ _ => Ev.extract rfl rfl) (wh 6 rfl hS (fun _ _ => Ev.extract rfl rfl) ?_));refine WH.storeBN 8 rfl (by kernel_rfl) hS hgeS20 rfl rfl rfl ao hb20 (by simp) rfl fun ws33 hb20_ hcs33 hS => ?_;(try simp only [Sx.splice, qt] at hb20_);have hch := hch.s1 hcs33;have hb18 := hb18.kq hcs33;have hNu := hNu.keepBK hb20 hcs33 an;have hNt := hNt.keepBK hb20 hcs33 an;have hb20 := hb20_;refine wh 9 rfl hS (fun _ _ => Ev.assign rfl) ?_;refine WH.done (by kernel_rfl) (kr41 _ _ _ ?_);refine kh40 (Sr fun _ kh60 => zg hb20 rfl (zg hb18 rfl ?_));refine WL.call hasF165 rfl rfl (r3Add_spec _ _ _ _ _ _ _ _ _ hNt hNu (by omega) (by omega) (by omega) (by omega)) fun v w42 h' => ?_
    obtain ⟨hDv, hC⟩ := h';rw [val_wd, val_wd, formD_sumD hXD, formD_sumD hFM, show both2 addD (some (sumD (fvI x * (den : Int)))) (some (sumD ((fvI y + -fvI x) * (num : Int)))) = addD (sumD (fvI x * (den : Int))) (sumD ((fvI y + -fvI x) * (num : Int))) from rfl, addD_sum hXD hFM (by rw [hsum]; exact hV), hsum] at hDv;obtain ⟨rv, dv, hdv, rfl, hNv⟩ := hDv.resolve_right (fun q => by cases q.1);cases hdv;obtain ⟨⟨av, cv, rfl, hcapv, hrv⟩, hWv, hlv⟩ := id hNv;have hch := hch.ta hC;refine zm rfl (zx rfl rfl (zx rfl rfl ?_));refine zAh rfl rfl hch fun b22 wm22 hb22 hcm22 hge22 hgehch22 hch => ?_;have hNv := hNv.keep0 hcm22;refine zss rfl rfl ao hb22 rfl fun ws34 hb22_ hcs34 => ?_;(try simp only [Sx.splice, qt] at hb22_);have hch := hch.s1 hcs34;have hNv := hNv.keepBK hb22 hcs34 an;have hb22 := hb22_;refine za rfl (zz (kh60 (zc fun _ kh62 => Sr fun _ kh63 => zf rfl (zl hb22 rfl rfl (zn rfl (zq rfl rfl (zz (kh63 ?_))))))));refine zy rfl ?_ ?_<;>intro hc6<;>try simp only [qs] at hc6
    ·have h0 : (sumD (lineV x y num den)).m = 0 := wd_eq_nil.1 (List.length_eq_zero_iff.1 (by omega));refine Sr fun _ kh65 => zm rfl (zm rfl ?_);refine WL.buildSlice (m := 2) (cs := [f64v (x), f64v (y)]) (by decide) (by decide) rfl (by kernel_rfl) rfl fun b66 w66 hn66 => ?_
     have hcm66 := hn66.chg;have hge66 := hn66.ge;have hb66 : FB w66 b66 _ [x, y] := hn66.at_;have hgehch66 := Nat.le_trans hch.size hge66;have hch := hch.ta hcm66;refine WL.call hasF221 rfl rfl (r6Of_spec _ [x, y] _ ((NF.of_row hb66.row (by intro z hz; simp only [List.mem_cons, List.not_mem_nil, or_false] at hz; rcases hz with rfl | rfl <;> assumption) (by simp) rfl (by simp))) (by simp)) fun v w43 h' => ?_;obtain ⟨rfl, hC⟩ := h';unfold SP.cells;have hch := hch.ta hC;refine zm rfl ?_;refine WL.call hasF168 rfl rfl (r6Nought_spec (cntP [x, y]) mode _ ((cnt_le [x, y]).mono (by simp))) fun v w44 h' => ?_;obtain ⟨rfl, hC⟩ := h';have hch := hch.ta hC;refine za rfl (za rfl (zz (kh65 ?_)));refine zr (zr2 rfl rfl rfl ?_);exact ⟨⟨_, _, rfl, .inl ⟨h0, rfl, rfl⟩⟩, hch⟩
    ·have h0 : (sumD (lineV x y num den)).m ≠ 0 := fun q => by rw [q, wd_zero] at hc6; exact hc6 rfl
     refine zkk ?_;refine kh62 (zc fun _ kh67 => ?_);refine CW.regionHC 10 rfl hmix fun kR68 kr68 hS hdr => ?_;have hch := hch.ta hdr;have hb22 := hb22.k0 hdr;have hNv := hNv.keep0 hdr;have hb22_r := hb22;refine wh 0 rfl hS (fun _ hw' => Ev.loadA rfl rfl (hb22_r.keep0 hw') rfl) (wh 1 rfl hS (fun _ _ => Ev.move rfl) (wh 4 rfl hS (fun _ _ => Ev.move rfl) ?_));refine WH.oneCall 2 rfl (by kernel_rfl) hasF172 rfl rfl (r3Int_spec ((den : Nat) : Int) _ (by omega)) fun v w45 h' => ?_;obtain ⟨⟨rie, rfl, hNie⟩, hC⟩ := h';have hch := hch.ta hC;have hNv := hNv.keep0 hC;have hS := hS.trans hC;refine ⟨hS, ?_⟩;refine wh 3 rfl hS (fun _ _ => Ev.build (vs := _) (cs := [_, _, _, _, _, _]) rfl rfl) ?_;refine WH.oneCall 5 rfl (by kernel_rfl) hasF171 rfl rfl (r11Quot_spec _ _ _ _ _ _ _ _ mode _ hNv hNie (by omega) (by omega) (by omega) (by omega)) fun v w46 h' => ?_;obtain ⟨⟨bits, e, rfl, hQ⟩, hC⟩ := h';rw [val_wd, val_wd] at hQ;have hch := hch.ta hC;have hS := hS.trans hC;refine ⟨hS, ?_⟩;refine wh 6 rfl hS (fun _ _ => Ev.extract rfl rfl) (wh 7 rfl hS (fun _ _ => Ev.extract rfl rfl) (wh 8 rfl hS (fun _ _ => Ev.assign rfl) (wh 9 rfl hS (fun _ _ => Ev.assign rfl) ?_)));refine WH.done (by kernel_rfl) (kr68 _ _ _ ?_);refine kh67 ?_;refine zr (zr2 rfl rfl rfl ?_);exact ⟨⟨_, _, rfl, .inr ⟨h0, hQ⟩⟩, hch⟩
 ·refine WHat.allocC (l := [.bool false, .slice none 0 0, .int .i64 0]) 7 rfl hS rfl rfl fun b18 wm18 hb18 hcm18 hge18 hS1 => ?_;have hgeS18 := Nat.le_trans hS.size hge18;have hS := hS1;have hgehch18 := Nat.le_trans hch.size hge18;have hch := hch.ta hcm18;have hNx := hNx.keep0 hcm18;have hNf := hNf.keep0 hcm18;have hneb1218 := zdd hb12.lt hge18;have hb12 := hb12.k0 hcm18;refine WH.oneCall 2 rfl (by kernel_rfl) hasF172 rfl rfl (r3Int_spec ((num : Nat) : Int) _ (by omega)) fun v w47 h' => ?_;obtain ⟨⟨rim, rfl, hNim⟩, hC⟩ := h';have hch := hch.ta hC;have hb12 := hb12.k0 hC;have hb18 := hb18.k0 hC;have hNx := hNx.keep0 hC;have hNf := hNf.keep0 hC;have hS := hS.trans hC;refine ⟨hS, ?_⟩;refine WH.oneCall 3 rfl (by kernel_rfl) hasF164 rfl rfl (r3Mul_spec _ _ _ _ _ _ _ _ _ hNf hNim (by omega) (by omega) (by omega) (by omega)) fun v w48 h' => ?_;obtain ⟨hDu, hC⟩ := h';rw [val_wd, val_wd, formD_sumD hF, formD_self oknum, show both2 mulD (some (sumD (fvI y + -fvI x))) (some (intD (num : Int))) = mulD (sumD (fvI y + -fvI x)) (intD (num : Int)) from rfl, mulD_int hF (by omega) (by omega) hFM] at hDu;obtain ⟨ru, du, hdu, rfl, hNu⟩ := hDu.resolve_right (fun q => by cases q.1);cases hdu;have hch := hch.ta hC;have hb12 := hb12.k0 hC;have hb18 := hb18.k0 hC;have hNx := hNx.keep0 hC;have hS := hS.trans hC;refine ⟨hS, ?_⟩;refine wh 4 rfl hS (fun _ _ => Ev.move rfl) (wh 5 rfl hS (fun _ _ => Ev.extract rfl rfl) (wh 6 rfl hS (fun _ _ => Ev.extract rfl rfl) ?_));refine WH.storeBN 8 rfl (by kernel_rfl) hS hgeS18 rfl rfl rfl ao hb18 (by simp) rfl fun ws35 hb18_ hcs35 hS => ?_;(try simp only [Sx.splice, qt] at hb18_);have hch := hch.s1 hcs35;have hb12 := hb12.kq hcs35;have hNx := hNx.keepBK hb18 hcs35 an;have hNu := hNu.keepBK hb18 hcs35 an;have hb18 := hb18_;refine wh 9 rfl hS (fun _ _ => Ev.assign rfl) ?_;refine WH.done (by kernel_rfl) (kr10 _ _ _ ?_);refine kh9 (zc fun _ kh69 => ?_);refine CW.regionHC 10 rfl hmix fun kR70 kr70 hS hdr => ?_;have hch := hch.ta hdr;have hb12 := hb12.k0 hdr;have hb18 := hb18.k0 hdr;have hNx := hNx.keep0 hdr;have hNu := hNu.keep0 hdr;have hb12_r := hb12;refine wh 0 rfl hS (fun _ hw' => Ev.loadA rfl rfl (hb12_r.keep0 hw') rfl) (wh 1 rfl hS (fun _ _ => Ev.move rfl) ?_);refine WH.all2 2 7 (by kernel_rfl) ?_ ?_
  ·refine WHat.call 2 rfl hasF172 rfl rfl (r3Int_spec ((den : Nat) : Int) _ (by omega)) fun v w49 h' => ?_;obtain ⟨⟨rid, rfl, hNid⟩, hC⟩ := h';have hch := hch.ta hC;have hb18 := hb18.k0 hC;have hNx := hNx.keep0 hC;have hNu := hNu.keep0 hC;have hS := hS.trans hC;refine ⟨hS, ?_⟩;refine WH.all2 3 7 (by kernel_rfl) ?_ ?_
   ·refine WHat.call 3 rfl hasF164 rfl rfl (r3Mul_spec _ _ _ _ _ _ _ _ _ hNx hNid (by omega) (by omega) (by omega) (by omega)) fun v w50 h' => ?_;obtain ⟨hDt, hC⟩ := h';rw [val_wd, val_wd, formD_sumD hX, formD_self okden, show both2 mulD (some (sumD (fvI x))) (some (intD (den : Int))) = mulD (sumD (fvI x)) (intD (den : Int)) from rfl, mulD_int hX (by omega) (by omega) hXD] at hDt;obtain ⟨rt, dt, hdt, rfl, hNt⟩ := hDt.resolve_right (fun q => by cases q.1);cases hdt;have hch := hch.ta hC;have hb18 := hb18.k0 hC;have hNu := hNu.keep0 hC;have hS := hS.trans hC;refine ⟨hS, ?_⟩;refine wh 4 rfl hS (fun _ _ => Ev.move rfl) (wh 5 rfl hS (fun _ _ => Ev.extract rfl rfl) (wh 6 rfl hS (fun _ _ => Ev.extract rfl rfl) ?_));refine WH.allocC (l := [.bool false, .slice none 0 0, .int .i64 0]) 7 rfl (by kernel_rfl) hS rfl rfl fun b20 wm20 hb20 hcm20 hge20 hS1 => ?_;have hgeS20 := Nat.le_trans hS.size hge20;have hS := hS1;have hgehch20 := Nat.le_trans hch.size hge20;have hch := hch.ta hcm20;have hNu := hNu.keep0 hcm20;have hNt := hNt.keep0 hcm20;have hneb1820 := zdd hb18.lt hge20;have hb18 := hb18.k0 hcm20;refine WH.storeBN 8 rfl (by kernel_rfl) hS hgeS20 rfl rfl rfl ao hb20 (by simp) rfl fun ws36 hb20_ hcs36 hS => ?_;(try simp only [Sx.splice, qt] at hb20_);have hch := hch.s1 hcs36;have hb18 := hb18.kq hcs36;have hNu := hNu.keepBK hb20 hcs36 an;have hNt := hNt.keepBK hb20 hcs36 an;have hb20 := hb20_;refine wh 9 rfl hS (fun _ _ => Ev.assign rfl) ?_;refine WH.done (by kernel_rfl) (kr70 _ _ _ ?_);refine kh69 (Sr fun _ kh71 => zg hb20 rfl (zg hb18 rfl ?_));refine WL.call hasF165 rfl rfl (r3Add_spec _ _ _ _ _ _ _ _ _ hNt hNu (by omega) (by omega) (by omega) (by omega)) fun v w51 h' => ?_;obtain ⟨hDv, hC⟩ := h';rw [val_wd, val_wd, formD_sumD hXD, formD_sumD hFM, show both2 addD (some (sumD (fvI x * (den : Int)))) (some (sumD ((fvI y + -fvI x) * (num : Int)))) = addD (sumD (fvI x * (den : Int))) (sumD ((fvI y + -fvI x) * (num : Int))) from rfl, addD_sum hXD hFM (by rw [hsum]; exact hV), hsum] at hDv;obtain ⟨rv, dv, hdv, rfl, hNv⟩ := hDv.resolve_right (fun q => by cases q.1);cases hdv;obtain ⟨⟨av, cv, rfl, hcapv, hrv⟩, hWv, hlv⟩ := id hNv
    have hch := hch.ta hC;refine zm rfl (zx rfl rfl (zx rfl rfl ?_));refine zAh rfl rfl hch fun b22 wm22 hb22 hcm22 hge22 hgehch22 hch => ?_;have hNv := hNv.keep0 hcm22;refine zss rfl rfl ao hb22 rfl fun ws37 hb22_ hcs37 => ?_;(try simp only [Sx.splice, qt] at hb22_);have hch := hch.s1 hcs37;have hNv := hNv.keepBK hb22 hcs37 an;have hb22 := hb22_;refine za rfl (zz (kh71 (zc fun _ kh73 => Sr fun _ kh74 => zf rfl (zl hb22 rfl rfl (zn rfl (zq rfl rfl (zz (kh74 ?_))))))));refine zy rfl ?_ ?_<;>intro hc7<;>try simp only [qs] at hc7
    ·have h0 : (sumD (lineV x y num den)).m = 0 := wd_eq_nil.1 (List.length_eq_zero_iff.1 (by omega));refine Sr fun _ kh76 => zm rfl (zm rfl ?_);refine WL.buildSlice (m := 2) (cs := [f64v (x), f64v (y)]) (by decide) (by decide) rfl (by kernel_rfl) rfl fun b66 w66 hn66 => ?_
     have hcm66 := hn66.chg;have hge66 := hn66.ge;have hb66 : FB w66 b66 _ [x, y] := hn66.at_;have hgehch66 := Nat.le_trans hch.size hge66;have hch := hch.ta hcm66;refine WL.call hasF221 rfl rfl (r6Of_spec _ [x, y] _ ((NF.of_row hb66.row (by intro z hz; simp only [List.mem_cons, List.not_mem_nil, or_false] at hz; rcases hz with rfl | rfl <;> assumption) (by simp) rfl (by simp))) (by simp)) fun v w52 h' => ?_;obtain ⟨rfl, hC⟩ := h';unfold SP.cells;have hch := hch.ta hC;refine zm rfl ?_;refine WL.call hasF168 rfl rfl (r6Nought_spec (cntP [x, y]) mode _ ((cnt_le [x, y]).mono (by simp))) fun v w53 h' => ?_;obtain ⟨rfl, hC⟩ := h';have hch := hch.ta hC;refine za rfl (za rfl (zz (kh76 ?_)));refine zr (zr2 rfl rfl rfl ?_);exact ⟨⟨_, _, rfl, .inl ⟨h0, rfl, rfl⟩⟩, hch⟩
    ·have h0 : (sumD (lineV x y num den)).m ≠ 0 := fun q => by rw [q, wd_zero] at hc7; exact hc7 rfl
     refine zkk ?_;refine kh73 (zc fun _ kh78 => ?_);refine CW.regionHC 10 rfl hmix fun kR79 kr79 hS hdr => ?_;have hch := hch.ta hdr;have hb22 := hb22.k0 hdr;have hNv := hNv.keep0 hdr;have hb22_r := hb22;refine wh 0 rfl hS (fun _ hw' => Ev.loadA rfl rfl (hb22_r.keep0 hw') rfl) (wh 1 rfl hS (fun _ _ => Ev.move rfl) (wh 4 rfl hS (fun _ _ => Ev.move rfl) ?_));refine WH.oneCall 2 rfl (by kernel_rfl) hasF172 rfl rfl (r3Int_spec ((den : Nat) : Int) _ (by omega)) fun v w54 h' => ?_;obtain ⟨⟨rie, rfl, hNie⟩, hC⟩ := h';have hch := hch.ta hC;have hNv := hNv.keep0 hC;have hS := hS.trans hC;refine ⟨hS, ?_⟩;refine wh 3 rfl hS (fun _ _ => Ev.build (vs := _) (cs := [_, _, _, _, _, _]) rfl rfl) ?_;refine WH.oneCall 5 rfl (by kernel_rfl) hasF171 rfl rfl (r11Quot_spec _ _ _ _ _ _ _ _ mode _ hNv hNie (by omega) (by omega) (by omega) (by omega)) fun v w55 h' => ?_;obtain ⟨⟨bits, e, rfl, hQ⟩, hC⟩ := h';rw [val_wd, val_wd] at hQ;have hch := hch.ta hC;have hS := hS.trans hC;refine ⟨hS, ?_⟩;refine wh 6 rfl hS (fun _ _ => Ev.extract rfl rfl) (wh 7 rfl hS (fun _ _ => Ev.extract rfl rfl) (wh 8 rfl hS (fun _ _ => Ev.assign rfl) (wh 9 rfl hS (fun _ _ => Ev.assign rfl) ?_)));refine WH.done (by kernel_rfl) (kr79 _ _ _ ?_);refine kh78 ?_;refine zr (zr2 rfl rfl rfl ?_);exact ⟨⟨_, _, rfl, .inr ⟨h0, hQ⟩⟩, hch⟩
   ·refine WHat.allocC (l := [.bool false, .slice none 0 0, .int .i64 0]) 7 rfl hS rfl rfl fun b20 wm20 hb20 hcm20 hge20 hS1 => ?_;have hgeS20 := Nat.le_trans hS.size hge20;have hS := hS1;have hgehch20 := Nat.le_trans hch.size hge20;have hch := hch.ta hcm20;have hNx := hNx.keep0 hcm20;have hNu := hNu.keep0 hcm20;have hNid := hNid.keep0 hcm20;have hneb1820 := zdd hb18.lt hge20;have hb18 := hb18.k0 hcm20;refine WH.oneCall 3 rfl (by kernel_rfl) hasF164 rfl rfl (r3Mul_spec _ _ _ _ _ _ _ _ _ hNx hNid (by omega) (by omega) (by omega) (by omega)) fun v w56 h' => ?_;obtain ⟨hDt, hC⟩ := h';rw [val_wd, val_wd, formD_sumD hX, formD_self okden, show both2 mulD (some (sumD (fvI x))) (some (intD (den : Int))) = mulD (sumD (fvI x)) (intD (den : Int)) from rfl, mulD_int hX (by omega) (by omega) hXD] at hDt;obtain ⟨rt, dt, hdt, rfl, hNt⟩ := hDt.resolve_right (fun q => by cases q.1);cases hdt;have hch := hch.ta hC;have hb18 := hb18.k0 hC;have hb20 := hb20.k0 hC;have hNu := hNu.keep0 hC;have hS := hS.trans hC;refine ⟨hS, ?_⟩;refine wh 4 rfl hS (fun _ _ => Ev.move rfl) (wh 5 rfl hS (fun _ _ => Ev.extract rfl rfl) (wh 6 rfl hS (fun _ _ => Ev.extract rfl rfl) ?_));refine WH.storeBN 8 rfl (by kernel_rfl) hS hgeS20 rfl rfl rfl ao hb20 (by simp) rfl fun ws38 hb20_ hcs38 hS => ?_;(try simp only [Sx.splice, qt] at hb20_);have hch := hch.s1 hcs38;have hb18 := hb18.kq hcs38;have hNu := hNu.keepBK hb20 hcs38 an;have hNt := hNt.keepBK hb20 hcs38 an;have hb20 := hb20_;refine wh 9 rfl hS (fun _ _ => Ev.assign rfl) ?_;refine WH.done (by kernel_rfl) (kr70 _ _ _ ?_);refine kh69 (Sr fun _ kh80 => zg hb20 rfl (zg hb18 rfl ?_));refine WL.call hasF165 rfl rfl (r3Add_spec _ _ _ _ _ _ _ _ _ hNt hNu (by omega) (by omega) (by omega) (by omega)) fun v w57 h' => ?_;obtain ⟨hDv, hC⟩ := h';rw [val_wd, val_wd, formD_sumD hXD, formD_sumD hFM, show both2 addD (some (sumD (fvI x * (den : Int)))) (some (sumD ((fvI y + -fvI x) * (num : Int)))) = addD (sumD (fvI x * (den : Int))) (sumD ((fvI y + -fvI x) * (num : Int))) from rfl, addD_sum hXD hFM (by rw [hsum]; exact hV), hsum] at hDv;obtain ⟨rv, dv, hdv, rfl, hNv⟩ := hDv.resolve_right (fun q => by cases q.1);cases hdv;obtain ⟨⟨av, cv, rfl, hcapv, hrv⟩, hWv, hlv⟩ := id hNv
    have hch := hch.ta hC;refine zm rfl (zx rfl rfl (zx rfl rfl ?_));refine zAh rfl rfl hch fun b22 wm22 hb22 hcm22 hge22 hgehch22 hch => ?_;have hNv := hNv.keep0 hcm22;refine zss rfl rfl ao hb22 rfl fun ws39 hb22_ hcs39 => ?_;(try simp only [Sx.splice, qt] at hb22_);have hch := hch.s1 hcs39;have hNv := hNv.keepBK hb22 hcs39 an;have hb22 := hb22_;refine za rfl (zz (kh80 (zc fun _ kh82 => Sr fun _ kh83 => zf rfl (zl hb22 rfl rfl (zn rfl (zq rfl rfl (zz (kh83 ?_))))))));refine zy rfl ?_ ?_<;>intro hc8<;>try simp only [qs] at hc8
    ·have h0 : (sumD (lineV x y num den)).m = 0 := wd_eq_nil.1 (List.length_eq_zero_iff.1 (by omega));refine Sr fun _ kh85 => zm rfl (zm rfl ?_);refine WL.buildSlice (m := 2) (cs := [f64v (x), f64v (y)]) (by decide) (by decide) rfl (by kernel_rfl) rfl fun b66 w66 hn66 => ?_
     have hcm66 := hn66.chg;have hge66 := hn66.ge;have hb66 : FB w66 b66 _ [x, y] := hn66.at_;have hgehch66 := Nat.le_trans hch.size hge66;have hch := hch.ta hcm66;refine WL.call hasF221 rfl rfl (r6Of_spec _ [x, y] _ ((NF.of_row hb66.row (by intro z hz; simp only [List.mem_cons, List.not_mem_nil, or_false] at hz; rcases hz with rfl | rfl <;> assumption) (by simp) rfl (by simp))) (by simp)) fun v w58 h' => ?_;obtain ⟨rfl, hC⟩ := h';unfold SP.cells;have hch := hch.ta hC;refine zm rfl ?_;refine WL.call hasF168 rfl rfl (r6Nought_spec (cntP [x, y]) mode _ ((cnt_le [x, y]).mono (by simp))) fun v w59 h' => ?_;obtain ⟨rfl, hC⟩ := h';have hch := hch.ta hC;refine za rfl (za rfl (zz (kh85 ?_)));refine zr (zr2 rfl rfl rfl ?_);exact ⟨⟨_, _, rfl, .inl ⟨h0, rfl, rfl⟩⟩, hch⟩
    ·have h0 : (sumD (lineV x y num den)).m ≠ 0 := fun q => by rw [q, wd_zero] at hc8; exact hc8 rfl
     refine zkk ?_;refine kh82 (zc fun _ kh87 => ?_);refine CW.regionHC 10 rfl hmix fun kR88 kr88 hS hdr => ?_;have hch := hch.ta hdr;have hb22 := hb22.k0 hdr;have hNv := hNv.keep0 hdr;have hb22_r := hb22;refine wh 0 rfl hS (fun _ hw' => Ev.loadA rfl rfl (hb22_r.keep0 hw') rfl) (wh 1 rfl hS (fun _ _ => Ev.move rfl) (wh 4 rfl hS (fun _ _ => Ev.move rfl) ?_));refine WH.oneCall 2 rfl (by kernel_rfl) hasF172 rfl rfl (r3Int_spec ((den : Nat) : Int) _ (by omega)) fun v w60 h' => ?_;obtain ⟨⟨rie, rfl, hNie⟩, hC⟩ := h';have hch := hch.ta hC;have hNv := hNv.keep0 hC;have hS := hS.trans hC;refine ⟨hS, ?_⟩;refine wh 3 rfl hS (fun _ _ => Ev.build (vs := _) (cs := [_, _, _, _, _, _]) rfl rfl) ?_;refine WH.oneCall 5 rfl (by kernel_rfl) hasF171 rfl rfl (r11Quot_spec _ _ _ _ _ _ _ _ mode _ hNv hNie (by omega) (by omega) (by omega) (by omega)) fun v w61 h' => ?_;obtain ⟨⟨bits, e, rfl, hQ⟩, hC⟩ := h';rw [val_wd, val_wd] at hQ;have hch := hch.ta hC;have hS := hS.trans hC;refine ⟨hS, ?_⟩;refine wh 6 rfl hS (fun _ _ => Ev.extract rfl rfl) (wh 7 rfl hS (fun _ _ => Ev.extract rfl rfl) (wh 8 rfl hS (fun _ _ => Ev.assign rfl) (wh 9 rfl hS (fun _ _ => Ev.assign rfl) ?_)));refine WH.done (by kernel_rfl) (kr88 _ _ _ ?_);refine kh87 ?_;refine zr (zr2 rfl rfl rfl ?_);exact ⟨⟨_, _, rfl, .inr ⟨h0, hQ⟩⟩, hch⟩
  ·refine WHat.allocC (l := [.bool false, .slice none 0 0, .int .i64 0]) 7 rfl hS rfl rfl fun b20 wm20 hb20 hcm20 hge20 hS1 => ?_;have hgeS20 := Nat.le_trans hS.size hge20;have hS := hS1;have hgehch20 := Nat.le_trans hch.size hge20;have hch := hch.ta hcm20;have hNx := hNx.keep0 hcm20;have hNu := hNu.keep0 hcm20;have hneb1820 := zdd hb18.lt hge20;have hb18 := hb18.k0 hcm20;refine WH.oneCall 2 rfl (by kernel_rfl) hasF172 rfl rfl (r3Int_spec ((den : Nat) : Int) _ (by omega)) fun v w62 h' => ?_;obtain ⟨⟨rid, rfl, hNid⟩, hC⟩ := h';have hch := hch.ta hC;have hb18 := hb18.k0 hC;have hb20 := hb20.k0 hC;have hNx := hNx.keep0 hC;have hNu := hNu.keep0 hC;have hS := hS.trans hC;refine ⟨hS, ?_⟩;refine WH.oneCall 3 rfl (by kernel_rfl) hasF164 rfl rfl (r3Mul_spec _ _ _ _ _ _ _ _ _ hNx hNid (by omega) (by omega) (by omega) (by omega)) fun v w63 h' => ?_;obtain ⟨hDt, hC⟩ := h';rw [val_wd, val_wd, formD_sumD hX, formD_self okden, show both2 mulD (some (sumD (fvI x))) (some (intD (den : Int))) = mulD (sumD (fvI x)) (intD (den : Int)) from rfl, mulD_int hX (by omega) (by omega) hXD] at hDt;obtain ⟨rt, dt, hdt, rfl, hNt⟩ := hDt.resolve_right (fun q => by cases q.1);cases hdt;have hch := hch.ta hC;have hb18 := hb18.k0 hC;have hb20 := hb20.k0 hC;have hNu := hNu.keep0 hC;have hS := hS.trans hC;refine ⟨hS, ?_⟩;refine wh 4 rfl hS (fun _ _ => Ev.move rfl) (wh 5 rfl hS (fun _ _ => Ev.extract rfl rfl) (wh 6 rfl hS (fun _ _ => Ev.extract rfl rfl) ?_));refine WH.storeBN 8 rfl (by kernel_rfl) hS hgeS20 rfl rfl rfl ao hb20 (by simp) rfl fun ws40 hb20_ hcs40 hS => ?_;(try simp only [Sx.splice, qt] at hb20_);have hch := hch.s1 hcs40;have hb18 := hb18.kq hcs40;have hNu := hNu.keepBK hb20 hcs40 an;have hNt := hNt.keepBK hb20 hcs40 an;have hb20 := hb20_;refine wh 9 rfl hS (fun _ _ => Ev.assign rfl) ?_;refine WH.done (by kernel_rfl) (kr70 _ _ _ ?_);refine kh69 (Sr fun _ kh89 => zg hb20 rfl (zg hb18 rfl ?_));refine WL.call hasF165 rfl rfl (r3Add_spec _ _ _ _ _ _ _ _ _ hNt hNu (by omega) (by omega) (by omega) (by omega)) fun v w64 h' => ?_
   obtain ⟨hDv, hC⟩ := h';rw [val_wd, val_wd, formD_sumD hXD, formD_sumD hFM, show both2 addD (some (sumD (fvI x * (den : Int)))) (some (sumD ((fvI y + -fvI x) * (num : Int)))) = addD (sumD (fvI x * (den : Int))) (sumD ((fvI y + -fvI x) * (num : Int))) from rfl, addD_sum hXD hFM (by rw [hsum]; exact hV), hsum] at hDv;obtain ⟨rv, dv, hdv, rfl, hNv⟩ := hDv.resolve_right (fun q => by cases q.1);cases hdv;obtain ⟨⟨av, cv, rfl, hcapv, hrv⟩, hWv, hlv⟩ := id hNv;have hch := hch.ta hC;refine zm rfl (zx rfl rfl (zx rfl rfl ?_));refine zAh rfl rfl hch fun b22 wm22 hb22 hcm22 hge22 hgehch22 hch => ?_;have hNv := hNv.keep0 hcm22;refine zss rfl rfl ao hb22 rfl fun ws41 hb22_ hcs41 => ?_;(try simp only [Sx.splice, qt] at hb22_);have hch := hch.s1 hcs41;have hNv := hNv.keepBK hb22 hcs41 an;have hb22 := hb22_;refine za rfl (zz (kh89 (zc fun _ kh91 => Sr fun _ kh92 => zf rfl (zl hb22 rfl rfl (zn rfl (zq rfl rfl (zz (kh92 ?_))))))));refine zy rfl ?_ ?_<;>intro hc9<;>try simp only [qs] at hc9
   ·have h0 : (sumD (lineV x y num den)).m = 0 := wd_eq_nil.1 (List.length_eq_zero_iff.1 (by omega));refine Sr fun _ kh94 => zm rfl (zm rfl ?_);refine WL.buildSlice (m := 2) (cs := [f64v (x), f64v (y)]) (by decide) (by decide) rfl (by kernel_rfl) rfl fun b66 w66 hn66 => ?_
    have hcm66 := hn66.chg;have hge66 := hn66.ge;have hb66 : FB w66 b66 _ [x, y] := hn66.at_;have hgehch66 := Nat.le_trans hch.size hge66;have hch := hch.ta hcm66;refine WL.call hasF221 rfl rfl (r6Of_spec _ [x, y] _ ((NF.of_row hb66.row (by intro z hz; simp only [List.mem_cons, List.not_mem_nil, or_false] at hz; rcases hz with rfl | rfl <;> assumption) (by simp) rfl (by simp))) (by simp)) fun v w65 h' => ?_;obtain ⟨rfl, hC⟩ := h';unfold SP.cells;have hch := hch.ta hC;refine zm rfl ?_;refine WL.call hasF168 rfl rfl (r6Nought_spec (cntP [x, y]) mode _ ((cnt_le [x, y]).mono (by simp))) fun v w66 h' => ?_;obtain ⟨rfl, hC⟩ := h';have hch := hch.ta hC;refine za rfl (za rfl (zz (kh94 ?_)));refine zr (zr2 rfl rfl rfl ?_);exact ⟨⟨_, _, rfl, .inl ⟨h0, rfl, rfl⟩⟩, hch⟩
   ·have h0 : (sumD (lineV x y num den)).m ≠ 0 := fun q => by rw [q, wd_zero] at hc9; exact hc9 rfl
    refine zkk ?_;refine kh91 (zc fun _ kh96 => ?_);refine CW.regionHC 10 rfl hmix fun kR97 kr97 hS hdr => ?_;have hch := hch.ta hdr;have hb22 := hb22.k0 hdr;have hNv := hNv.keep0 hdr;have hb22_r := hb22;refine wh 0 rfl hS (fun _ hw' => Ev.loadA rfl rfl (hb22_r.keep0 hw') rfl) (wh 1 rfl hS (fun _ _ => Ev.move rfl) (wh 4 rfl hS (fun _ _ => Ev.move rfl) ?_));refine WH.oneCall 2 rfl (by kernel_rfl) hasF172 rfl rfl (r3Int_spec ((den : Nat) : Int) _ (by omega)) fun v w67 h' => ?_;obtain ⟨⟨rie, rfl, hNie⟩, hC⟩ := h';have hch := hch.ta hC;have hNv := hNv.keep0 hC;have hS := hS.trans hC;refine ⟨hS, ?_⟩;refine wh 3 rfl hS (fun _ _ => Ev.build (vs := _) (cs := [_, _, _, _, _, _]) rfl rfl) ?_;refine WH.oneCall 5 rfl (by kernel_rfl) hasF171 rfl rfl (r11Quot_spec _ _ _ _ _ _ _ _ mode _ hNv hNie (by omega) (by omega) (by omega) (by omega)) fun v w68 h' => ?_;obtain ⟨⟨bits, e, rfl, hQ⟩, hC⟩ := h';rw [val_wd, val_wd] at hQ;have hch := hch.ta hC;have hS := hS.trans hC;refine ⟨hS, ?_⟩;refine wh 6 rfl hS (fun _ _ => Ev.extract rfl rfl) (wh 7 rfl hS (fun _ _ => Ev.extract rfl rfl) (wh 8 rfl hS (fun _ _ => Ev.assign rfl) (wh 9 rfl hS (fun _ _ => Ev.assign rfl) ?_)));refine WH.done (by kernel_rfl) (kr97 _ _ _ ?_);refine kh96 ?_;refine zr (zr2 rfl rfl rfl ?_);exact ⟨⟨_, _, rfl, .inr ⟨h0, hQ⟩⟩, hch⟩

end

/- Reference of layer 13: Sorted. No condition. -/
section
open Go Sx Wd Fl

structure KMg (A B l : List Nat) (w0 w2 : World) (g : Nat × Nat × Value × List Nat) (w : World) : Prop where
  hi : g.1 ≤ A.length
  hk : g.2.1 ≤ B.length
  len : g.2.2.2.length = g.1 + g.2.1
  hm : g.2.2.2 ++ mrg (A.drop g.1) (B.drop g.2.1) = mrg A B
  hg : GR w 30 f64v w2.heap.size [] g.2.2.1 g.2.2.2
  ch : Chg [] w0 w
  cr : Chg [] w2 w

theorem r13SortedStep (v : Value) (l : List Nat) (w : World) (hlm : l.length ≤ 1000000) (hv : NF w v l) (hn : Nums l)
    (ih : ∀ (v : Value) (l2 : List Nat) (w : World), l2.length < l.length → NF w v l2 → Nums l2 → Ret Tryz.prog 61 [v] w fun u w' => NF w' u (sortP l2) ∧ Chg [] w w') : Ret Tryz.prog 61 [v] w fun u w' => NF w' u (sortP l) ∧ Chg [] w w' := by
  have hv0 := hv
  obtain ⟨⟨al, cl, rfl, hcap, hrl⟩, hWl, hll⟩ := hv
  have hch : Chg [] w w := Chg.refl _ _
  refine Ret.enter Tryz.func61 rfl rfl ?_
  simp only [args0, Nat.zero_add, Nat.reduceAdd]
  refine Sq fun _ kh1 _ kr2 => ?_
  refine As rfl rfl ?_
  refine WL.nil (kr2 _ _ _ (kh1 _ _ _ ?_))
  refine CW.seq fun _ kh3 => ?_
  refine Sq fun _ kh4 _ kr5 => ?_
  refine Mv rfl rfl ?_
  refine WL.ev (Ev.len rfl) rfl ?_
  refine WL.ev (Ev.lss rfl rfl) rfl ?_
  refine WL.nil (kr5 _ _ _ (kh4 _ _ _ ?_))
  refine zy rfl (fun hc1 => ?_) fun hc1 => ?_
  ·
    (try simp only [qs] at hc1)
    have hsh : sortP l = l := sortP_short (by omega) hn
    refine Sq fun _ kh6 _ kr7 => ?_
    refine WL.emptySlice (f := f64v) (lo := w.heap.size) (X := []) hch.size (by simp) rfl fun v11 w11 hg11 hcm11 => ?_
    have hch := hch.ta hcm11
    refine Mv rfl rfl ?_
    refine WL.growR (f := f64v) (lo := w.heap.size) (X := []) (l := []) (news := l) (by rfl) (fun i => rfl) rfl rfl hg11 (by first | rfl | (simp; done) | (simp; omega) | omega) (hrl.keep0 hch) (by first | omega | exact hch.size | exact hcr.size | exact Nat.le_refl _) (by simp) (by simp only [List.length_append, List.length_cons, List.length_nil]; omega) (by simp only [List.length_append, List.length_cons, List.length_nil]; omega) rfl fun v13 w13 hg13 hcg13 => ?_
    have hch := GR.frame hg11 hcg13 hch (by first | omega | exact Nat.le_refl _)
    have hg11 := hg13
    rw [show ([] ++ l) = l from by simp] at hg11
    refine As rfl rfl ?_
    refine WL.nil (kr7 _ _ _ (kh6 _ _ _ ?_))
    refine zr ?_
    refine zr1 rfl rfl ?_
    exact ⟨by rw [hsh]; exact hg11.nf hWl hll, hch⟩
  ·
    (try simp only [qs] at hc1)
    have hbig : 2 ≤ l.length := by omega
    refine zkk ?_
    refine kh3 _ _ _ ?_
    refine Sq fun _ kh8 _ kr9 => ?_
    refine Mv rfl rfl ?_
    refine Mv rfl rfl ?_
    refine WL.ev (Ev.len rfl) rfl ?_
    first | refine WL.ev (Ev.quoIn rfl rfl (by omega) (by simp only [IntKind.max, IntKind.signed, IntKind.bits]; omega) (by omega)) rfl ?_ | refine WL.ev (Ev.quo rfl rfl (by omega)) rfl ?_
    refine WL.ev (Ev.sliceHn (((l).length / 2)) rfl rfl (by omega) (by omega)) rfl ?_
    refine WL.call hasF61 rfl rfl (ih _ (l.take (l.length / 2)) _ (by rw [List.length_take]; omega) ((hv0.keep0 hch).head (by omega)) (hn.take _)) fun v w1 h' => ?_
    obtain ⟨hNa, hC⟩ := h'
    have hla := sortP_length (l.take (l.length / 2))
    have hpa := sortP_perm (l.take (l.length / 2))
    have hna := (hn.take (l.length / 2)).perm hpa.symm
    generalize hA : sortP (l.take (l.length / 2)) = A at *
    rw [List.length_take] at hla
    obtain ⟨⟨aa, ca, rfl, hcapa, hra⟩, hWa, hlla⟩ := hNa
    have hwa := hch.size
    have hch := hch.ta hC
    refine As rfl rfl ?_
    refine WL.nil (kr9 _ _ _ (kh8 _ _ _ ?_))
    refine Sq fun _ kh10 _ kr11 => ?_
    refine Mv rfl rfl ?_
    refine Mv rfl rfl ?_
    refine WL.ev (Ev.len rfl) rfl ?_
    first | refine WL.ev (Ev.quoIn rfl rfl (by omega) (by simp only [IntKind.max, IntKind.signed, IntKind.bits]; omega) (by omega)) rfl ?_ | refine WL.ev (Ev.quo rfl rfl (by omega)) rfl ?_
    refine WL.ev (Ev.sliceLn (((l).length / 2)) rfl rfl (by omega) (by omega)) rfl ?_
    refine WL.call hasF61 rfl rfl (ih _ (l.drop (l.length / 2)) _ (by rw [List.length_drop]; omega) ((hv0.keep0 hch).tail_ (by omega)) (hn.drop _)) fun v w2 h' => ?_
    obtain ⟨hNb, hC⟩ := h'
    have hlb := sortP_length (l.drop (l.length / 2))
    have hpb := sortP_perm (l.drop (l.length / 2))
    have hnb := (hn.drop (l.length / 2)).perm hpb.symm
    generalize hB : sortP (l.drop (l.length / 2)) = B at *
    rw [List.length_drop] at hlb
    obtain ⟨⟨ab, cb, rfl, hcapb, hrb⟩, hWb, hllb⟩ := hNb
    have hch := hch.ta hC
    have hra := hra.keep0 hC
    refine As rfl rfl ?_
    refine WL.nil (kr11 _ _ _ (kh10 _ _ _ ?_))
    refine CW.seq fun _ kh12 => ?_
    have hcr : Chg [] w2 w2 := Chg.refl _ _
    have hw2 := hch.size
    have hmA : mrg A B = sortP l := by rw [← hA, ← hB]; exact mrg_sorted (by rw [List.take_append_drop]) hn
    refine zR fun _ kr13 => ?_
    refine As rfl rfl ?_
    refine WL.nil (kr13 _ _ _ (kh12 _ _ _ ?_))
    refine Sq fun _ kh14 _ kr15 => ?_
    refine As rfl rfl ?_
    refine WL.nil (kr15 _ _ _ (kh14 _ _ _ ?_))
    refine Sq fun _ kh16 _ kr17 => ?_
    refine As rfl rfl ?_
    refine WL.nil (kr17 _ _ _ (kh16 _ _ _ ?_))
    refine CW.seq fun _ kh18 => ?_
    refine CW.block ?_
    refine CW.loop (S := fun g : Nat × Nat × Value × List Nat => [(3, .slice aa A.length ca), (4, .slice ab B.length cb), (5, g.2.2.1), (6, .int .i64 (g.1 : Int)), (7, .int .i64 (g.2.1 : Int))]) (Inv := KMg A B l w w2) (mu := fun g => A.length + B.length - (g.1 + g.2.1)) ((0, 0, .slice none 0 0, [])) ?_ ?_ ?_
    ·
      exact ⟨Nat.zero_le _, Nat.zero_le _, rfl, rfl, GR.nil, hch, hcr⟩
    ·
      exact SLp
    ·
      rintro ⟨i, k, vo, o⟩ wr ⟨hi, hk, hlen, hm, hgo, hch, hcr⟩
      dsimp only at hi hk hlen hm hgo hch hcr
      dsimp only
      refine CW.seq fun _ kh19 => ?_
      refine CW.seqM 35 (decide (i < A.length ∨ k < B.length)) ?_ ?_
      ·
        refine zR fun _ kr20 => ?_
        refine Mv rfl rfl ?_
        refine Mv rfl rfl ?_
        refine WL.ev (Ev.len rfl) rfl ?_
        refine WL.ev (Ev.lss rfl rfl) rfl ?_
        refine Mv rfl rfl ?_
        refine zb (fun hg2 => ?_) fun hg2 => ?_
        ·
          (try simp only [qs] at hg2)
          refine WL.pass rfl rfl rfl rfl rfl ?_
          refine WL.pass rfl rfl rfl rfl rfl ?_
          refine WL.pass rfl rfl rfl rfl rfl ?_
          refine WL.pass rfl rfl rfl rfl rfl ?_
          refine WL.ev (Ev.pickT rfl rfl rfl) rfl ?_
          refine WL.nil (kr20 _ _ _ ?_)
          refine ⟨rfl, rfl, Subs.consB rfl ?_ ?_⟩
          ·
            first | (simp; omega) | (simp_all; done) | (refine decide_eq_decide.2 ?_; omega)
          ·
            exact SMg
        ·
          (try simp only [qs] at hg2)
          refine WL.want rfl rfl rfl rfl ?_
          refine Mv rfl rfl ?_
          refine WL.want rfl rfl rfl rfl ?_
          refine Mv rfl rfl ?_
          refine WL.want rfl rfl rfl rfl ?_
          refine WL.ev (Ev.len rfl) rfl ?_
          refine WL.want rfl rfl rfl rfl ?_
          refine WL.ev (Ev.lss rfl rfl) rfl ?_
          refine WL.ev (Ev.pickF rfl rfl rfl) rfl ?_
          refine WL.nil (kr20 _ _ _ ?_)
          refine ⟨rfl, rfl, Subs.consB rfl ?_ ?_⟩
          ·
            first | (simp; omega) | (simp_all; done) | (refine decide_eq_decide.2 ?_; omega)
          ·
            exact SMg
      ·
        refine zy rfl (fun hc3 => ?_) fun hc3 => ?_
        ·
          (try simp only [qs] at hc3)
          have hgo_ : i < A.length ∨ k < B.length := hc3
          refine zkk ?_
          refine kh19 _ _ _ ?_
          refine CW.block ?_
          refine CW.seqMD 57 (decide (k = B.length ∨ (i < A.length ∧ key (A.getD i 0) ≤ key (B.getD k 0)))) ?_ ?_
          ·
            refine CW.regionSC hmix (by kernel_rfl) fun kR21 kr21 hdr => ?_
            have hch := hch.ta hdr
            have hcr := hcr.ta hdr
            have hgo := hgo.keep0 hdr
            refine WS.ev (Ev.move rfl) rfl ?_
            refine WS.ev (Ev.move rfl) rfl ?_
            refine WS.ev (Ev.len rfl) rfl ?_
            refine WS.ev (Ev.eql rfl rfl) rfl ?_
            refine WS.ev (Ev.move rfl) rfl ?_
            refine WS.boolCase (fun hg4 => ?_) (fun hg4 => ?_)
            ·
              (try simp only [qs] at hg4)
              refine WS.pass rfl rfl rfl rfl rfl ?_
              refine WS.pass rfl rfl rfl rfl rfl ?_
              refine WS.pass rfl rfl rfl rfl rfl ?_
              refine WS.pass rfl rfl rfl rfl rfl ?_
              refine WS.pass rfl rfl rfl rfl rfl ?_
              refine WS.passU rfl rfl rfl rfl ?_
              refine WS.passU rfl rfl rfl rfl ?_
              refine WS.passU rfl rfl rfl rfl ?_
              refine WS.passU rfl rfl rfl rfl ?_
              refine WS.passU rfl rfl rfl rfl ?_
              refine WS.passU rfl rfl rfl rfl ?_
              refine WS.passU rfl rfl rfl rfl ?_
              refine WS.passU rfl rfl rfl rfl ?_
              refine WS.passU rfl rfl rfl rfl ?_
              refine WS.passU rfl rfl rfl rfl ?_
              refine WS.pass rfl rfl rfl rfl rfl ?_
              refine WS.ev (Ev.pickT rfl rfl rfl) rfl ?_
              refine WS.nil (kr21 _ _ ?_)
              refine ⟨rfl, rfl, Subs.consB rfl ?_ ?_⟩
              ·
                first | (simp; omega) | (simp_all; done) | (refine decide_eq_decide.2 ?_; omega)
              ·
                exact SMg
            ·
              (try simp only [qs] at hg4)
              have hkB : k < B.length := by have := hg4; omega
              refine WS.want rfl rfl rfl rfl ?_
              refine WS.ev (Ev.move rfl) rfl ?_
              refine WS.want rfl rfl rfl rfl ?_
              refine WS.ev (Ev.move rfl) rfl ?_
              refine WS.want rfl rfl rfl rfl ?_
              refine WS.ev (Ev.len rfl) rfl ?_
              refine WS.want rfl rfl rfl rfl ?_
              refine WS.ev (Ev.lss rfl rfl) rfl ?_
              refine WS.want rfl rfl rfl rfl ?_
              refine WS.ev (Ev.move rfl) rfl ?_
              refine WS.boolCase (fun hg5 => ?_) (fun hg5 => ?_)
              ·
                (try simp only [qs] at hg5)
                have hiA : i < A.length := by have := hg5; omega
                have hx := hna.getD hiA
                have hy := hnb.getD hkB
                refine WS.want rfl rfl rfl rfl ?_
                refine WS.ev (Ev.move rfl) rfl ?_
                refine WS.want rfl rfl rfl rfl ?_
                refine WS.ev (Ev.move rfl) rfl ?_
                refine WS.want rfl rfl rfl rfl ?_
                refine WS.ev (Ev.ixR (i) rfl rfl (hra.keep0 hcr) (by omega) (by omega) (by simp; omega)) rfl ?_
                refine WS.want rfl rfl rfl rfl ?_
                refine WS.ev (Ev.load rfl rfl ((hra.keep0 hcr).f64 (by first | omega | (simp; omega)))) rfl ?_
                refine WS.want rfl rfl rfl rfl ?_
                refine WS.ev (Ev.move rfl) rfl ?_
                refine WS.want rfl rfl rfl rfl ?_
                refine WS.ev (Ev.move rfl) rfl ?_
                refine WS.want rfl rfl rfl rfl ?_
                refine WS.ev (Ev.ixR (k) rfl rfl (hrb.keep0 hcr) (by omega) (by omega) (by simp; omega)) rfl ?_
                refine WS.want rfl rfl rfl rfl ?_
                refine WS.ev (Ev.load rfl rfl ((hrb.keep0 hcr).f64 (by first | omega | (simp; omega)))) rfl ?_
                refine WS.want rfl rfl rfl rfl ?_
                refine WS.call hasF136 rfl rfl (steelyardref01_Order_spec (A.getD i 0) (B.getD k 0) hx.1 hy.1 _) ?_
                refine WS.want rfl rfl rfl rfl ?_
                refine WS.ev (Ev.leq rfl rfl) rfl ?_
                rw [place_key hx.2, place_key hy.2, show decide (cmpI (key (A.getD i 0)) (key (B.getD k 0)) ≤ 0) = decide (key (A.getD i 0) ≤ key (B.getD k 0)) from decide_eq_decide.2 (cmp_le _ _)]
                refine WS.want rfl rfl rfl rfl ?_
                refine WS.ev (Ev.pickT rfl rfl rfl) rfl ?_
                refine WS.ev (Ev.pickF rfl rfl rfl) rfl ?_
                refine WS.nil (kr21 _ _ ?_)
                refine ⟨rfl, rfl, Subs.consB rfl ?_ ?_⟩
                ·
                  first | (simp; omega) | (simp_all; done) | (refine decide_eq_decide.2 ?_; omega)
                ·
                  exact SMg
              ·
                (try simp only [qs] at hg5)
                refine WS.pass rfl rfl rfl rfl rfl ?_
                refine WS.pass rfl rfl rfl rfl rfl ?_
                refine WS.pass rfl rfl rfl rfl rfl ?_
                refine WS.pass rfl rfl rfl rfl rfl ?_
                refine WS.pass rfl rfl rfl rfl rfl ?_
                refine WS.pass rfl rfl rfl rfl rfl ?_
                refine WS.pass rfl rfl rfl rfl rfl ?_
                refine WS.pass rfl rfl rfl rfl rfl ?_
                refine WS.pass rfl rfl rfl rfl rfl ?_
                refine WS.pass rfl rfl rfl rfl rfl ?_
                refine WS.want rfl rfl rfl rfl ?_
                refine WS.ev (Ev.pickF rfl rfl rfl) rfl ?_
                refine WS.ev (Ev.pickF rfl rfl rfl) rfl ?_
                refine WS.nil (kr21 _ _ ?_)
                refine ⟨rfl, rfl, Subs.consB rfl ?_ ?_⟩
                ·
                  first | (simp; omega) | (simp_all; done) | (refine decide_eq_decide.2 ?_; omega)
                ·
                  exact SMg
          ·
            intro hdr
            have hch := hch.ta hdr
            have hcr := hcr.ta hdr
            have hgo := hgo.keep0 hdr
            refine zy rfl (fun hc6 => ?_) fun hc6 => ?_
            ·
              (try simp only [qs] at hc6)
              have hcc : k = B.length ∨ (i < A.length ∧ key (A.getD i 0) ≤ key (B.getD k 0)) := hc6
              have hiA : i < A.length := by omega
              have hst := mrg_left hiA hk (hcc.imp id And.right)
              refine Sq fun _ kh22 _ kr23 => ?_
              refine Mv rfl rfl ?_
              refine Mv rfl rfl ?_
              refine Mv rfl rfl ?_
              refine WL.ev (Ev.ixR (i) rfl rfl (hra.keep0 hcr) (by omega) (by omega) (by simp; omega)) rfl ?_
              refine WL.ev (Ev.load rfl rfl ((hra.keep0 hcr).f64 (by first | omega | (simp; omega)))) rfl ?_
              refine WL.buildSlice (m := 1) (cs := [f64v (A.getD i 0)]) (by decide) (by decide) rfl (by kernel_rfl) rfl fun b63 w63 hn63 => ?_
              have hcm63 := hn63.chg
              have hge63 := hn63.ge
              have hb63 : FB w63 b63 _ [A.getD i 0] := hn63.at_
              have hgehch63 := Nat.le_trans hch.size hge63
              have hch := hch.ta hcm63
              have hgehcr63 := Nat.le_trans hcr.size hge63
              have hcr := hcr.ta hcm63
              have hgo := hgo.keep0 hcm63
              refine WL.growR (f := f64v) (lo := w2.heap.size) (X := []) (l := o) (news := [A.getD i 0]) (by rfl) (fun i => rfl) rfl rfl hgo (by first | rfl | (simp; done) | (simp; omega) | omega) hb63.row (by first | omega | exact hch.size | exact hcr.size | exact Nat.le_refl _) (by simp) (by simp only [List.length_append, List.length_cons, List.length_nil]; omega) (by simp only [List.length_append, List.length_cons, List.length_nil]; omega) rfl fun v64 w64 hg64 hcg64 => ?_
              have hch := GR.frame hgo hcg64 hch (by first | omega | exact Nat.le_refl _)
              have hcr := GR.frame hgo hcg64 hcr (by first | omega | exact Nat.le_refl _)
              have hgo := hg64
              refine As rfl rfl ?_
              refine WL.nil (kr23 _ _ _ (kh22 _ _ _ ?_))
              refine zR fun _ kr24 => ?_
              refine Mv rfl rfl ?_
              (first | refine zi rfl rfl ?_ | refine zo rfl rfl ?_)
              refine As rfl rfl ?_
              refine WL.nil (kr24 _ _ _ ?_)
              refine ⟨rfl, (i + 1, k, v64, o ++ [A.getD i 0]), ?_, ?_, ?_⟩
              ·
                exact SLp
              ·
                exact ⟨by dsimp only; omega, hk, by dsimp only; rw [List.length_append, hlen]; simp; omega, by dsimp only; rw [List.append_assoc, List.singleton_append, ← hst]; exact hm, hgo, hch, hcr⟩
              ·
                show A.length + B.length - (i + 1 + k) < A.length + B.length - (i + k); omega
            ·
              (try simp only [qs] at hc6)
              have hcc : ¬ (k = B.length ∨ (i < A.length ∧ key (A.getD i 0) ≤ key (B.getD k 0))) := hc6
              have hkB : k < B.length := by omega
              have hst := mrg_right hkB hi (by by_cases q : i = A.length; exact .inl q; exact .inr fun q2 => hcc (.inr ⟨by omega, q2⟩))
              refine Sq fun _ kh25 _ kr26 => ?_
              refine Mv rfl rfl ?_
              refine Mv rfl rfl ?_
              refine Mv rfl rfl ?_
              refine WL.ev (Ev.ixR (k) rfl rfl (hrb.keep0 hcr) (by omega) (by omega) (by simp; omega)) rfl ?_
              refine WL.ev (Ev.load rfl rfl ((hrb.keep0 hcr).f64 (by first | omega | (simp; omega)))) rfl ?_
              refine WL.buildSlice (m := 1) (cs := [f64v (B.getD k 0)]) (by decide) (by decide) rfl (by kernel_rfl) rfl fun b72 w72 hn72 => ?_
              have hcm72 := hn72.chg
              have hge72 := hn72.ge
              have hb72 : FB w72 b72 _ [B.getD k 0] := hn72.at_
              have hgehch72 := Nat.le_trans hch.size hge72
              have hch := hch.ta hcm72
              have hgehcr72 := Nat.le_trans hcr.size hge72
              have hcr := hcr.ta hcm72
              have hgo := hgo.keep0 hcm72
              refine WL.growR (f := f64v) (lo := w2.heap.size) (X := []) (l := o) (news := [B.getD k 0]) (by rfl) (fun i => rfl) rfl rfl hgo (by first | rfl | (simp; done) | (simp; omega) | omega) hb72.row (by first | omega | exact hch.size | exact hcr.size | exact Nat.le_refl _) (by simp) (by simp only [List.length_append, List.length_cons, List.length_nil]; omega) (by simp only [List.length_append, List.length_cons, List.length_nil]; omega) rfl fun v73 w73 hg73 hcg73 => ?_
              have hch := GR.frame hgo hcg73 hch (by first | omega | exact Nat.le_refl _)
              have hcr := GR.frame hgo hcg73 hcr (by first | omega | exact Nat.le_refl _)
              have hgo := hg73
              refine As rfl rfl ?_
              refine WL.nil (kr26 _ _ _ (kh25 _ _ _ ?_))
              refine zR fun _ kr27 => ?_
              refine Mv rfl rfl ?_
              (first | refine zi rfl rfl ?_ | refine zo rfl rfl ?_)
              refine As rfl rfl ?_
              refine WL.nil (kr27 _ _ _ ?_)
              refine ⟨rfl, (i, k + 1, v73, o ++ [B.getD k 0]), ?_, ?_, ?_⟩
              ·
                exact SLp
              ·
                exact ⟨hi, by dsimp only; omega, by dsimp only; rw [List.length_append, hlen]; simp; omega, by dsimp only; rw [List.append_assoc, List.singleton_append, ← hst]; exact hm, hgo, hch, hcr⟩
              ·
                show A.length + B.length - (i + (k + 1)) < A.length + B.length - (i + k); omega
        ·
          (try simp only [qs] at hc3)
          have hiX : i = A.length := by omega
          have hkX : k = B.length := by omega
          subst hiX
          subst hkX
          rw [List.drop_length, List.drop_length] at hm
          have ho : o = sortP l := by rw [← hmA, ← hm]; simp [mrg]
          refine CW.exit ?_
          refine kh18 _ _ _ ?_
          refine Sq fun _ kh28 _ kr29 => ?_
          refine Mv rfl rfl ?_
          refine As rfl rfl ?_
          refine WL.nil (kr29 _ _ _ (kh28 _ _ _ ?_))
          refine zr ?_
          refine zr1 rfl rfl ?_
          subst ho
          exact ⟨hgo.nf (fun x hx => hWl x ((sortP_perm l).mem_iff.1 hx)) (by rw [sortP_length]; exact hll), hch⟩

theorem r13Sorted_spec (v : Value) (l : List Nat) (w : World) (hlm : l.length ≤ 1000000) (hv : NF w v l) (hn : Nums l) : Ret Tryz.prog 61 [v] w fun u w' => NF w' u (sortP l) ∧ Chg [] w w' := by
 have key : ∀ m, ∀ (v : Value) (l : List Nat) (w : World), l.length ≤ m → l.length ≤ 1000000 → NF w v l → Nums l → Ret Tryz.prog 61 [v] w fun u w' => NF w' u (sortP l) ∧ Chg [] w w' := by
  intro m
  induction m with
  | zero => intro v l w h0 hm hv hn; exact r13SortedStep v l w hm hv hn fun v l2 w h => by omega
  | succ m ih => intro v l w h0 hm hv hn; exact r13SortedStep v l w hm hv hn fun v l2 w h hv2 hn2 => ih v l2 w (by omega) (by omega) hv2 hn2
 exact key l.length v l w (Nat.le_refl _) hlm hv hn

end

end Go.Proofs.YtknahdghcfdmgaaGreatDoor