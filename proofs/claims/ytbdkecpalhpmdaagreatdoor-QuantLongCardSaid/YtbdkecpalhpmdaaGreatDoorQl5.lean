/- The statement on QuantLong. -/
import Derived.Test.YtbdkecpalhpmdaaGreatDoorQl4
import Derived.Shelf.SlGeneric
import Derived.Shelf.SlSortCmp.Whole1
import Derived.Ground.SlsfProg
import Derived.Test.YtbdkecpalhpmdaaGreatDoorProg
import Derived.Laws.StructEq
import Derived.WalkKit
import Derived.ProofKit
import Derived.OpenShut
import Derived.ChangeOld
import Derived.Below
import Derived.Deep.Slices
import Derived.Laws.Cover2
import Derived.LaidMore
import Derived.SizedLaws
import Derived.SevenTiedAt
import Derived.Stop.Joined
import Derived.Test.YtbdkecpalhpmdaaGreatDoorRows
import Derived.Test.YtbdkecpalhpmdaaGreatDoorTie
import Derived.Test.YtbdkecpalhpmdaaGreatDoorCards
set_option linter.unusedVariables false
set_option linter.unusedSimpArgs false
/- Quantiles as plain numbers. No condition. -/
namespace Go.Proofs.YtbdkecpalhpmdaaGreatDoor
open Go Sx Wd Fl
set_option exponentiation.threshold 9000

/-- What is amiss with a list. -/
def refuseE (l : List Nat) : Int := if 65536 < l.length then 2 else if ¬ finL l then 30 else if l = [] then 3 else 0
theorem refuse_ok {l : List Nat} (h : refuseE l = 0) : l.length ≤ 65536 ∧ finL l ∧ l ≠ [] := by
  unfold refuseE at h
  split at h
  · cases h
  · split at h
    · cases h
    · split at h
      · cases h
      · rename_i h1 h2 h3; exact ⟨by omega, Classical.not_not.1 h2, h3⟩
theorem refuse_three (l : List Nat) : refuseE l = 0 ∨ refuseE l = 2 ∨ refuseE l = 30 ∨ refuseE l = 3 := by
  unfold refuseE; split
  · exact .inr (.inl rfl)
  · split
    · exact .inr (.inr (.inl rfl))
    · split
      · exact .inr (.inr (.inr rfl))
      · exact .inl rfl
/-- What lies num by den of the way from x to y. -/
def lineV (x y num den : Nat) : Int := fvI x * ((den - num : Nat) : Int) + fvI y * (num : Int)
def lineR (x y num den : Nat) (mode : Int) (bits : Nat) (e : Int) : Prop := toldR (sumD (lineV x y num den)) den (cntP [x, y]) mode bits e
/-- The number at a share of a list in order. -/
def atR (s : List Nat) (num den : Nat) (rule mode : Int) (bits : Nat) (e : Int) : Prop :=
  if (s.length - 1) * num % den = 0 ∨ rule = 0 then bits = s.getD ((s.length - 1) * num / den) 0 ∧ e = 0
  else if rule = 3 then midR (s.getD ((s.length - 1) * num / den) 0) (s.getD ((s.length - 1) * num / den + 1) 0) mode bits e
  else if rule = 4 then lineR (s.getD ((s.length - 1) * num / den) 0) (s.getD ((s.length - 1) * num / den + 1) 0) ((s.length - 1) * num % den) den mode bits e
  else if rule = 2 ∧ (2 * ((s.length - 1) * num % den) < den ∨ (2 * ((s.length - 1) * num % den) = den ∧ (s.length - 1) * num / den % 2 = 0)) then bits = s.getD ((s.length - 1) * num / den) 0 ∧ e = 0
  else bits = s.getD ((s.length - 1) * num / den + 1) 0 ∧ e = 0
/-- May a share, a rule, a mode be asked? -/
def askQ (num den rule mode : Int) : Prop := (0 ≤ mode ∧ mode ≤ 4) ∧ (0 ≤ rule ∧ rule ≤ 4) ∧ (1 ≤ den ∧ den ≤ 2147483648) ∧ 0 ≤ num ∧ num ≤ den
instance (num den rule mode : Int) : Decidable (askQ num den rule mode) := by unfold askQ; exact inferInstance
/-- What Quantile answers. -/
def quantR (l : List Nat) (num den rule mode : Int) (bits : Nat) (e : Int) : Prop :=
  (¬ askQ num den rule mode ∧ bits = 0 ∧ e = 1) ∨ (askQ num den rule mode ∧ ((refuseE l ≠ 0 ∧ bits = 0 ∧ e = refuseE l) ∨ (refuseE l = 0 ∧ atR (sortP l) num.toNat den.toNat rule mode bits e)))
/-- What Several answers: the numbers, or an error. -/
def partQ (parts rule mode : Int) : Prop := (0 ≤ mode ∧ mode ≤ 4) ∧ (0 ≤ rule ∧ rule ≤ 4) ∧ 1 ≤ parts ∧ parts ≤ 65536
instance (parts rule mode : Int) : Decidable (partQ parts rule mode) := by unfold partQ; exact inferInstance
def sevL (s : List Nat) (parts : Nat) (rule mode : Int) (L : List Nat) : Prop := L.length = parts + 1 ∧ ∀ k, k ≤ parts → ∃ e, atR s k parts rule mode (L.getD k 0) e
def sevR (l : List Nat) (parts rule mode : Int) (L : List Nat) (e : Int) : Prop :=
  (¬ partQ parts rule mode ∧ L = [] ∧ e = 1) ∨ (partQ parts rule mode ∧ ((refuseE l ≠ 0 ∧ L = [] ∧ e = refuseE l) ∨ (refuseE l = 0 ∧ e = 0 ∧ sevL (sortP l) parts.toNat rule mode L)))
/-! ### Order by keys, order by values -/
theorem finL_getD2 {l : List Nat} (h : finL l) {i : Nat} (hi : i < l.length) : (splitP (l.getD i 0)).cls ≤ 2 := h _ (by rw [List.getD_eq_getElem?_getD, List.getElem?_eq_getElem hi]; exact List.getElem_mem _)
theorem lt_getD2 {l : List Nat} (h : ∀ x ∈ l, x < 18446744073709551616) (i : Nat) : l.getD i 0 < 18446744073709551616 := by
  by_cases hi : i < l.length
  · exact h _ (by rw [List.getD_eq_getElem?_getD, List.getElem?_eq_getElem hi]; exact List.getElem_mem _)
  · rw [List.getD_eq_getElem?_getD, List.getElem?_eq_none (by omega)]; decide
end Go.Proofs.YtbdkecpalhpmdaaGreatDoor

/- Quantiles: from one number of the list to the next, rising. No condition. -/
namespace Go.Proofs.YtbdkecpalhpmdaaGreatDoor
open Go Sx Wd Fl
set_option exponentiation.threshold 9000

theorem fv_le (x : Nat) : (fvI x).natAbs ≤ 2 ^ 3172 := by
  have h := sumI_le [x]
  simpa [sumI] using h
theorem lineV_le {x y num den : Nat} (h : num ≤ den) : (lineV x y num den).natAbs ≤ den * 2 ^ 3172 := by
  unfold lineV
  have h1 := fv_le x
  have h2 := fv_le y
  have a1 : (fvI x * ((den - num : Nat) : Int)).natAbs ≤ (den - num) * 2 ^ 3172 := by
    rw [Int.natAbs_mul, Int.natAbs_natCast, Nat.mul_comm]; exact Nat.mul_le_mul_left _ h1
  have a2 : (fvI y * (num : Int)).natAbs ≤ num * 2 ^ 3172 := by
    rw [Int.natAbs_mul, Int.natAbs_natCast, Nat.mul_comm]; exact Nat.mul_le_mul_left _ h2
  have a3 : (den - num) * 2 ^ 3172 + num * 2 ^ 3172 = den * 2 ^ 3172 := by rw [← Nat.add_mul]; congr 1; omega
  have := Int.natAbs_add_le (fvI x * ((den - num : Nat) : Int)) (fvI y * (num : Int))
  omega
theorem in_of_le {S : Int} {n : Nat} (h : S.natAbs ≤ n * 2 ^ 3172) (hn : n ≤ 1099511627776) : InB S := by
  refine InB.bound (Nat.lt_of_le_of_lt (Nat.le_trans h (Nat.mul_le_mul_right _ hn)) ?_)
  have : (1099511627776 : Nat) * 2 ^ 3172 = 2 ^ 3212 := by rw [show (1099511627776 : Nat) = 2 ^ 40 from rfl, ← Nat.pow_add]
  rw [this]
  exact Nat.pow_lt_pow_right (by decide) (by decide)
theorem lineV_in {x y num den : Nat} (h : num ≤ den) (hd : den ≤ 2147483648) : InB (lineV x y num den) := in_of_le (lineV_le h) (by omega)
/-! ### Rounding rises -/
/-! ### Places -/
theorem place_lt {m num den : Nat} (hd : 1 ≤ den) (hn : num ≤ den) : m * num / den ≤ m ∧ (m * num % den ≠ 0 → m * num / den + 1 ≤ m) := by
  have h1 := Nat.div_add_mod (m * num) den
  have h2 : m * num ≤ m * den := Nat.mul_le_mul_left _ hn
  have h3 : m * num / den ≤ m := by
    have := Nat.div_le_div_right (c := den) h2
    rwa [Nat.mul_div_cancel _ (by omega)] at this
  refine ⟨h3, fun hr => ?_⟩
  rcases Nat.lt_or_eq_of_le h3 with q | q
  · exact q
  · rw [q, Nat.mul_comm den m] at h1
    omega
/-- A list in order of finite numbers, one at least. -/
structure Row (s : List Nat) : Prop where
  srt : Srt s
  fin : finL s
  w : ∀ x ∈ s, x < 18446744073709551616
  pos : 0 < s.length
theorem Row.of {l : List Nat} (hf : finL l) (hw : ∀ x ∈ l, x < 18446744073709551616) (hne : l ≠ []) : Row (sortP l) :=
  ⟨sortP_srt l, (perm_finL (sortP_perm l)).2 hf, fun x hx => hw x ((sortP_perm l).mem_iff.1 hx), by rw [sortP_length]; exact List.length_pos_iff.2 hne⟩
end Go.Proofs.YtbdkecpalhpmdaaGreatDoor

/- Quantiles: a greater share, the ends, how many lie on either side. No condition. -/
namespace Go.Proofs.YtbdkecpalhpmdaaGreatDoor
open Go Sx Wd Fl
set_option exponentiation.threshold 9000

/-! ### The least and the greatest number, by bits -/
/-! ### How many -/
end Go.Proofs.YtbdkecpalhpmdaaGreatDoor

/- Quantiles of like numbers. No condition. -/
namespace Go.Proofs.YtbdkecpalhpmdaaGreatDoor
open Go Sx Wd Fl
set_option exponentiation.threshold 9000

theorem meanQ_like {n v : Nat} {mode : Int} {bits : Nat} (hv : (splitP v).cls ≤ 2) (hv64 : v < 18446744073709551616) (hn : n ≠ 0) (hz : (n : Int) * fvI v ≠ 0) (hM : MeanQ ((n : Int) * fvI v) n mode bits) : bits = v := by
  have ev := fvI_nz hv hv64
  have mv := fin_mod hv
  have hp := Nat.two_pow_pos 1074
  obtain ⟨r, hN, hr, hb⟩ := hM
  have hB : 0 < n * 2 ^ 1073 := Nat.mul_pos (by omega) (Nat.two_pow_pos _)
  have hr2 : r = v % 9223372036854775808 := by
    refine hN.unique hB (near_is mv hB ?_)
    rw [unit2, Int.natAbs_mul, Int.natAbs_natCast, fvI_abs, fvN_nz hv]
  rw [hb]
  by_cases q : 9223372036854775808 ≤ v
  · rw [if_pos q] at ev
    have hpos : 0 < nz (v % 9223372036854775808) * 2 ^ 1074 := by
      apply Nat.pos_of_ne_zero; intro hq
      rw [hq] at ev; rw [ev] at hz; simp at hz
    have : (n : Int) * fvI v < 0 := Int.mul_neg_of_pos_of_neg (by omega) (by omega)
    rw [if_pos this]; omega
  · rw [if_neg q] at ev
    have : ¬ (n : Int) * fvI v < 0 := by
      have : 0 ≤ (n : Int) * fvI v := Int.mul_nonneg (by omega) (by omega)
      omega
    rw [if_neg this]; omega
theorem nought_like {x : Nat} {mode : Int} (hx : (splitP x).cls ≤ 2) (hx64 : x < 18446744073709551616) (hm : 0 ≤ mode ∧ mode ≤ 4) (h0 : fvI x = 0) : noughtP (cntP [x, x]) mode = x := by
  have hf : finL [x, x] := by intro z hz; simp only [List.mem_cons, List.not_mem_nil, or_false] at hz; rcases hz with rfl | rfl <;> assumption
  obtain ⟨hs, hv⟩ := sift_fin (l := [x, x]) (pn := 0) (pi := 0) hf (by simp) ⟨by decide, by decide⟩
  have hS : sumI (filP [x, x]) = 0 := by rw [fil_fin hf]; simp [sumI, h0]
  have hT : meanR (List.replicate 2 x) mode 0 0 (noughtP (cntP [x, x]) mode) 0 := by
    show meanR [x, x] mode 0 0 _ 0
    refine .inr ⟨hm, .inr ⟨hs, .inr ⟨hv, .inr ⟨by rw [fil_fin hf]; simp, ?_⟩⟩⟩⟩
    rw [hS]
    exact .inl ⟨rfl, rfl, rfl⟩
  exact (mean_like hT hx hx64 (by decide) (by decide) hm).2
theorem line_like {x num den : Nat} {mode : Int} {b : Nat} {e : Int} (h : lineR x x num den mode b e) (hnd : num ≤ den) (hd : 1 ≤ den ∧ den ≤ 2147483648) (hm : 0 ≤ mode ∧ mode ≤ 4) (hx : (splitP x).cls ≤ 2) (hx64 : x < 18446744073709551616) : e = 0 ∧ b = x := by
  have hV : lineV x x num den = (den : Int) * fvI x := by
    unfold lineV
    rw [← Int.mul_add, show ((den - num : Nat) : Int) + (num : Int) = (den : Int) by omega, Int.mul_comm]
  have hin := lineV_in (x := x) (y := x) hnd hd.2
  unfold lineR at h
  obtain ⟨he, hh⟩ := told_sum hin.1 hin.2 (by omega) (by omega) hm h
  refine ⟨he, ?_⟩
  rw [hV] at hh
  rcases hh with ⟨h0, hb⟩ | ⟨h0, hM⟩
  · have hx0 : fvI x = 0 := by rcases Int.mul_eq_zero.1 h0 with q | q; omega; exact q
    rw [hb]; exact nought_like hx hx64 hm hx0
  · exact meanQ_like hx hx64 (by omega) h0 hM
theorem getD_rep {n x i : Nat} (h : i < n) : (List.replicate n x).getD i 0 = x := by
  rw [List.getD_eq_getElem?_getD, List.getElem?_replicate, if_pos h]; rfl
theorem at_like {n x num den : Nat} {rule mode : Int} {b : Nat} {e : Int} (h : atR (List.replicate n x) num den rule mode b e) (hn0 : n ≠ 0) (hn : num ≤ den) (hd : 1 ≤ den ∧ den ≤ 2147483648) (hm : 0 ≤ mode ∧ mode ≤ 4) (hx : (splitP x).cls ≤ 2) (hx64 : x < 18446744073709551616) : e = 0 ∧ b = x := by
  obtain ⟨p1, p2⟩ := place_lt (m := n - 1) hd.1 hn
  have hrd : (n - 1) * num % den ≤ den := Nat.le_of_lt (Nat.mod_lt _ (by omega))
  unfold atR at h
  rw [List.length_replicate] at h
  generalize (n - 1) * num / den = i at *
  generalize (n - 1) * num % den = r at *
  have h1 : (List.replicate n x).getD i 0 = x := getD_rep (by omega)
  rw [h1] at h
  by_cases hr : r = 0
  · rw [if_pos (.inl hr)] at h; exact ⟨h.2, h.1⟩
  · have h2 : (List.replicate n x).getD (i + 1) 0 = x := getD_rep (by have := p2 hr; omega)
    rw [h2] at h
    split at h
    · exact ⟨h.2, h.1⟩
    · split at h
      · exact mean_like (n := 2) (mid_mean h hm hx hx) hx hx64 (by decide) (by decide) hm
      · split at h
        · exact line_like h hrd hd hm hx hx64
        · split at h <;> exact ⟨h.2, h.1⟩
end Go.Proofs.YtbdkecpalhpmdaaGreatDoor

/- The numbers that every statement on means asks first. No condition. -/
namespace Go.Proofs.YtbdkecpalhpmdaaGreatDoor
open Go Sx Wd
set_option exponentiation.threshold 9000

theorem p2148 : (0 : Int) < ((2 ^ 2148 : Nat) : Int) := by have := Nat.two_pow_pos 2148; omega
theorem meanQ_of {S n r : Nat} {mode : Int} {bits : Nat} (hn : n ≠ 0) (hr : r < 9218868437227405312) (h : 2 * nz r * (n * 2 ^ 1073) = S) (hM : MeanQ (S : Int) n mode bits) : bits = r := by
  obtain ⟨r', h1, _, hb⟩ := hM
  rw [if_neg (by omega)] at hb
  rw [hb]
  rw [Int.natAbs_natCast] at h1
  exact h1.unique (Nat.mul_pos (by omega) (Nat.two_pow_pos _)) (near_is hr (Nat.mul_pos (by omega) (Nat.two_pow_pos _)) h)
end Go.Proofs.YtbdkecpalhpmdaaGreatDoor

/- The numbers that every statement on quantiles asks first. No condition. -/
namespace Go.Proofs.YtbdkecpalhpmdaaGreatDoor
open Go Sx Wd Fl
set_option exponentiation.threshold 9000

def lvq : List Nat := [4621819117588971520, 4630826316843712512, 4626322717216342016, 4629137466983448576]
def lvs : List Nat := [4621819117588971520, 4626322717216342016, 4629137466983448576, 4630826316843712512]
theorem lvq_fin : finL lvq := by decide +kernel
theorem lvq_lt : ∀ x ∈ lvq, x < 18446744073709551616 := by decide
theorem lvq_sort : sortP lvq = lvs := by
  refine (sortP_eq ?_ ?_ (finL_nums lvq_fin lvq_lt)).symm
  · unfold lvs lvq
    exact (List.perm_cons _).2 ((List.Perm.cons _ (List.Perm.swap _ _ _)).trans (List.Perm.swap _ _ _))
  · unfold Srt lvs
    simp only [List.pairwise_cons, List.mem_cons, List.not_mem_nil, or_false, forall_eq_or_imp, forall_eq, List.Pairwise.nil, and_true, false_implies, implies_true]
    decide +kernel
theorem lvq_ok : refuseE lvq = 0 := by
  unfold refuseE
  rw [if_neg (by decide), if_neg (fun q => q lvq_fin), if_neg (by decide)]
theorem lvq_line : lineV 4621819117588971520 4626322717216342016 3 4 = ((70 * 2 ^ 2148 : Nat) : Int) := by decide +kernel
theorem live_quant {b : Nat} {e : Int} (h : quantR lvq 1 4 4 0 b e) : b = 4625619029774565376 ∧ e = 0 := by
  rcases h with ⟨q, _⟩ | ⟨_, ⟨q, _⟩ | ⟨_, h⟩⟩
  · exact absurd (by decide) q
  · exact absurd lvq_ok q
  · rw [lvq_sort, show (1 : Int).toNat = 1 from rfl, show (4 : Int).toNat = 4 from rfl] at h
    unfold atR at h
    rw [if_neg (by decide), if_neg (by decide), if_pos rfl] at h
    have h2 : lineR 4621819117588971520 4626322717216342016 3 4 0 b e := h
    unfold lineR at h2
    obtain ⟨he, hh⟩ := told_sum (lineV_in (by decide) (by decide)).1 (lineV_in (by decide) (by decide)).2 (by decide) (by decide) (by decide) h2
    rw [lvq_line] at hh
    rcases hh with ⟨hz, _⟩ | ⟨_, hM⟩
    · have := p2148; exact absurd hz (by rw [Int.natCast_mul]; omega)
    · exact ⟨meanQ_of (by decide) (by decide) (by decide +kernel) hM, he⟩
theorem lvq_mid : sumI [4626322717216342016, 4629137466983448576] = ((50 * 2 ^ 2148 : Nat) : Int) := by decide +kernel
theorem live_sev {L : List Nat} {e : Int} (h : sevR lvq 2 3 0 L e) : e = 0 ∧ L.length = 3 ∧ L.getD 1 0 = 4627730092099895296 := by
  rcases h with ⟨q, _⟩ | ⟨_, ⟨q, _⟩ | ⟨_, he, hl, h⟩⟩
  · exact absurd (by decide) q
  · exact absurd lvq_ok q
  · refine ⟨he, hl, ?_⟩
    obtain ⟨e1, h1⟩ := h 1 (by decide)
    rw [lvq_sort, show (2 : Int).toNat = 2 from rfl] at h1
    unfold atR at h1
    rw [if_neg (by decide), if_pos rfl] at h1
    have h2 : midR 4626322717216342016 4629137466983448576 0 (L.getD 1 0) e1 := h1
    have hf : finL [4626322717216342016, 4629137466983448576] := by decide +kernel
    have h3 := mid_mean h2 (by decide) (hf _ (by simp)) (hf _ (by simp))
    obtain ⟨-, hh⟩ := mean_fin2 h3 hf (by decide) (by decide) (by decide) ⟨by decide, by decide⟩
    rw [lvq_mid] at hh
    rcases hh with ⟨hz, _⟩ | ⟨_, hM⟩
    · have := p2148; exact absurd hz (by rw [Int.natCast_mul]; omega)
    · exact meanQ_of (by decide) (by decide) (by decide +kernel) hM
/-- How many of a list are not above a number. -/
def countLE (l : List Nat) (x : Nat) : Nat := (l.filter fun z => decide (fvI z ≤ fvI x)).length
theorem live_share : countLE lvq 4626322717216342016 = 2 := by decide +kernel
/-- What Share answers. -/
def shareR (l : List Nat) (x : Nat) (a b e : Int) : Prop :=
  ((refuseE l = 2 ∨ refuseE l = 30) ∧ a = 0 ∧ b = 0 ∧ e = refuseE l) ∨ (¬ (refuseE l = 2 ∨ refuseE l = 30) ∧ ((isNaN x = true ∧ a = 0 ∧ b = 0 ∧ e = 30) ∨ (isNaN x = false ∧ ((refuseE l ≠ 0 ∧ a = 0 ∧ b = 0 ∧ e = refuseE l) ∨ (refuseE l = 0 ∧ a = ((l.filter fun z => FloatKind.f64.format.order z x == some .lt || FloatKind.f64.format.order z x == some .eq).length : Int) ∧ b = (l.length : Int) ∧ e = 0)))))
/-- Of a finite number. -/
theorem share_fin {l : List Nat} {x : Nat} {a b e : Int} (h : shareR l x a b e) (hr : refuseE l = 0) (hx : (splitP x).cls ≤ 2) : a = (countLE l x : Int) ∧ b = (l.length : Int) ∧ e = 0 := by
  obtain ⟨hl, hf, hne⟩ := refuse_ok hr
  rcases h with ⟨p, _⟩ | ⟨_, ⟨p, _⟩ | ⟨_, ⟨p, _⟩ | ⟨_, h1, h2, h3⟩⟩⟩
  · omega
  · rw [fin_num hx] at p; cases p
  · exact absurd hr p
  · refine ⟨?_, h2, h3⟩
    rw [h1]
    unfold countLE
    congr 2
    refine List.filter_congr fun z hz => ?_
    rw [order_fin (hf z hz) hx, fcmp_le]
end Go.Proofs.YtbdkecpalhpmdaaGreatDoor

/- Slices against nil; an empty slice that is laid and grows. No condition. -/
namespace Go.Proofs.YtbdkecpalhpmdaaGreatDoor
open Go Sx Wd
section
variable {P : Program} {n : Nat} {D : List Deferred} {s : Sl} {w : World} {ops : Array Oper} {K : KK} {rest : List Oper} {ty : TypeId} {pos : String} {af : Array Edge} {d : Nat} {x y : Operand}
theorem eqGuard_slice (op : BinOp) (t : TypeId) (x y : Operand) (a b : Option Addr) (i j k l : Nat) : (eqGuard op t x y (.slice a i j) (.slice b k l)).run P w = .ok () w := by
  unfold eqGuard; split <;> simp
/-- A slice against nil. -/
theorem Ev.eqlSliceNil {t t' e : TypeId} {sz by_ : Nat} {z : Value} {a : Option Addr} {m c : Nat} [hT : HasT P t (.slice e) sz by_ z] (hx : opnd s x = some (.slice a m c)) (hy : opnd s y = some (.slice none 0 0)) : Ev P s (.binOp .eql t x y t') ty w (.bool a.isNone) w :=
  run_bin hx hy (fun _ _ => eqGuard_slice _ _ _ _ _ _ _ _ _ _) (by
    have := run_eqIn (P := P) (w := w) (t := t) (u := .slice a m c) (v := .slice none 0 0) (r := a.isNone) (fun d => by cases a <;> simp [Op.equalIn, hT.underlying])
    simp only [binOp]
    simp [this])
/-- An empty slice of one's own. -/
theorem WL.emptySlice {t e : TypeId} {de : TypeDesc} {sz by_ es be : Nat} {z ze : Value} {f : Nat → Value} {lo : Nat} {X : List Nat} [hT : HasT P t (.slice e) sz by_ z] [hE : HasT P e de es be ze] (hlo : lo ≤ w.heap.size) (hX : ∀ b ∈ X, b < w.heap.size) (hd : Nat.blt d n = true)
    (k : ∀ v w', GR w' e f lo X v [] → Chg [] w w' → WL P ops K rest n D ((d, v) :: s) w') : WL P ops K (⟨some d, .buildSlice t 0 #[], ty, pos, af, none⟩ :: rest) n D s w := by
  refine WL.ev (v := .slice (some ⟨w.heap.size, 0, none⟩) 0 0) (w' := w.alloc (.cells #[] e)) (fun ρ d' pos af g hρ => ?_) hd (k _ _ ?_ (new_alloc w _).chg)
  · simp [execOp, Instr.buildSlice, hT.underlying, hE.sizeOf, Instr.fill, newRow]
    rw [show Array.range 0 = #[] from by decide, Array.map_empty]
  · refine ⟨⟨by simp, .inr ⟨w.heap.size, 0, #[], rfl, Nat.zero_le _, ?_, Nat.le_refl _, by unfold maxLen; omega, by simp, by simp⟩⟩, fun b hb => ?_⟩
    · exact (new_alloc w (.cells #[] e)).at_
    · cases hb
      exact ⟨hlo, fun hm => Nat.lt_irrefl _ (hX _ hm)⟩
end
theorem GR.own {w : World} {e : TypeId} {f : Nat → Value} {lo : Nat} {X : List Nat} {v : Value} {l : List Nat} (h : GR w e f lo X v l) (hne : l ≠ []) : ∃ b c cur, v = .slice (some ⟨b, 0, none⟩) l.length c ∧ w.heap[b]? = some (.cells cur e (0, 0)) ∧ l.length ≤ c ∧ c ≤ maxLen ∧ cur.size = c ∧ cur.toList.take l.length = l.map f ∧ lo ≤ b ∧ b ∉ X := by
  obtain ⟨⟨_, hcase⟩, hb⟩ := h
  rcases hcase with ⟨_, h0⟩ | ⟨g, cp, cur, rfl, _, hheap, hnc, hcm, hcs, htake⟩
  · exact absurd (List.length_eq_zero_iff.1 h0) hne
  · obtain ⟨h1, h2⟩ := hb g rfl
    rw [Nat.mul_one] at hcs htake
    exact ⟨g, cp, cur, rfl, hheap, hnc, hcm, hcs, htake, h1, h2⟩
end Go.Proofs.YtbdkecpalhpmdaaGreatDoor

/- Copies of numbers. No condition. -/
namespace Go.Proofs.YtbdkecpalhpmdaaGreatDoor.Sx
open Go
section
variable {P : Program} {n : Nat} {D : List Deferred} {s : Sl} {w : World} {ops : Array Oper} {K : KK} {rest : List Oper} {ty : TypeId} {pos : String} {af : Array Edge} {d : Nat} {x y : Operand}
end
end Go.Proofs.YtbdkecpalhpmdaaGreatDoor.Sx

/- Copies of lists of numbers; parts of them. No condition. -/
namespace Go.Proofs.YtbdkecpalhpmdaaGreatDoor
open Go Sx Wd Fl

theorem GR.nf {w : World} {e : TypeId} {lo : Nat} {X : List Nat} {v : Value} {l : List Nat} (h : GR w e f64v lo X v l) (hw : ∀ x ∈ l, x < 18446744073709551616) (hl : l.length ≤ 70368744177664) : NF w v l := by
  obtain ⟨a, c, rfl, hc, hr⟩ := h.row
  exact ⟨⟨a, c, rfl, hc, hr⟩, hw, hl⟩
theorem NF.head {w : World} {a : Option Addr} {l : List Nat} {n c hi : Nat} (h : NF w (.slice a n c) l) (h2 : hi ≤ l.length) : NF w (.slice a hi c) (l.take hi) := by
  obtain ⟨⟨a', c', e, hc, hr⟩, hw, hl⟩ := h
  cases e
  have e1 : (l.take hi).length = hi := by rw [List.length_take]; omega
  refine ⟨⟨a, c, by rw [e1], by omega, ?_⟩, fun x hx => hw x (List.mem_of_mem_take hx), by omega⟩
  rw [List.map_take]
  exact hr.take _
set_option maxRecDepth 8000 in
set_option maxHeartbeats 2000000 in
theorem CloneF_spec (v : Value) (l : List Nat) (w : World) (hv : NF w v l) (hlm : l.length ≤ 1000000) : Ret Tryz.prog 51 [v] w fun u w' => GR w' 24 f64v w.heap.size [] u l ∧ Chg [] w w' := by
 obtain ⟨⟨al, cl, rfl, hcap, hrl⟩, hWl, hll⟩ := hv
 have hch : Chg [] w w := Chg.refl _ _
 refine Ret.enter Tryz.func51 rfl rfl ?_
 simp only [args0, Nat.zero_add, Nat.reduceAdd]
 refine Sr fun _ kh1 => za rfl (zz (kh1 (zc fun _ kh3 => Sr fun _ kh4 => zm rfl ?_)))
 refine WL.ev (Ev.eqlSliceNil rfl rfl) rfl ?_
 refine zz (kh4 ?_)
 refine CW.cond rfl (fun hc1 => ?_) (fun hc1 => ?_)
 ·
  try simp only [qs] at hc1
  obtain rfl : al = none := by simpa using hc1
  have hl0 : l = [] := by cases l with | nil => rfl | cons x r => obtain ⟨ad, e1, _⟩ := hrl 0 _ rfl; cases e1
  subst hl0
  refine Sr fun _ kh6 => za rfl (zz (kh6 ?_))
  refine CW.ret ?_
  refine bodyA.ret1 rfl rfl ?_
  exact ⟨GR.nil, hch⟩
 ·
  try simp only [qs] at hc1
  refine CW.skip ?_
  refine kh3 (Sr fun _ kh8 => ?_)
  refine WL.emptySlice (f := f64v) (lo := w.heap.size) (X := []) hch.size (by simp) rfl fun v5 w5 hg5 hcm5 => ?_
  have hch := hch.trans (Chg.any hcm5)
  refine zm rfl ?_
  refine WL.growR (f := f64v) (lo := w.heap.size) (X := []) (l := []) (news := l) (by rfl) (fun i => rfl) rfl rfl hg5 (by first | rfl | (simp; done) | (simp; omega) | omega) (hrl.keep0 hch) (by first | omega | exact hch.size | exact hcr.size | exact Nat.le_refl _) (by simp) (by simp only [List.length_append, List.length_cons, List.length_nil]; omega) (by simp only [List.length_append, List.length_cons, List.length_nil]; omega) rfl fun v7 w7 hg7 hcg7 => ?_
  have hch := GR.frame hg5 hcg7 hch (by first | omega | exact Nat.le_refl _)
  have hg5 := hg7
  rw [show ([] ++ l) = l from by simp] at hg5
  refine za rfl (zz (kh8 ?_))
  refine CW.ret ?_
  refine bodyA.ret1 rfl rfl ?_
  exact ⟨hg5, hch⟩

end Go.Proofs.YtbdkecpalhpmdaaGreatDoor

/-
  DERIVED: THE SHELF's CONTRACTS AT THIS DUMP, IN PLAIN WORDS (tools/lay-plain.mjs out of 'TmpSortLayF.lean', which tools/lay-shelf.mjs wrote): THE SAME DECLARATIONS UNDER THE SAME NAMES: 'import', 'namespace', 'open', 'def', 'theorem' AND NOTHING ELSE: no command of the shelf's: FOR A HAND-IN. Each laying: the table of numbers ('.._ren') and one theorem, a field a fact of the dump's own or the kernel's comparison; each contract: ONE APPLICATION.
-/
namespace Go.Proofs
open Go.Shelf
def Tryz.laySortLayF_ren : Go.Shelf.Ren := ⟨fun | 6 => 52 | 15 => 88 | 14 => 87 | 28 => 147 | 29 => 148 | 20 => 139 | 21 => 140 | 22 => 141 | 23 => 142 | 24 => 143 | 25 => 144 | 26 => 145 | 27 => 146 | 46 => 181 | 47 => 182 | 48 => 183 | 49 => 184 | 50 => 185 | 57 => 207 | n => n, fun | 22 => 23 | 24 => 24 | 25 => 73 | 3 => 3 | 39 => 118 | 0 => 0 | 53 => 139 | 55 => 54 | 4 => 4 | 46 => 163 | 45 => 162 | 50 => 167 | 5 => 5 | 9 => 9 | 66 => 201 | 70 => 205 | 76 => 233 | 77 => 234 | n => n, fun | n => n⟩
theorem Tryz.laySortLayF : Go.Proofs.SlLaysF.n6 Tryz.prog Tryz.laySortLayF_ren := {
  mixed := by kernel_rfl
  f6 := ⟨Tryz.f52.name, by decide, Tryz.func52.trans (congrArg some (by kernel_rfl))⟩
  f14 := ⟨Tryz.f87.name, by decide, Tryz.func87.trans (congrArg some (by kernel_rfl))⟩
  f15 := Tryz.func88.trans (congrArg some (by kernel_rfl))
  f20 := ⟨Tryz.f139.name, by decide, Tryz.func139.trans (congrArg some (by kernel_rfl))⟩
  f21 := ⟨Tryz.f140.name, by decide, Tryz.func140.trans (congrArg some (by kernel_rfl))⟩
  f22 := ⟨Tryz.f141.name, by decide, Tryz.func141.trans (congrArg some (by kernel_rfl))⟩
  f23 := ⟨Tryz.f142.name, by decide, Tryz.func142.trans (congrArg some (by kernel_rfl))⟩
  f24 := ⟨Tryz.f143.name, by decide, Tryz.func143.trans (congrArg some (by kernel_rfl))⟩
  f25 := ⟨Tryz.f144.name, by decide, Tryz.func144.trans (congrArg some (by kernel_rfl))⟩
  f26 := ⟨Tryz.f145.name, by decide, Tryz.func145.trans (congrArg some (by kernel_rfl))⟩
  f27 := ⟨Tryz.f146.name, by decide, Tryz.func146.trans (congrArg some (by kernel_rfl))⟩
  f28 := Tryz.func147.trans (congrArg some (by kernel_rfl))
  f29 := Tryz.func148.trans (congrArg some (by kernel_rfl))
  f46 := ⟨Tryz.f181.name, by decide, Tryz.func181.trans (congrArg some (by kernel_rfl))⟩
  f47 := Tryz.func182.trans (congrArg some (by kernel_rfl))
  f48 := Tryz.func183.trans (congrArg some (by kernel_rfl))
  f49 := ⟨Tryz.f184.name, by decide, Tryz.func184.trans (congrArg some (by kernel_rfl))⟩
  f50 := ⟨Tryz.f185.name, by decide, Tryz.func185.trans (congrArg some (by kernel_rfl))⟩
  f57 := ⟨Tryz.f207.name, by decide, Tryz.func207.trans (congrArg some (by kernel_rfl))⟩
  t0 := Tryz.underlying0
  a0 := Tryz.isAgg0
  z0 := Tryz.sizeOf0
  v0 := Tryz.zeroValue0
  t3 := Tryz.underlying3
  a3 := Tryz.isAgg3
  z3 := Tryz.sizeOf3
  v3 := Tryz.zeroValue3
  t4 := Tryz.underlying4
  a4 := Tryz.isAgg4
  z4 := Tryz.sizeOf4
  v4 := Tryz.zeroValue4
  t5 := Tryz.underlying5
  a5 := Tryz.isAgg5
  z5 := Tryz.sizeOf5
  v5 := Tryz.zeroValue5
  t9 := Tryz.underlying9
  a9 := Tryz.isAgg9
  z9 := Tryz.sizeOf9
  v9 := Tryz.zeroValue9
  t22 := Tryz.underlying23
  a22 := Tryz.isAgg23
  z22 := Tryz.sizeOf23
  v22 := Tryz.zeroValue23
  a24 := Tryz.isAgg24
  z24 := Tryz.sizeOf24
  t25 := Tryz.underlying73
  a25 := Tryz.isAgg73
  z25 := Tryz.sizeOf73
  v25 := Tryz.zeroValue73
  t39 := Tryz.underlying118
  a39 := Tryz.isAgg118
  z39 := Tryz.sizeOf118
  v39 := Tryz.zeroValue118
  t45 := Tryz.underlying162
  a45 := Tryz.isAgg162
  z45 := Tryz.sizeOf162
  v45 := Tryz.zeroValue162
  t46 := Tryz.underlying163
  a46 := Tryz.isAgg163
  z46 := Tryz.sizeOf163
  v46 := Tryz.zeroValue163
  t50 := Tryz.underlying167
  a50 := Tryz.isAgg167
  z50 := Tryz.sizeOf167
  v50 := Tryz.zeroValue167
  t53 := Tryz.underlying139
  a53 := Tryz.isAgg139
  z53 := Tryz.sizeOf139
  v53 := Tryz.zeroValue139
  t55 := Tryz.underlying54
  a55 := Tryz.isAgg54
  z55 := Tryz.sizeOf54
  v55 := Tryz.zeroValue54
  t66 := Tryz.underlying201
  a66 := Tryz.isAgg201
  z66 := Tryz.sizeOf201
  v66 := Tryz.zeroValue201
  t70 := Tryz.underlying205
  a70 := Tryz.isAgg205
  z70 := Tryz.sizeOf205
  v70 := Tryz.zeroValue205
  t76 := Tryz.underlying233
  a76 := Tryz.isAgg233
  z76 := Tryz.sizeOf233
  v76 := Tryz.zeroValue233
  t77 := Tryz.underlying234
  a77 := Tryz.isAgg234
  z77 := Tryz.sizeOf234
  v77 := Tryz.zeroValue234 }
end Go.Proofs

/- Maps keyed by whole numbers, in the engine. No condition. -/
namespace Go.Proofs.YtbdkecpalhpmdaaGreatDoor.Sx
open Go

structure ME where
  key : Int
  val : Value
  born : Nat
def meV (kk : IntKind) (e : ME) : MapEntry := ⟨.int kk e.key, e.val, e.born⟩
def mapO (kk : IntKind) (es : List ME) (c : Nat) : Obj := .map (es.map (meV kk)).toArray c
section
variable {P : Program} {t key elem : TypeId} {kk : IntKind} {w : World} {sk bk : Nat} {zk : Value}
end

section
variable {P : Program} {n : Nat} {D : List Deferred} {s : Sl} {w : World} {ty : TypeId} {x y z : Operand} {ops : Array Oper} {K : KK} {rest : List Oper} {pos : String} {af : Array Edge} {d : Nat}
variable {t key elem : TypeId} {kk : IntKind} {sz by_ sk bk se be : Nat} {zt zk ze : Value} {de : TypeDesc} {r c : Nat} {es : List ME} {k : Int}
/-! A range over a map -/
end
end Go.Proofs.YtbdkecpalhpmdaaGreatDoor.Sx

/- The walks of the small functions on numbers' bits. No condition. -/
namespace Go.Proofs.YtbdkecpalhpmdaaGreatDoor
open Go Sx Fl

theorem andNot_top (b : Nat) (h : 9223372036854775808 ≤ b) (hb : b < 18446744073709551616) : bits2 .andNot .u64 (b : Int) 9223372036854775808 = (b : Int) - 9223372036854775808 := by
  have e : (BitVec.ofInt 64 (b : Int) &&& ~~~BitVec.ofInt 64 9223372036854775808).toNat = b - 9223372036854775808 := by
    rw [BitVec.toNat_and, BitVec.toNat_not]
    have h1 : (BitVec.ofInt 64 (b : Int)).toNat = b := by simp [BitVec.toNat_ofInt]; omega
    have h2 : (BitVec.ofInt 64 9223372036854775808).toNat = 9223372036854775808 := by decide
    rw [h1, h2]
    have h3 : b &&& (2 ^ 64 - 1 - 9223372036854775808) = b % 2 ^ 63 := by
      rw [← Nat.and_two_pow_sub_one_eq_mod]
    rw [h3]
    omega
  show IntKind.u64.wrap ((BitVec.ofInt 64 (b : Int) &&& ~~~BitVec.ofInt 64 9223372036854775808).toNat : Int) = _
  rw [e, IntWalk.u64_in _ (by omega)]
  omega
theorem compl_i64 (n : Int) (h0 : 0 ≤ n) (h1 : n ≤ 9223372036854775807) : bits2 .xor .i64 (-1) n = -1 - n := by
  have e : (BitVec.ofInt 64 (-1) ^^^ BitVec.ofInt 64 n).toNat = 18446744073709551615 - n.toNat := by
    have ha : BitVec.ofInt 64 (-1) = BitVec.allOnes 64 := by decide
    rw [ha, BitVec.allOnes_xor, BitVec.toNat_not]
    have h2 : (BitVec.ofInt 64 n).toNat = n.toNat := by simp [BitVec.toNat_ofInt]; omega
    rw [h2]
  show IntKind.i64.wrap ((BitVec.ofInt 64 (-1) ^^^ BitVec.ofInt 64 n).toNat : Int) = _
  rw [e, IntKind.wrap_i64]
  omega
theorem shr63 (b : Nat) (hb : b < 18446744073709551616) : (b : Int).fdiv (2 ^ (min (63 : Int).toNat IntKind.u64.bits)) = if 9223372036854775808 ≤ b then 1 else 0 := by
  show (b : Int).fdiv 9223372036854775808 = _
  rw [Int.fdiv_eq_ediv_of_nonneg _ (by omega)]
  split <;> omega
theorem key_neg (b : Nat) (hb : b < 18446744073709551616) (h1 : isNaN b = false) (h2 : (b : Int).fdiv (2 ^ (min (63 : Int).toNat IntKind.u64.bits)) = 1) :
    bits2 .xor .i64 (if IntKind.i64.signed then -1 else IntKind.i64.max) (IntKind.i64.wrap (bits2 .andNot .u64 (b : Int) 9223372036854775808)) = key b := by
  rw [shr63 b hb] at h2
  have h3 : 9223372036854775808 ≤ b := by
    by_cases h : 9223372036854775808 ≤ b
    · exact h
    · rw [if_neg h] at h2; cases h2
  rw [key_neg_eq h1 h3, andNot_top b h3 hb, wrap_i64 (by omega)]
  exact compl_i64 _ (by omega) (by omega)
theorem key_pos (b : Nat) (hb : b < 18446744073709551616) (h1 : isNaN b = false) (h2 : ¬ (b : Int).fdiv (2 ^ (min (63 : Int).toNat IntKind.u64.bits)) = 1) : IntKind.i64.wrap (b : Int) = key b := by
  rw [shr63 b hb] at h2
  have h3 : b < 9223372036854775808 := by
    by_cases h : 9223372036854775808 ≤ b
    · rw [if_pos h] at h2; exact absurd rfl h2
    · omega
  rw [key_pos_eq h1 h3, wrap_i64 (by omega)]
theorem bits_key_spec (b : Nat) (hb : b < 18446744073709551616) (w : World) : Ret Tryz.prog 89 [.float .f64 b] w fun v w' => v = .int .i64 (key b) ∧ w = w' := by
 refine Ret.enter Tryz.func89 rfl rfl ?_
 refine Sr fun _ kh1 => za rfl (zz (kh1 (zc fun _ kh3 => Sr fun _ kh4 => zm rfl (zm rfl ?_))))
 refine WL.ev (Ev.fneq rfl rfl) rfl ?_
 refine zz (kh4 ?_)
 refine CW.cond rfl (fun hc1 => ?_) (fun hc1 => ?_)
 ·
  rw [order_self] at hc1
  refine Sr fun _ kh6 => za rfl (zz (kh6 ?_))
  refine CW.ret ?_
  refine bodyA.ret1 rfl rfl ?_
  exact ⟨by simp [key, hc1], rfl⟩
 ·
  rw [order_self] at hc1
  refine CW.skip ?_
  refine kh3 (Sr fun _ kh8 => zm rfl ?_)
  refine WL.ev (Ev.ext rfl (ext30 _ _)) rfl ?_
  refine za rfl (zz (kh8 (zc fun _ kh10 => Sr fun _ kh11 => zm rfl ?_)))
  refine WL.ev (Ev.shr rfl rfl (by omega)) rfl ?_
  refine zq rfl rfl (zz (kh11 ?_))
  refine CW.cond rfl (fun hc2 => ?_) (fun hc2 => ?_)
  ·
   simp only [decide_eq_true_eq, decide_eq_false_iff_not] at hc2
   refine Sr fun _ kh13 => zm rfl ?_
   refine WL.ev (Ev.andNot rfl rfl) rfl ?_
   refine WL.ev (Ev.conv rfl rfl) rfl ?_
   refine WL.ev (Ev.compl rfl) rfl ?_
   refine za rfl (zz (kh13 ?_))
   refine CW.ret ?_
   refine bodyA.ret1 rfl rfl ?_
   exact ⟨by rw [key_neg b hb hc1 hc2], rfl⟩
  ·
   simp only [decide_eq_true_eq, decide_eq_false_iff_not] at hc2
   refine CW.skip ?_
   refine kh10 (Sr fun _ kh15 => zm rfl ?_)
   refine WL.ev (Ev.conv rfl rfl) rfl ?_
   refine za rfl (zz (kh15 ?_))
   refine CW.ret ?_
   refine bodyA.ret1 rfl rfl ?_
   exact ⟨by rw [key_pos b hb hc1 hc2], rfl⟩

theorem bits_Order_spec (a b : Nat) (ha : a < 18446744073709551616) (hb : b < 18446744073709551616) (w : World) : Ret Tryz.prog 53 [.float .f64 a, .float .f64 b] w fun v w' => v = .int .i64 (cmpI (key a) (key b)) ∧ w = w' := by
 refine Ret.enter Tryz.func53 rfl rfl ?_
 refine Sr fun _ kh1 => za rfl (zz (kh1 (Sr fun _ kh3 => zm rfl ?_)))
 refine WL.call hasF89 rfl rfl (bits_key_spec _ ha _) fun v w1 h => ?_
 obtain ⟨rfl, rfl⟩ := h
 refine zm rfl ?_
 refine WL.call hasF89 rfl rfl (bits_key_spec _ hb _) fun v w2 h => ?_
 obtain ⟨rfl, rfl⟩ := h
 refine za rfl (za rfl (zz (kh3 (zc fun _ kh5 => ?_))))
 refine CW.block ?_
 refine Sr fun _ kh6 => zm rfl (zm rfl ?_)
 refine WL.ev (Ev.lss rfl rfl) rfl ?_
 refine za rfl (zz (kh6 ?_))
 refine CW.cond rfl (fun hc1 => ?_) (fun hc1 => ?_)
 ·
  simp only [decide_eq_true_eq, decide_eq_false_iff_not, Decidable.not_not, Bool.and_eq_true, Bool.or_eq_true, Bool.not_eq_true', ne_eq, Int.not_lt, Int.not_le] at hc1
  refine Sr fun _ kh8 => za rfl (zz (kh8 ?_))
  refine CW.ret ?_
  refine bodyA.ret1 rfl rfl ?_
  exact ⟨by rw [cmpI, if_pos hc1], rfl⟩
 ·
  simp only [decide_eq_true_eq, decide_eq_false_iff_not, Decidable.not_not, Bool.and_eq_true, Bool.or_eq_true, Bool.not_eq_true', ne_eq, Int.not_lt, Int.not_le] at hc1
  refine Sr fun _ kh10 => zm rfl (zm rfl ?_)
  refine WL.ev (Ev.gtr rfl rfl) rfl ?_
  refine za rfl (zz (kh10 ?_))
  refine CW.cond rfl (fun hc2 => ?_) (fun hc2 => ?_)
  ·
   simp only [decide_eq_true_eq, decide_eq_false_iff_not, Decidable.not_not, Bool.and_eq_true, Bool.or_eq_true, Bool.not_eq_true', ne_eq, Int.not_lt, Int.not_le] at hc2
   refine Sr fun _ kh12 => za rfl (zz (kh12 ?_))
   refine CW.ret ?_
   refine bodyA.ret1 rfl rfl ?_
   exact ⟨by rw [cmpI, if_neg (by omega), if_pos hc2], rfl⟩
  ·
   simp only [decide_eq_true_eq, decide_eq_false_iff_not, Decidable.not_not, Bool.and_eq_true, Bool.or_eq_true, Bool.not_eq_true', ne_eq, Int.not_lt, Int.not_le] at hc2
   refine CW.skip ?_
   refine kh5 (Sr fun _ kh14 => za rfl (zz (kh14 ?_)))
   refine CW.ret ?_
   refine bodyA.ret1 rfl rfl ?_
   exact ⟨by rw [cmpI, if_neg (by omega), if_neg (by omega)], rfl⟩

end Go.Proofs.YtbdkecpalhpmdaaGreatDoor

/- slices.SortFunc over numbers by the numbers' order: the row holds the numbers in order. No condition but that each number has 64 bits. -/
namespace Go.Proofs.YtbdkecpalhpmdaaGreatDoor
open Go Sx Fl Go.Sort Go.Shelf

abbrev F64 := {b : Nat // b < 18446744073709551616}
instance f64Inh : Inhabited F64 := ⟨⟨0, by decide⟩⟩
def encF (x : F64) : Value := .float .f64 x.1
def cfF (x y : F64) : Int := cmpI (key x.1) (key y.1)
theorem ltF (x y : F64) : ltOf cfF x y = decide (key x.1 < key y.1) := by
  unfold ltOf cfF cmpI
  by_cases h1 : key x.1 < key y.1
  · simp [h1]
  · by_cases h2 : key y.1 < key x.1 <;> simp [h1, h2]
theorem swoF : SWO (ltOf cfF) where
  irrefl x := by rw [ltF]; simp
  trans x y z h1 h2 := by rw [ltF] at *; simp at *; omega
  ntrans x y z h1 h2 := by rw [ltF] at *; simp at *; omega
theorem cmpLaysF (blk off size : Nat) (w : World) : CmpLays1 Tryz.prog 53 #[] encF cfF blk off size w := fun _ _ _ _ x y =>
  Calls.mono (bits_Order_spec _ _ x.2 y.2 _) fun e w' ⟨v, he, hv, hw⟩ => ⟨by rw [he, hv]; rfl, 0, #[], by rw [grow_empty]; exact hw.symm⟩
def f64s (l : List Nat) (h : ∀ p ∈ l, p < 18446744073709551616) : List F64 := l.attach.map fun x => ⟨x.1, h x.1 x.2⟩
theorem f64s_val (l : List Nat) (h : ∀ p ∈ l, p < 18446744073709551616) : (f64s l h).map (·.1) = l := by
  unfold f64s
  rw [List.map_map]
  exact List.attach_map_subtype_val l
theorem f64s_get {l : List Nat} {h : ∀ p ∈ l, p < 18446744073709551616} {j : Nat} (hj : j < l.length) : encF ((f64s l h).toArray[j]!) = f64v (l[j]'hj) := by
  have hl : j < (f64s l h).toArray.size := by simpa [f64s] using hj
  rw [getElem!_pos _ j hl]
  simp [f64s, encF, f64v]
theorem sortWorldF_heap {w : World} {blk n : Nat} {d : Array F64} {os : Array Obj} {cur : Array Value} {T : TypeId} (h : w.heap[blk]? = some (.cells cur T (0, 0))) :
    Chg [blk] w (sortWorld encF w blk 0 n d os) ∧ (sortWorld encF w blk 0 n d os).heap[blk]? = some (.cells (putCells encF 0 d cur) T (0, 0)) := by
  have hlt := lt_of_heap h
  unfold sortWorld grow putRow mapBlock Go.Sort.ahead
  refine ⟨⟨rfl, rfl, rfl, by simp, fun k hk hn => ?_⟩, ?_⟩
  · simp only [List.mem_singleton] at hn
    rw [Array.getElem?_append_left (by simpa using hk), Array.getElem?_modify, if_neg (fun e => hn e.symm)]
  · rw [Array.getElem?_append_left (by simpa using hlt), Array.getElem?_modify, if_pos rfl, h]; rfl
/-- THE SORT: a row of one's own comes in order. -/
theorem sortF_spec (w : World) (v : Value) (l : List Nat) (lo : Nat) (X : List Nat) (hl : ∀ p ∈ l, p < 18446744073709551616) (hne : l ≠ []) (hsz : l.length < 4611686018427387904) (hown : GR w 24 f64v lo X v l) :
    Ret Tryz.prog 52 [v, .func (.func 53) #[] #[]] w fun u w' =>
      ∃ l' : List Nat, l'.Perm l ∧ Srt l' ∧ Chg v.ownBlock.toList w w' ∧ GR w' 24 f64v lo X v l' := by
  obtain ⟨blk, cap, cur, rfl, hheap, hnc, hcm, hcs, htake, hlo, hX⟩ := hown.own hne
  have hd : (f64s l hl).toArray.size = l.length := by simp [f64s]
  have hblk := lt_of_heap hheap
  have hH : Holds encF w blk 0 (f64s l hl).toArray := by
    intro j hj
    have hj' : j < l.length := by rw [← hd]; exact hj
    refine ⟨?_, by rw [Nat.zero_add]; exact frozen_no hheap⟩
    rw [Nat.zero_add, cell_at' hheap, f64s_get hj']
    have : cur.toList[j]? = (l.map f64v)[j]? := by
      rw [← htake, List.getElem?_take, if_pos (by omega)]
    rw [← Array.getElem?_toList, this]
    simp [hj']
  have eg : ∀ args w, (callFunc 53 args).run Tryz.prog w = .ok (.enter 53 args) w := fun args w => HasF.run hasF53 args
  have hcon := Any.slices_SortFunc Tryz.laySortLayF encF (fun x => rfl) cfF swoF 53 #[] blk 0 cap (f64s l hl).toArray w eg (cmpLaysF blk 0 _ w) hH hblk (by rw [hd]; exact hsz)
  rw [hd] at hcon
  refine Calls.mono hcon fun e w' ⟨he, d', n, os, hp, hs, hw⟩ => ⟨_, he, ?_⟩
  obtain ⟨hps, _, hpp⟩ := hp
  have hsz' : d'.size = l.length := by rw [hps, hd]
  have hperm : d'.toList.Perm (f64s l hl) := by
    have e1 : d'.extract 0 l.length = d' := by rw [← hsz']; simp
    have e2 : (f64s l hl).toArray.extract 0 l.length = (f64s l hl).toArray := by rw [← hd]; simp
    rw [e1, e2] at hpp
    exact hpp
  subst hw
  obtain ⟨hc, hh⟩ := sortWorldF_heap (n := n) (d := d') (os := os) hheap
  have hlen : (d'.toList.map (·.1)).length = l.length := by simp [hsz']
  refine ⟨d'.toList.map (·.1), ?_, ?_, hc, ?_⟩
  · have := hperm.map Subtype.val
    rw [f64s_val] at this
    exact this
  · unfold Srt
    rw [List.pairwise_iff_getElem]
    intro i j hi hj hij
    have := hs i j (Nat.zero_le _) hij (by simpa [hsz'] using hj)
    rw [ltF] at this
    have hi' : i < d'.size := by simpa using hi
    have hj' : j < d'.size := by simpa using hj
    rw [getElem!_pos d' i hi', getElem!_pos d' j hj'] at this
    simp at this
    simpa using this
  · refine ⟨⟨by simp, .inr ⟨blk, cap, _, ?_, Nat.zero_le _, hh, ?_, hcm, ?_, ?_⟩⟩, fun b hb => ?_⟩
    · rw [hlen]
    · rw [hlen]; exact hnc
    · simp [putCells, hcs]
    · rw [hlen, Nat.mul_one]
      apply List.ext_getElem?
      intro i
      rw [List.getElem?_take]
      by_cases hi : i < l.length
      · rw [if_pos hi]
        have hi' : i < d'.size := by rw [hsz']; exact hi
        have hc' : i < cur.size := by rw [hcs]; exact Nat.lt_of_lt_of_le hi hnc
        simp [putCells, hi', hc', encF, f64v]
      · rw [if_neg hi, List.getElem?_eq_none (by rw [List.length_map, hlen]; omega)]
    · cases hb; exact ⟨hlo, hX⟩
end Go.Proofs.YtbdkecpalhpmdaaGreatDoor

/- Package mean: Trimmed. No condition. -/
namespace Go.Proofs.YtbdkecpalhpmdaaGreatDoor
open Go Sx Wd Fl

end Go.Proofs.YtbdkecpalhpmdaaGreatDoor

/- Package quant: what is refused, lists in order. No condition. -/
namespace Go.Proofs.YtbdkecpalhpmdaaGreatDoor
open Go Sx Wd Fl

structure KRf (l : List Nat) (w0 : World) (i : Nat) (w : World) : Prop where
  hi : i ≤ l.length
  f : finL (l.take i)
  ch : Chg [] w0 w

set_option maxRecDepth 8000 in
set_option maxHeartbeats 4000000 in
theorem refused_spec (v : Value) (l : List Nat) (w : World) (hv : NF w v l) : Ret Tryz.prog 27 [v] w fun u w' => u = .int .i64 (refuseE l) ∧ Chg [] w w' := by
 have hv0 := hv
 obtain ⟨⟨al, cl, rfl, hcapl, hrl⟩, hWl, hll⟩ := hv
 have hch : Chg [] w w := Chg.refl _ _
 refine Ret.enter Tryz.func27 rfl rfl ?_
 simp only [args0, Nat.zero_add, Nat.reduceAdd]
 refine Sr fun _ kh1 => za rfl (zz (kh1 (zc fun _ kh3 => Sr fun _ kh4 => zm rfl (zn rfl ?_))))
 refine WL.ev (Ev.gtr rfl rfl) rfl ?_
 refine zz (kh4 ?_)
 refine CW.cond rfl (fun hc1 => ?_) (fun hc1 => ?_)
 ·
  try simp only [qs] at hc1
  have hlong : 65536 < l.length := by omega
  refine Sr fun _ kh6 => za rfl (zz (kh6 ?_))
  refine CW.ret ?_
  refine bodyA.ret1 rfl rfl ?_
  refine ⟨?_, hch⟩
  unfold refuseE
  rw [if_pos hlong]
 ·
  try simp only [qs] at hc1
  have hlong : ¬ 65536 < l.length := by omega
  refine CW.skip ?_
  refine kh3 (zc fun _ kh8 => Sr fun _ kh9 => zm rfl (zn rfl (zm rfl (zz (kh9 ?_)))))
  refine CW.block ?_
  refine CW.loop (S := fun i : Nat => [(0, .slice al l.length cl), (8, .int .i64 (l.length : Int)), (9, .int .i64 (i : Int))]) (Inv := KRf l w) (mu := fun i => l.length - i) (0) ?_ ?_ ?_
  ·
   exact ⟨Nat.zero_le _, fun x hx => (by simp at hx), hch⟩
  ·
   exact SLp
  ·
   rintro i wr ⟨hi, hf, hch⟩
   refine Sr fun _ kh11 => ?_
   refine WL.ev (Ev.lss rfl rfl) rfl ?_
   refine zz (kh11 (zc fun _ kh13 => ?_))
   refine CW.cond rfl (fun hc2 => ?_) (fun hc2 => ?_)
   ·
    try simp only [qs] at hc2
    have hx := D_getD hWl i
    refine CW.skip ?_
    refine kh13 (zc fun _ kh14 => ?_)
    refine CW.block ?_
    refine Sr fun _ kh15 => zm rfl (za rfl (zz (kh15 (Sr fun _ kh17 => zm rfl (zm rfl ?_)))))
    refine WL.ev (Ev.ixR (i) rfl rfl (hrl.keep0 hch) (by omega) (by omega) (by simp; omega)) rfl ?_
    refine WL.ev (Ev.load rfl rfl ((hrl.keep0 hch).f64 (by first | omega | (simp; omega)))) rfl ?_
    refine WL.call hasF48 rfl rfl (Class_spec (l.getD i 0) _ hx) fun v w1 h' => ?_
    obtain ⟨rfl, hC⟩ := h'
    have hch := hch.trans (Chg.any hC)
    refine WL.ev (Ev.gtr rfl rfl) rfl ?_
    refine zz (kh17 ?_)
    refine CW.cond rfl (fun hc3 => ?_) (fun hc3 => ?_)
    ·
     try simp only [qs] at hc3
     have hnf : ¬ finL l := fun q => by have := finL_getD2 q (i := i) (by omega); omega
     refine Sr fun _ kh19 => za rfl (zz (kh19 ?_))
     refine CW.ret ?_
     refine bodyA.ret1 rfl rfl ?_
     refine ⟨?_, hch⟩
     unfold refuseE
     rw [if_neg hlong, if_pos hnf]
    ·
     try simp only [qs] at hc3
     refine CW.skip ?_
     refine kh14 ?_
     refine CW.region fun kR21 kr21 => ?_
     first | refine WL.ev (Ev.addIn rfl rfl (by omega)) rfl ?_ | refine WL.ev (Ev.add rfl rfl) rfl ?_
     refine zm rfl ?_
     refine WL.nil (kr21 _ _ _ ?_)
     refine ⟨rfl, i + 1, ?_, ?_, ?_⟩
     ·
      exact SLp
     ·
      exact ⟨by omega, (finL_step (by omega)).2 ⟨hf, by omega⟩, hch⟩
     ·
      show l.length - (i + 1) < l.length - i; omega
   ·
    try simp only [qs] at hc2
    have hiX : i = l.length := by omega
    subst hiX
    rw [List.take_length] at hf
    refine CW.exit ?_
    refine kh8 (zc fun _ kh22 => Sr fun _ kh23 => zm rfl (zn rfl (zq rfl rfl (zz (kh23 ?_)))))
    refine CW.cond rfl (fun hc4 => ?_) (fun hc4 => ?_)
    ·
     try simp only [qs] at hc4
     have h0 : l = [] := List.length_eq_zero_iff.1 (by omega)
     refine Sr fun _ kh25 => za rfl (zz (kh25 ?_))
     refine CW.ret ?_
     refine bodyA.ret1 rfl rfl ?_
     refine ⟨?_, hch⟩
     unfold refuseE
     rw [if_neg hlong, if_neg (fun q => q hf), if_pos h0]
    ·
     try simp only [qs] at hc4
     have h0 : l ≠ [] := fun q => by rw [q] at hc4; exact hc4 rfl
     refine CW.skip ?_
     refine kh22 (Sr fun _ kh27 => za rfl (zz (kh27 ?_)))
     refine CW.ret ?_
     refine bodyA.ret1 rfl rfl ?_
     refine ⟨?_, hch⟩
     unfold refuseE
     rw [if_neg hlong, if_neg (fun q => q hf), if_neg h0]

set_option maxRecDepth 8000 in
set_option maxHeartbeats 4000000 in
theorem qsorted_spec (v : Value) (l : List Nat) (w : World) (hv : NF w v l) (hl : l.length ≤ 65536) (hf : finL l) (hne : l ≠ []) : Ret Tryz.prog 29 [v] w fun u w' => GR w' 24 f64v w.heap.size [] u (sortP l) ∧ Chg [] w w' := by
 have hv0 := hv
 obtain ⟨⟨al, cl, rfl, hcapl, hrl⟩, hWl, hll⟩ := hv
 have hch : Chg [] w w := Chg.refl _ _
 refine Ret.enter Tryz.func29 rfl rfl ?_
 simp only [args0, Nat.zero_add, Nat.reduceAdd]
 refine Sr fun _ kh1 => za rfl (zz (kh1 (Sr fun _ kh3 => zm rfl ?_)))
 refine WL.call hasF51 rfl rfl (CloneF_spec _ l _ (hv0.keep0 hch) (by omega)) fun v w1 h' => ?_
 obtain ⟨hgc, hC⟩ := h'
 have hch := hch.trans (Chg.any hC)
 refine za rfl (zz (kh3 (Sr fun _ kh5 => zm rfl ?_)))
 refine WL.call hasF52 rfl rfl (sortF_spec _ v l _ _ hWl hne (by omega) hgc) fun v w2 h' => ?_
 obtain ⟨ls, hperm, hsrt, hcs, hgs⟩ := h'
 have hch := GR.frame hgc hcs hch (Nat.le_refl _)
 have hls : ls = sortP l := sortP_eq hperm hsrt (finL_nums hf hWl)
 subst hls
 refine zz (kh5 (Sr fun _ kh7 => zm rfl (za rfl (zz (kh7 ?_)))))
 refine CW.ret ?_
 refine bodyA.ret1 rfl rfl ?_
 exact ⟨hgs, hch⟩

set_option maxRecDepth 8000 in
set_option maxHeartbeats 4000000 in
theorem qmay_spec (rule mode : Int) (w : World) : Ret Tryz.prog 26 [.int .i64 rule, .int .i64 mode] w fun u w' => u = .bool (decide ((0 ≤ mode ∧ mode ≤ 4) ∧ (0 ≤ rule ∧ rule ≤ 4))) ∧ w = w' := by
 refine Ret.enter Tryz.func26 rfl rfl ?_
 simp only [args0, Nat.zero_add, Nat.reduceAdd]
 refine Sr fun _ kh1 => za rfl (zz (kh1 (Sr fun _ kh3 => zm rfl ?_)))
 refine WL.ev (Ev.geq rfl rfl) rfl ?_
 refine zm rfl ?_
 refine WL.boolCase (fun hg1 => ?_) (fun hg1 => ?_)
 ·
  try simp only [qs] at hg1
  refine zw rfl (zm rfl (zw rfl ?_))
  refine WL.ev (Ev.leq rfl rfl) rfl ?_
  refine zt rfl rfl (zm rfl ?_)
  refine WL.boolCase (fun hg2 => ?_) (fun hg2 => ?_)
  ·
   try simp only [qs] at hg2
   refine zw rfl (zm rfl (zw rfl ?_))
   refine WL.ev (Ev.geq rfl rfl) rfl ?_
   refine zt rfl rfl (zm rfl ?_)
   refine WL.boolCase (fun hg3 => ?_) (fun hg3 => ?_)
   ·
    try simp only [qs] at hg3
    refine zw rfl (zm rfl (zw rfl ?_))
    refine WL.ev (Ev.leq rfl rfl) rfl ?_
    refine zt rfl rfl (za rfl (zz (kh3 ?_)))
    refine CW.ret ?_
    refine bodyA.ret1 rfl rfl ?_
    refine ⟨congrArg Value.bool ?_, rfl⟩
    first | exact (decide_eq_true (by omega)).symm | exact (decide_eq_false (by omega)).symm | exact decide_eq_decide.2 (by omega)
   ·
    try simp only [qs] at hg3
    refine zv rfl (zv rfl (ze rfl rfl (za rfl (zz (kh3 ?_)))))
    refine CW.ret ?_
    refine bodyA.ret1 rfl rfl ?_
    refine ⟨congrArg Value.bool ?_, rfl⟩
    first | exact (decide_eq_true (by omega)).symm | exact (decide_eq_false (by omega)).symm | exact decide_eq_decide.2 (by omega)
  ·
   try simp only [qs] at hg2
   refine zv rfl (zv rfl (ze rfl rfl (zm rfl (zv rfl (zv rfl (ze rfl rfl (za rfl (zz (kh3 ?_)))))))))
   refine CW.ret ?_
   refine bodyA.ret1 rfl rfl ?_
   refine ⟨congrArg Value.bool ?_, rfl⟩
   first | exact (decide_eq_true (by omega)).symm | exact (decide_eq_false (by omega)).symm | exact decide_eq_decide.2 (by omega)
 ·
  try simp only [qs] at hg1
  refine zv rfl (zv rfl (ze rfl rfl (zm rfl (zv rfl (zv rfl (ze rfl rfl (zm rfl (zv rfl (zv rfl (ze rfl rfl (za rfl (zz (kh3 ?_)))))))))))))
  refine CW.ret ?_
  refine bodyA.ret1 rfl rfl ?_
  refine ⟨congrArg Value.bool ?_, rfl⟩
  first | exact (decide_eq_true (by omega)).symm | exact (decide_eq_false (by omega)).symm | exact decide_eq_decide.2 (by omega)

end Go.Proofs.YtbdkecpalhpmdaaGreatDoor

/- Equality of numbers' parts. No condition. -/
namespace Go.Proofs.YtbdkecpalhpmdaaGreatDoor
open Go Sx

theorem fieldsOf_of {P : Program} {t : TypeId} {fs : Array Field} (h : P.underlying t = some (.struct fs)) : P.fieldsOf t = fs := by unfold Program.fieldsOf; rw [h]
theorem run_eqParts (n1 n2 : Bool) (c1 c2 e1 e2 f1 f2 : Int) (w : World) : (Op.equalIn 10000 76 (.agg [.bool n1, .int .i64 c1, .int .i64 e1, .int .u64 f1].toArray) (.agg [.bool n2, .int .i64 c2, .int .i64 e2, .int .u64 f2].toArray)).run Tryz.prog w = .ok (n1 == n2 && (c1 == c2 && (e1 == e2 && f1 == f2))) w := by
  have hu := Tryz.underlying76
  have hf := fieldsOf_of hu
  have ht : Tryz.prog.underlying 76 = some (.struct (Program.fieldsOf Tryz.prog 76)) := by rw [hf]; exact hu
  rw [run_equalIn_struct w 9999 _ _ _ ht (by kernel_rfl), hf]
  have b1 : (isAgg 4).run Tryz.prog w = .ok false w := (inferInstance : HasT Tryz.prog 4 _ _ _ _).isAgg
  have b2 : (isAgg 3).run Tryz.prog w = .ok false w := (inferInstance : HasT Tryz.prog 3 _ _ _ _).isAgg
  have b3 : (isAgg 54).run Tryz.prog w = .ok false w := (inferInstance : HasT Tryz.prog 54 _ _ _ _).isAgg
  have q1 : ∀ a b : Bool, (Op.equalIn 9999 4 (.bool a) (.bool b)).run Tryz.prog w = .ok (a == b) w := fun a b => run_equalIn_bool' w 9998 _ a b Tryz.underlying4
  have q2 : ∀ a b : Int, (Op.equalIn 9999 3 (.int .i64 a) (.int .i64 b)).run Tryz.prog w = .ok (a == b) w := fun a b => run_equalIn_int w 9998 _ .i64 .i64 a b Tryz.underlying3
  have q3 : ∀ a b : Int, (Op.equalIn 9999 54 (.int .u64 a) (.int .u64 b)).run Tryz.prog w = .ok (a == b) w := fun a b => run_equalIn_int w 9998 _ .u64 .u64 a b Tryz.underlying54
  cases h1 : (n1 == n2) <;> cases h2 : (c1 == c2) <;> cases h3 : (e1 == e2) <;> cases h4 : (f1 == f2) <;> simp [Op.eqFields, part, b1, b2, b3, q1, q2, q3, h1, h2, h3, h4]
theorem Ev.eqlParts {s : Sl} {w : World} {ty t' : TypeId} {x y : Operand} {n1 n2 : Bool} {c1 c2 e1 e2 f1 f2 : Int} (hx : opnd s x = some (.agg [.bool n1, .int .i64 c1, .int .i64 e1, .int .u64 f1].toArray)) (hy : opnd s y = some (.agg [.bool n2, .int .i64 c2, .int .i64 e2, .int .u64 f2].toArray)) :
    Ev Tryz.prog s (.binOp .eql 76 x y t') ty w (.bool (n1 == n2 && (c1 == c2 && (e1 == e2 && f1 == f2)))) w :=
  run_bin hx hy (fun _ _ => run_eqGuard_agg _ _ _ _ _ _ _ (by kernel_rfl)) (by rw [run_eql_struct, run_eqParts]; rfl)
end Go.Proofs.YtbdkecpalhpmdaaGreatDoor

/- Package dyad: Of. No condition. -/
namespace Go.Proofs.YtbdkecpalhpmdaaGreatDoor
open Go Sx Wd Fl

theorem parts_eq (n b : Bool) (c f : Nat) (e : Int) : (n == b && ((c : Int) == 0 && (e == e && (f : Int) == 0))) = ((n == b) && decide (c = 0 ∧ f = 0)) := by
  have h1 : ((c : Int) == 0) = decide (c = 0) := by rw [Bool.eq_iff_iff]; simp
  have h2 : ((f : Int) == 0) = decide (f = 0) := by rw [Bool.eq_iff_iff]; simp
  rw [h1, h2, beq_self_eq_true, Bool.true_and, Bool.decide_and]
theorem cls0_frac {x : Nat} : (splitP x).cls = 0 → (splitP x).frac = 0 := by
  unfold splitP
  by_cases a : x / 4503599627370496 % 2048 = 2047 ∧ x % 4503599627370496 ≠ 0
  · rw [if_pos a]; simp
  · rw [if_neg a]
    by_cases b : x / 4503599627370496 % 2048 = 2047
    · rw [if_pos b]; simp
    · rw [if_neg b]
      by_cases d : 0 < x / 4503599627370496 % 2048
      · rw [if_pos d]; simp
      · rw [if_neg d]
        by_cases f : 0 < x % 4503599627370496
        · rw [if_pos f]; simp
        · rw [if_neg f]; simp
theorem splitP_frac (x : Nat) : (splitP x).frac < 9007199254740992 := by
  unfold splitP
  split
  · simp
  · split
    · simp
    · split
      · dsimp only; omega
      · split
        · dsimp only; omega
        · simp
theorem splitP_range (x : Nat) : -5000 ≤ (splitP x).exp ∧ (splitP x).exp ≤ 5000 := by
  unfold splitP
  split
  · simp
  · split
    · simp
    · split
      · dsimp only; omega
      · split
        · dsimp only; omega
        · simp

set_option maxRecDepth 8000 in
set_option maxHeartbeats 4000000 in
theorem dOf_spec (x : Nat) (w : World) (hx : x < 18446744073709551616) (hg : GW w) : Ret Tryz.prog 44 [.float .f64 x] w fun u w' => (((splitP x).cls ≤ 2 ∧ ∃ r, u = .tuple [.agg [.bool (sumD (fvI x)).neg, r, .int .i64 (sumD (fvI x)).e].toArray, .int .i64 0].toArray ∧ NU w' r (wd (sumD (fvI x)).m)) ∨ (¬ (splitP x).cls ≤ 2 ∧ u = .tuple [.agg [.bool false, .slice none 0 0, .int .i64 0].toArray, .int .i64 30].toArray)) ∧ Chg [] w w' := by
 have hch : Chg [] w w := Chg.refl _ _
 refine Ret.enter Tryz.func44 rfl rfl ?_
 simp only [args0, Nat.zero_add, Nat.reduceAdd]
 refine Sr fun _ kh1 => ?_
 refine WL.allocB (l := [.bool false, .slice none 0 0, .int .i64 0]) rfl rfl fun b2 wm2 hb2 hcm2 hge2 => ?_
 have hgehch2 := Nat.le_trans hch.size hge2
 have hch := hch.trans (Chg.any hcm2)
 refine za rfl (zz (kh1 (Sr fun _ kh3 => zm rfl ?_)))
 refine WL.call hasF67 rfl rfl (Split_spec x _ hx) fun v w1 h' => ?_
 obtain ⟨rfl, hC⟩ := h'
 have hch := hch.trans (Chg.any hC)
 have hb2 := hb2.keep0 hC
 refine WL.allocB (l := [.bool false, .int .i64 0, .int .i64 0, .int .u64 0]) rfl rfl fun b4 wm4 hb4 hcm4 hge4 => ?_
 have hgehch4 := Nat.le_trans hch.size hge4
 have hch := hch.trans (Chg.any hcm4)
 have hneb24 : b2 ≠ b4 := by have := hb2.lt; omega
 have hb2 := hb2.keep0 hcm4
 refine WL.storeB rfl rfl rfl ao hb4 (by simp) rfl fun ws1 hb4_ hcs1 => ?_
 try simp only [Sx.splice, qt] at hb4_
 have hch := hch.s1 hcs1
 have hb2 := hb2.keep hcs1 (by simp; omega)
 have hb4 := hb4_
 refine zz (kh3 (Sr fun _ kh5 => zf rfl (zl hb4 rfl rfl ?_)))
 refine WL.ev (Ev.build (vs := _) (cs := [_, _, _, _]) rfl rfl) rfl ?_
 refine WL.allocB (l := [.bool false, .int .i64 0, .int .i64 0, .int .u64 0]) rfl rfl fun b5 wm5 hb5 hcm5 hge5 => ?_
 have hgehch5 := Nat.le_trans hch.size hge5
 have hch := hch.trans (Chg.any hcm5)
 have hneb25 : b2 ≠ b5 := by have := hb2.lt; omega
 have hb2 := hb2.keep0 hcm5
 have hneb45 : b4 ≠ b5 := by have := hb4.lt; omega
 have hb4 := hb4.keep0 hcm5
 refine WL.storeB rfl rfl rfl ao hb5 (by simp) rfl fun ws2 hb5_ hcs2 => ?_
 try simp only [Sx.splice, qt] at hb5_
 have hch := hch.s1 hcs2
 have hb2 := hb2.keep hcs2 (by simp; omega)
 have hb4 := hb4.keep hcs2 (by simp; omega)
 have hb5 := hb5_
 refine zz (kh5 (Sr fun _ kh7 => zg hb5 rfl ?_))
 refine WL.allocB (l := [.bool false, .int .i64 0, .int .i64 0, .int .u64 0]) rfl rfl fun b6 wm6 hb6 hcm6 hge6 => ?_
 have hgehch6 := Nat.le_trans hch.size hge6
 have hch := hch.trans (Chg.any hcm6)
 have hneb26 : b2 ≠ b6 := by have := hb2.lt; omega
 have hb2 := hb2.keep0 hcm6
 have hneb46 : b4 ≠ b6 := by have := hb4.lt; omega
 have hb4 := hb4.keep0 hcm6
 have hneb56 : b5 ≠ b6 := by have := hb5.lt; omega
 have hb5 := hb5.keep0 hcm6
 refine WL.storeB rfl rfl rfl ao hb6 (by simp) rfl fun ws3 hb6_ hcs3 => ?_
 try simp only [Sx.splice, qt] at hb6_
 have hch := hch.s1 hcs3
 have hb2 := hb2.keep hcs3 (by simp; omega)
 have hb4 := hb4.keep hcs3 (by simp; omega)
 have hb5 := hb5.keep hcs3 (by simp; omega)
 have hb6 := hb6_
 refine zz (kh7 (Sr fun _ kh9 => zf rfl ?_))
 refine WL.storeC rfl rfl o1 hb6 (by simp) rfl fun ws4 hb6_ hcs4 => ?_
 try simp only [Sx.splice, qt] at hb6_
 have hch := hch.s1 hcs4
 have hb2 := hb2.keep hcs4 (by simp; omega)
 have hb4 := hb4.keep hcs4 (by simp; omega)
 have hb5 := hb5.keep hcs4 (by simp; omega)
 have hb6 := hb6_
 refine zz (kh9 (zc fun _ kh11 => ?_))
 refine CW.block ?_
 refine CW.seqM 14 (decide ((splitP x).cls = 3 ∨ (splitP x).cls = 4)) ?_ ?_
 ·
  refine CW.region fun kR12 kr12 => ?_
  refine zf rfl (zl hb4 rfl rfl (zq rfl rfl (zm rfl ?_)))
  refine WL.boolCase (fun hg1 => ?_) (fun hg1 => ?_)
  ·
   try simp only [qs] at hg1
   refine zv rfl (zv rfl (zv rfl (zt rfl rfl (za rfl ?_))))
   refine WL.nil (kr12 _ _ _ ?_)
   refine ⟨rfl, rfl, Subs.consB rfl ?_ ?_⟩
   ·
    first | (simp; omega) | (simp_all; done) | (refine decide_eq_decide.2 ?_; omega)
   ·
    exact SMg
  ·
   try simp only [qs] at hg1
   refine zw rfl (zf rfl (zw rfl (zl hb4 rfl rfl (zw rfl (zq rfl rfl (ze rfl rfl (za rfl ?_)))))))
   refine WL.nil (kr12 _ _ _ ?_)
   refine ⟨rfl, rfl, Subs.consB rfl ?_ ?_⟩
   ·
    first | (simp; omega) | (simp_all; done) | (refine decide_eq_decide.2 ?_; omega)
   ·
    exact SMg
 ·
  refine CW.cond rfl (fun hc2 => ?_) (fun hc2 => ?_)
  ·
   try simp only [qs] at hc2
   have hodd : ¬ (splitP x).cls ≤ 2 := by have := hc2; omega
   refine Sr fun _ kh13 => ?_
   refine WL.ev (Ev.build (vs := _) (cs := [_, _, _]) rfl rfl) rfl ?_
   refine WL.storeB rfl rfl rfl ao hb2 (by simp) rfl fun ws5 hb2_ hcs5 => ?_
   try simp only [Sx.splice, qt] at hb2_
   have hch := hch.s1 hcs5
   have hb4 := hb4.keep hcs5 (by simp; omega)
   have hb5 := hb5.keep hcs5 (by simp; omega)
   have hb6 := hb6.keep hcs5 (by simp; omega)
   have hb2 := hb2_
   refine za rfl (zz (kh13 ?_))
   refine CW.ret ?_
   refine bodyA.retR2 rfl (RVal.cell rfl (hb2.varA rfl rfl)) (RVal.tmp rfl) ?_
   exact ⟨.inr ⟨hodd, rfl⟩, hch⟩
  ·
   try simp only [qs] at hc2
   have hfx : (splitP x).cls ≤ 2 := by have := hc2; have := splitP_cls x; omega
   refine CW.seqM 24 (decide ((splitP x).cls = 0 ∧ (splitP x).frac = 0)) ?_ ?_
   ·
    refine CW.region fun kR15 kr15 => ?_
    refine zg hb4 rfl (zg hb5 rfl ?_)
    refine WL.ev (Ev.eqlParts rfl rfl) rfl ?_
    rw [parts_eq]
    refine zm rfl ?_
    refine WL.boolCase (fun hg3 => ?_) (fun hg3 => ?_)
    ·
     try simp only [qs] at hg3
     refine zv rfl (zv rfl (zv rfl (zt rfl rfl (za rfl ?_))))
     refine WL.nil (kr15 _ _ _ ?_)
     refine ⟨rfl, rfl, Subs.consB rfl ?_ ?_⟩
     ·
      generalize (splitP x).neg = nn at *
      by_cases hP : (splitP x).cls = 0 ∧ (splitP x).frac = 0
      · (try rw [decide_eq_true hP] at *) <;> cases nn <;> simp_all
      · (try rw [decide_eq_false hP] at *) <;> cases nn <;> simp_all
     ·
      exact SMg
    ·
     try simp only [qs] at hg3
     refine zw rfl (zg hb4 rfl (zw rfl (zg hb6 rfl (zw rfl ?_))))
     refine WL.ev (Ev.eqlParts rfl rfl) rfl ?_
     rw [parts_eq]
     refine ze rfl rfl (za rfl ?_)
     refine WL.nil (kr15 _ _ _ ?_)
     refine ⟨rfl, rfl, Subs.consB rfl ?_ ?_⟩
     ·
      generalize (splitP x).neg = nn at *
      by_cases hP : (splitP x).cls = 0 ∧ (splitP x).frac = 0
      · (try rw [decide_eq_true hP] at *) <;> cases nn <;> simp_all
      · (try rw [decide_eq_false hP] at *) <;> cases nn <;> simp_all
     ·
      exact SMg
   ·
    refine CW.cond rfl (fun hc4 => ?_) (fun hc4 => ?_)
    ·
     try simp only [qs] at hc4
     have hq : (splitP x).cls = 0 ∧ (splitP x).frac = 0 := hc4
     refine Sr fun _ kh16 => ?_
     refine WL.ev (Ev.build (vs := _) (cs := [_, _, _]) rfl rfl) rfl ?_
     refine WL.storeB rfl rfl rfl ao hb2 (by simp) rfl fun ws6 hb2_ hcs6 => ?_
     try simp only [Sx.splice, qt] at hb2_
     have hch := hch.s1 hcs6
     have hb4 := hb4.keep hcs6 (by simp; omega)
     have hb5 := hb5.keep hcs6 (by simp; omega)
     have hb6 := hb6.keep hcs6 (by simp; omega)
     have hb2 := hb2_
     refine za rfl (zz (kh16 ?_))
     refine CW.ret ?_
     refine bodyA.retR2 rfl (RVal.cell rfl (hb2.varA rfl rfl)) (RVal.tmp rfl) ?_
     refine ⟨.inl ⟨hfx, ?_⟩, hch⟩
     have hz : fvI x = 0 := fvI_zero (by omega)
     rw [hz]
     exact ⟨.slice none 0 0, rfl, by rw [show (sumD 0).m = 0 from rfl, wd_zero]; exact NU.nil⟩
    ·
     try simp only [qs] at hc4
     have hq : (splitP x).cls = 1 ∨ (splitP x).cls = 2 := by have := hc4; have h2 := cls0_frac (x := x); omega
     have hff := fin_form hq
     have hfl := splitP_frac x
     have hex := splitP_range x
     refine CW.skip ?_
     refine kh11 (zc fun _ kh18 => ?_)
     refine CW.regionKC 10 12 rfl hmix fun kR19 kr19 hS hdr => ?_
     have hch := hch.trans (Chg.any hdr)
     have hb2 := hb2.keep0 hdr
     have hb4 := hb4.keep0 hdr
     have hb5 := hb5.keep0 hdr
     have hb6 := hb6.keep0 hdr
     have hch_r := hch
     have hb2_r := hb2
     have hb4_r := hb4
     have hb5_r := hb5
     have hb6_r := hb6
     refine wk 0 rfl hS (fun _ _ => Ev.fieldAddr rfl) (wk 1 rfl hS (fun _ hw' => Ev.load rfl rfl ((hb4_r.keep0 hw').at_ rfl)) (wk 2 rfl hS (fun _ _ => Ev.fieldAddr rfl) (wk 3 rfl hS (fun _ hw' => Ev.load rfl rfl ((hb4_r.keep0 hw').at_ rfl)) (wk 5 rfl hS (fun _ _ => Ev.fieldAddr rfl) (wk 6 rfl hS (fun _ hw' => Ev.load rfl rfl ((hb4_r.keep0 hw').at_ rfl)) ?_)))))
     refine WK.oneCall 4 rfl (by kernel_rfl) hasF69 rfl rfl (Of_spec (splitP x).frac _ (by omega)) fun v w2 h' => ?_
     obtain ⟨hN, hC⟩ := h'
     have hch := hch.trans (Chg.any hC)
     have hb2 := hb2.keep0 hC
     have hb4 := hb4.keep0 hC
     have hb5 := hb5.keep0 hC
     have hb6 := hb6.keep0 hC
     have hS := hS.trans hC
     refine ⟨hS, ?_⟩
     refine WK.oneCall 7 rfl (by kernel_rfl) hasF68 rfl rfl (form_spec (splitP x).neg _ (wd (splitP x).frac) (splitP x).exp _ hN (hg.keep0 hch) (by omega)) fun v w3 h' => ?_
     obtain ⟨hD, hC⟩ := h'
     rw [val_wd, hff] at hD
     obtain ⟨r, d, hd, rfl, hNr⟩ := hD.resolve_right (fun q => by cases q.1)
     cases hd
     have hch := hch.trans (Chg.any hC)
     have hb2 := hb2.keep0 hC
     have hb4 := hb4.keep0 hC
     have hb5 := hb5.keep0 hC
     have hb6 := hb6.keep0 hC
     have hN := hN.keep0 hC
     have hS := hS.trans hC
     refine ⟨hS, ?_⟩
     refine wk 8 rfl hS (fun _ _ => Ev.extract rfl rfl) (wk 9 rfl hS (fun _ _ => Ev.extract rfl rfl) ?_)
     refine WK.storeB 10 rfl (by kernel_rfl) (by kernel_rfl) rfl rfl rfl ao hb2 (by simp) rfl fun ws7 hb2_ hcs7 => ?_
     try simp only [Sx.splice, qt] at hb2_
     have hch := hch.s1 hcs7
     have hb4 := hb4.keep hcs7 (by simp; omega)
     have hb5 := hb5.keep hcs7 (by simp; omega)
     have hb6 := hb6.keep hcs7 (by simp; omega)
     have hNr := hNr.keepBK hb2 hcs7 an
     have hb2 := hb2_
     refine WK.after 11 rfl (by kernel_rfl) (by kernel_rfl) (Ev.assign rfl) rfl ?_
     refine WK.done (by kernel_rfl) (kr19 _ _ _ ?_)
     refine kh18 ?_
     refine CW.ret ?_
     refine bodyA.retR2 rfl (RVal.cell rfl (hb2.varA rfl rfl)) (RVal.tmp rfl) ?_
     exact ⟨.inl ⟨hfx, r, rfl, hNr⟩, hch⟩

end Go.Proofs.YtbdkecpalhpmdaaGreatDoor

/- Package quant: between two numbers. No condition. -/
namespace Go.Proofs.YtbdkecpalhpmdaaGreatDoor
open Go Sx Wd Fl

set_option maxRecDepth 8000 in
set_option maxHeartbeats 4000000 in
theorem qline_spec (x y num den : Nat) (mode : Int) (w : World) (hx : x < 18446744073709551616) (hy : y < 18446744073709551616) (hfx : (splitP x).cls ≤ 2) (hfy : (splitP y).cls ≤ 2) (hn : 1 ≤ num) (hnd : num < den) (hd : den ≤ 2147483648) (hg : GW w) : Ret Tryz.prog 50 [.float .f64 x, .float .f64 y, .int .i64 (num : Int), .int .i64 (den : Int), .int .i64 mode] w fun u w' => (∃ bits e, u = .tuple [.float .f64 bits, .int .i64 e].toArray ∧ lineR x y num den mode bits e) ∧ Chg [] w w' := by
 have hch : Chg [] w w := Chg.refl _ _
 have hg0 := hg
 have hokX := rsumD_ok (fvI_in x)
 have hokY := rsumD_ok (fvI_in y)
 have hokm := intD_ok (n := ((den - num : Nat) : Int)) (by omega)
 have hokn := intD_ok (n := (num : Int)) (by omega)
 have hokd := intD_ok (n := (den : Int)) (by omega)
 have hPx := fv_small x (n := den - num) (by omega)
 have hPy := fv_small y (n := num) (by omega)
 have hV := lineV_in (x := x) (y := y) (num := num) (den := den) (by omega) hd
 have hokPx := rsumD_ok hPx
 have hokPy := rsumD_ok hPy
 have hokV := rsumD_ok hV
 have hsf := (sift_fin (l := [x, y]) (pn := 0) (pi := 0) (by intro z hz; simp only [List.mem_cons, List.not_mem_nil, or_false] at hz; rcases hz with rfl | rfl <;> assumption) (by simp) ⟨by decide, by decide⟩).1
 refine Ret.enter Tryz.func50 rfl rfl ?_
 simp only [args0, Nat.zero_add, Nat.reduceAdd]
 refine Sr fun _ kh1 => za rfl (za rfl (zz (kh1 (Sr fun _ kh3 => zm rfl ?_))))
 refine WL.call hasF44 rfl rfl (dOf_spec (x) _ hx (hg0.keep0 hch)) fun v w1 h' => ?_
 obtain ⟨hD, hC⟩ := h'
 obtain ⟨-, rx, rfl, hNx⟩ := hD.resolve_right (fun q => q.1 hfx)
 have hch := hch.trans (Chg.any hC)
 refine zm rfl (zx rfl rfl (zx rfl rfl ?_))
 refine WL.allocB (l := [.bool false, .slice none 0 0, .int .i64 0]) rfl rfl fun b12 wm12 hb12 hcm12 hge12 => ?_
 have hgehch12 := Nat.le_trans hch.size hge12
 have hch := hch.trans (Chg.any hcm12)
 have hNx := hNx.keep0 hcm12
 refine WL.storeB rfl rfl rfl ao hb12 (by simp) rfl fun ws1 hb12_ hcs1 => ?_
 try simp only [Sx.splice, qt] at hb12_
 have hch := hch.s1 hcs1
 have hNx := hNx.keepBK hb12 hcs1 an
 have hb12 := hb12_
 refine za rfl (zz (kh3 (Sr fun _ kh5 => zm rfl ?_)))
 refine WL.call hasF44 rfl rfl (dOf_spec (y) _ hy (hg0.keep0 hch)) fun v w2 h' => ?_
 obtain ⟨hD, hC⟩ := h'
 obtain ⟨-, ry, rfl, hNy⟩ := hD.resolve_right (fun q => q.1 hfy)
 have hch := hch.trans (Chg.any hC)
 have hb12 := hb12.keep0 hC
 have hNx := hNx.keep0 hC
 refine zm rfl (zx rfl rfl (zx rfl rfl ?_))
 refine WL.allocB (l := [.bool false, .slice none 0 0, .int .i64 0]) rfl rfl fun b14 wm14 hb14 hcm14 hge14 => ?_
 have hgehch14 := Nat.le_trans hch.size hge14
 have hch := hch.trans (Chg.any hcm14)
 have hNx := hNx.keep0 hcm14
 have hNy := hNy.keep0 hcm14
 have hneb1214 : b12 ≠ b14 := by have := hb12.lt; omega
 have hb12 := hb12.keep0 hcm14
 refine WL.storeB rfl rfl rfl ao hb14 (by simp) rfl fun ws2 hb14_ hcs2 => ?_
 try simp only [Sx.splice, qt] at hb14_
 have hch := hch.s1 hcs2
 have hb12 := hb12.keep hcs2 (by simp; omega)
 have hNx := hNx.keepBK hb14 hcs2 an
 have hNy := hNy.keepBK hb14 hcs2 an
 have hb14 := hb14_
 refine za rfl (zz (kh5 (zc fun _ kh7 => ?_)))
 refine CW.regionKC 9 10 rfl hmix fun kR8 kr8 hS hdr => ?_
 have hch := hch.trans (Chg.any hdr)
 have hb12 := hb12.keep0 hdr
 have hb14 := hb14.keep0 hdr
 have hNx := hNx.keep0 hdr
 have hNy := hNy.keep0 hdr
 have hch_r := hch
 have hb12_r := hb12
 have hb14_r := hb14
 refine wk 0 rfl hS (fun _ hw' => Ev.loadA rfl rfl (hb12_r.keep0 hw') rfl) (wk 1 rfl hS (fun _ _ => Ev.move rfl) (wk 2 rfl hS (fun _ _ => Ev.move rfl) (wk 3 rfl hS (fun _ _ => Ev.subIn rfl rfl (by omega)) ?_)))
 rw [show (den : Int) - (num : Int) = ((den - num : Nat) : Int) by omega]
 refine WK.oneCall 4 rfl (by kernel_rfl) hasF82 rfl rfl (Int_spec ((den - num : Nat) : Int) _ (hg0.keep0 hch) (by omega)) fun v w3 h' => ?_
 obtain ⟨⟨ria, rfl, hNia⟩, hC⟩ := h'
 have hch := hch.trans (Chg.any hC)
 have hb12 := hb12.keep0 hC
 have hb14 := hb14.keep0 hC
 have hNx := hNx.keep0 hC
 have hNy := hNy.keep0 hC
 have hS := hS.trans hC
 refine ⟨hS, ?_⟩
 refine WK.oneCall 5 rfl (by kernel_rfl) hasF81 rfl rfl (Mul_dspec (sumD (fvI x)).neg (intD ((den - num : Nat) : Int)).neg _ _ (wd (sumD (fvI x)).m) (wd (intD ((den - num : Nat) : Int)).m) (sumD (fvI x)).e (intD ((den - num : Nat) : Int)).e _ hNx hNia (hg0.keep0 hch) (ok_e hokX) (ok_e hokm)) fun v w4 h' => ?_
 obtain ⟨hD, hC⟩ := h'
 rw [val_wd, val_wd, formD_sumD (fvI_in x), formD_self hokm, show both2 mulD (some (sumD (fvI x))) (some (intD ((den - num : Nat) : Int))) = mulD (sumD (fvI x)) (intD ((den - num : Nat) : Int)) from rfl, mulD_int (fvI_in x) (by omega) (by omega) hPx] at hD
 obtain ⟨rpx, dpx, hdpx, rfl, hNpx⟩ := hD.resolve_right (fun q => by cases q.1)
 cases hdpx
 have hch := hch.trans (Chg.any hC)
 have hb12 := hb12.keep0 hC
 have hb14 := hb14.keep0 hC
 have hNx := hNx.keep0 hC
 have hNy := hNy.keep0 hC
 have hNia := hNia.keep0 hC
 have hS := hS.trans hC
 refine ⟨hS, ?_⟩
 refine wk 6 rfl hS (fun _ _ => Ev.move rfl) (wk 7 rfl hS (fun _ _ => Ev.extract rfl rfl) ?_)
 refine WK.takeT 8 rfl (by kernel_rfl) (by kernel_rfl) (by kernel_rfl) (by kernel_rfl) (fun _ => hS) (fun w' => Ev.extract rfl rfl) rfl ?_
 refine WK.storeB 9 rfl (by kernel_rfl) (by kernel_rfl) rfl rfl rfl ao hb12 (by simp) rfl fun ws3 hb12_ hcs3 => ?_
 try simp only [Sx.splice, qt] at hb12_
 have hch := hch.s1 hcs3
 have hb14 := hb14.keep hcs3 (by simp; omega)
 have hNy := hNy.keepBK hb12 hcs3 an
 have hNpx := hNpx.keepBK hb12 hcs3 an
 have hb12 := hb12_
 refine WK.done (by kernel_rfl) (kr8 _ _ _ ?_)
 refine kh7 (zc fun _ kh9 => ?_)
 refine CW.regionKC 7 8 rfl hmix fun kR10 kr10 hS hdr => ?_
 have hch := hch.trans (Chg.any hdr)
 have hb12 := hb12.keep0 hdr
 have hb14 := hb14.keep0 hdr
 have hNy := hNy.keep0 hdr
 have hNpx := hNpx.keep0 hdr
 have hch_r := hch
 have hb12_r := hb12
 have hb14_r := hb14
 refine wk 0 rfl hS (fun _ hw' => Ev.loadA rfl rfl (hb14_r.keep0 hw') rfl) (wk 1 rfl hS (fun _ _ => Ev.move rfl) ?_)
 refine WK.oneCall 2 rfl (by kernel_rfl) hasF82 rfl rfl (Int_spec ((num : Nat) : Int) _ (hg0.keep0 hch) (by omega)) fun v w5 h' => ?_
 obtain ⟨⟨rib, rfl, hNib⟩, hC⟩ := h'
 have hch := hch.trans (Chg.any hC)
 have hb12 := hb12.keep0 hC
 have hb14 := hb14.keep0 hC
 have hNy := hNy.keep0 hC
 have hNpx := hNpx.keep0 hC
 have hS := hS.trans hC
 refine ⟨hS, ?_⟩
 refine WK.oneCall 3 rfl (by kernel_rfl) hasF81 rfl rfl (Mul_dspec (sumD (fvI y)).neg (intD ((num : Nat) : Int)).neg _ _ (wd (sumD (fvI y)).m) (wd (intD ((num : Nat) : Int)).m) (sumD (fvI y)).e (intD ((num : Nat) : Int)).e _ hNy hNib (hg0.keep0 hch) (ok_e hokY) (ok_e hokn)) fun v w6 h' => ?_
 obtain ⟨hD, hC⟩ := h'
 rw [val_wd, val_wd, formD_sumD (fvI_in y), formD_self hokn, show both2 mulD (some (sumD (fvI y))) (some (intD ((num : Nat) : Int))) = mulD (sumD (fvI y)) (intD ((num : Nat) : Int)) from rfl, mulD_int (fvI_in y) (by omega) (by omega) hPy] at hD
 obtain ⟨rpy, dpy, hdpy, rfl, hNpy⟩ := hD.resolve_right (fun q => by cases q.1)
 cases hdpy
 have hch := hch.trans (Chg.any hC)
 have hb12 := hb12.keep0 hC
 have hb14 := hb14.keep0 hC
 have hNy := hNy.keep0 hC
 have hNpx := hNpx.keep0 hC
 have hNib := hNib.keep0 hC
 have hS := hS.trans hC
 refine ⟨hS, ?_⟩
 refine wk 4 rfl hS (fun _ _ => Ev.move rfl) (wk 5 rfl hS (fun _ _ => Ev.extract rfl rfl) ?_)
 refine WK.takeT 6 rfl (by kernel_rfl) (by kernel_rfl) (by kernel_rfl) (by kernel_rfl) (fun _ => hS) (fun w' => Ev.extract rfl rfl) rfl ?_
 refine WK.storeB 7 rfl (by kernel_rfl) (by kernel_rfl) rfl rfl rfl ao hb14 (by simp) rfl fun ws4 hb14_ hcs4 => ?_
 try simp only [Sx.splice, qt] at hb14_
 have hch := hch.s1 hcs4
 have hb12 := hb12.keep hcs4 (by simp; omega)
 have hNpx := hNpx.keepBK hb14 hcs4 an
 have hNpy := hNpy.keepBK hb14 hcs4 an
 have hb14 := hb14_
 refine WK.done (by kernel_rfl) (kr10 _ _ _ ?_)
 refine kh9 (Sr fun _ kh11 => zg hb12 rfl (zg hb14 rfl ?_))
 refine WL.call hasF45 rfl rfl (Add_dspec (sumD (fvI x * ((den - num : Nat) : Int))).neg (sumD (fvI y * ((num : Nat) : Int))).neg _ _ (wd (sumD (fvI x * ((den - num : Nat) : Int))).m) (wd (sumD (fvI y * ((num : Nat) : Int))).m) (sumD (fvI x * ((den - num : Nat) : Int))).e (sumD (fvI y * ((num : Nat) : Int))).e _ hNpx hNpy (hg0.keep0 hch) (ok_e hokPx) (ok_e hokPy)) fun v w7 h' => ?_
 obtain ⟨hD, hC⟩ := h'
 rw [val_wd, val_wd, formD_sumD hPx, formD_sumD hPy, show both2 addD (some (sumD (fvI x * ((den - num : Nat) : Int)))) (some (sumD (fvI y * ((num : Nat) : Int)))) = addD (sumD (fvI x * ((den - num : Nat) : Int))) (sumD (fvI y * ((num : Nat) : Int))) from rfl, addD_sum hPx hPy hV, show (fvI x * ((den - num : Nat) : Int)) + (fvI y * ((num : Nat) : Int)) = lineV x y num den from rfl] at hD
 obtain ⟨rv, dv, hdv, rfl, hNv⟩ := hD.resolve_right (fun q => by cases q.1)
 cases hdv
 have hch := hch.trans (Chg.any hC)
 have hb12 := hb12.keep0 hC
 have hb14 := hb14.keep0 hC
 have hNpx := hNpx.keep0 hC
 have hNpy := hNpy.keep0 hC
 refine zm rfl (zx rfl rfl (zx rfl rfl ?_))
 refine WL.allocB (l := [.bool false, .slice none 0 0, .int .i64 0]) rfl rfl fun b16 wm16 hb16 hcm16 hge16 => ?_
 have hgehch16 := Nat.le_trans hch.size hge16
 have hch := hch.trans (Chg.any hcm16)
 have hNv := hNv.keep0 hcm16
 have hneb1216 : b12 ≠ b16 := by have := hb12.lt; omega
 have hb12 := hb12.keep0 hcm16
 have hneb1416 : b14 ≠ b16 := by have := hb14.lt; omega
 have hb14 := hb14.keep0 hcm16
 refine WL.storeB rfl rfl rfl ao hb16 (by simp) rfl fun ws5 hb16_ hcs5 => ?_
 try simp only [Sx.splice, qt] at hb16_
 have hch := hch.s1 hcs5
 have hb12 := hb12.keep hcs5 (by simp; omega)
 have hb14 := hb14.keep hcs5 (by simp; omega)
 have hNv := hNv.keepBK hb16 hcs5 an
 have hb16 := hb16_
 refine za rfl (zz (kh11 (zc fun _ kh13 => Sr fun _ kh14 => zg hb16 rfl ?_)))
 refine WL.call hasF83 rfl rfl (Sign_dspec (sumD (lineV x y num den)).neg _ (wd (sumD (lineV x y num den)).m) (sumD (lineV x y num den)).e _ hNv) fun v w8 h' => ?_
 obtain ⟨rfl, hC⟩ := h'
 rw [val_wd]
 have hch := hch.trans (Chg.any hC)
 have hb12 := hb12.keep0 hC
 have hb14 := hb14.keep0 hC
 have hb16 := hb16.keep0 hC
 have hNv := hNv.keep0 hC
 refine zq rfl rfl (zz (kh14 ?_))
 refine CW.cond rfl (fun hc1 => ?_) (fun hc1 => ?_)
 ·
  try simp only [qs] at hc1
  have hz : (sumD (lineV x y num den)).m = 0 := sgD_zero.1 hc1
  refine Sr fun _ kh16 => zm rfl (zm rfl ?_)
  refine WL.buildSlice (m := 2) (cs := [f64v (x), f64v (y)]) (by decide) (by decide) rfl (by kernel_rfl) rfl fun b59 w59 hn59 => ?_
  have hcm59 := hn59.chg
  have hge59 := hn59.ge
  have hb59 : FB w59 b59 _ [x, y] := hn59.at_
  have hgehch59 := Nat.le_trans hch.size hge59
  have hch := hch.trans (Chg.any hcm59)
  have hNv := hNv.keep0 hcm59
  have hneb1259 : b12 ≠ b59 := by have := hb12.lt; omega
  have hb12 := hb12.keep0 hcm59
  have hneb1459 : b14 ≠ b59 := by have := hb14.lt; omega
  have hb14 := hb14.keep0 hcm59
  have hneb1659 : b16 ≠ b59 := by have := hb16.lt; omega
  have hb16 := hb16.keep0 hcm59
  refine WL.call hasF80 rfl rfl (Plain_spec _) fun v w9 h' => ?_
  obtain ⟨rfl, hC⟩ := h'
  have hch := hch.trans (Chg.any hC)
  have hb12 := hb12.keep0 hC
  have hb14 := hb14.keep0 hC
  have hb16 := hb16.keep0 hC
  have hb59 := hb59.keep0 hC
  have hNv := hNv.keep0 hC
  refine WL.call hasF84 rfl rfl (Sift_spec _ [x, y] 0 0 _ ((NF.of_row hb59.row (by intro z hz; simp only [List.mem_cons, List.not_mem_nil, or_false] at hz; rcases hz with rfl | rfl <;> assumption) (by simp) rfl (by simp)))) fun v w10 h' => ?_
  obtain ⟨-, v2, hNf, rfl, hC⟩ := h'.resolve_left (fun q => q.1 hsf)
  have ho2 := hNf.one
  unfold SP.cells
  have hch := hch.trans (Chg.any hC)
  have hb12 := hb12.keep0 hC
  have hb14 := hb14.keep0 hC
  have hb16 := hb16.keep0 hC
  have hb59 := hb59.keep0 hC
  have hNv := hNv.keep0 hC
  refine zm rfl (zx rfl rfl (zx rfl rfl (zx rfl rfl ?_)))
  refine WL.allocB (l := [.int .i64 0, .int .i64 0, .int .i64 0, .int .i64 0, .int .i64 0, .int .i64 0]) rfl rfl fun b19 wm19 hb19 hcm19 hge19 => ?_
  have hgehch19 := Nat.le_trans hch.size hge19
  have hch := hch.trans (Chg.any hcm19)
  have hNv := hNv.keep0 hcm19
  have hneb1219 : b12 ≠ b19 := by have := hb12.lt; omega
  have hb12 := hb12.keep0 hcm19
  have hneb1419 : b14 ≠ b19 := by have := hb14.lt; omega
  have hb14 := hb14.keep0 hcm19
  have hneb1619 : b16 ≠ b19 := by have := hb16.lt; omega
  have hb16 := hb16.keep0 hcm19
  have hneb5919 : b59 ≠ b19 := by have := hb59.lt; omega
  have hb59 := hb59.keep0 hcm19
  refine za rfl ?_
  refine WL.storeB rfl rfl rfl ao hb19 (by simp) rfl fun ws6 hb19_ hcs6 => ?_
  try simp only [Sx.splice, qt] at hb19_
  have hch := hch.s1 hcs6
  have hb12 := hb12.keep hcs6 (by simp; omega)
  have hb14 := hb14.keep hcs6 (by simp; omega)
  have hb16 := hb16.keep hcs6 (by simp; omega)
  have hb59 := hb59.keep hcs6 (by simp; omega)
  have hNv := hNv.keepBK hb19 hcs6 an
  have hb19 := hb19_
  refine za rfl (zz (kh16 (Sr fun _ kh18 => zg hb19 rfl (zm rfl ?_))))
  refine WL.call hasF85 rfl rfl (Nought_spec (cntP [x, y]) mode _ ((cnt_le [x, y]).mono (by simp))) fun v w11 h' => ?_
  obtain ⟨rfl, hC⟩ := h'
  have hch := hch.trans (Chg.any hC)
  have hb12 := hb12.keep0 hC
  have hb14 := hb14.keep0 hC
  have hb16 := hb16.keep0 hC
  have hb59 := hb59.keep0 hC
  have hb19 := hb19.keep0 hC
  have hNv := hNv.keep0 hC
  refine za rfl (za rfl (zz (kh18 ?_)))
  refine CW.ret ?_
  refine bodyA.ret2 rfl rfl rfl ?_
  exact ⟨⟨_, _, rfl, .inl ⟨hz, rfl, rfl⟩⟩, hch⟩
 ·
  try simp only [qs] at hc1
  have hz : (sumD (lineV x y num den)).m ≠ 0 := fun q => hc1 (sgD_zero.2 q)
  refine CW.skip ?_
  refine kh13 (zc fun _ kh20 => ?_)
  refine CW.regionHC 10 rfl hmix fun kR21 kr21 hS hdr => ?_
  have hch := hch.trans (Chg.any hdr)
  have hb12 := hb12.keep0 hdr
  have hb14 := hb14.keep0 hdr
  have hb16 := hb16.keep0 hdr
  have hNv := hNv.keep0 hdr
  have hch_r := hch
  have hb12_r := hb12
  have hb14_r := hb14
  have hb16_r := hb16
  refine wh 0 rfl hS (fun _ hw' => Ev.loadA rfl rfl (hb16_r.keep0 hw') rfl) (wh 1 rfl hS (fun _ _ => Ev.move rfl) (wh 4 rfl hS (fun _ _ => Ev.move rfl) ?_))
  refine WH.oneCall 2 rfl (by kernel_rfl) hasF82 rfl rfl (Int_spec ((den : Nat) : Int) _ (hg0.keep0 hch) (by omega)) fun v w12 h' => ?_
  obtain ⟨⟨ric, rfl, hNic⟩, hC⟩ := h'
  have hch := hch.trans (Chg.any hC)
  have hb12 := hb12.keep0 hC
  have hb14 := hb14.keep0 hC
  have hb16 := hb16.keep0 hC
  have hNv := hNv.keep0 hC
  have hS := hS.trans hC
  refine ⟨hS, ?_⟩
  refine wh 3 rfl hS (fun _ _ => Ev.build (vs := _) (cs := [_, _, _, _, _, _]) rfl rfl) ?_
  refine WH.oneCall 5 rfl (by kernel_rfl) hasF86 rfl rfl (Quot_spec (sumD (lineV x y num den)).neg (intD (den : Int)).neg _ _ (wd (sumD (lineV x y num den)).m) (wd (intD (den : Int)).m) (sumD (lineV x y num den)).e (intD (den : Int)).e mode _ hNv hNic (hg0.keep0 hch) (ok_e hokV) (ok_e hokd)) fun v w13 h' => ?_
  obtain ⟨⟨bits, e, rfl, hQ⟩, hC⟩ := h'
  rw [val_wd, val_wd] at hQ
  have hch := hch.trans (Chg.any hC)
  have hb12 := hb12.keep0 hC
  have hb14 := hb14.keep0 hC
  have hb16 := hb16.keep0 hC
  have hNv := hNv.keep0 hC
  have hNic := hNic.keep0 hC
  have hS := hS.trans hC
  refine ⟨hS, ?_⟩
  refine wh 6 rfl hS (fun _ _ => Ev.extract rfl rfl) (wh 7 rfl hS (fun _ _ => Ev.extract rfl rfl) (wh 8 rfl hS (fun _ _ => Ev.assign rfl) (wh 9 rfl hS (fun _ _ => Ev.assign rfl) ?_)))
  refine WH.done (by kernel_rfl) (kr21 _ _ _ ?_)
  refine kh20 ?_
  refine CW.ret ?_
  refine bodyA.ret2 rfl rfl rfl ?_
  exact ⟨⟨_, _, rfl, .inr ⟨hz, hQ⟩⟩, hch⟩

end Go.Proofs.YtbdkecpalhpmdaaGreatDoor

/- Package quant: at a share. No condition. -/
namespace Go.Proofs.YtbdkecpalhpmdaaGreatDoor
open Go Sx Wd Fl

set_option maxRecDepth 8000 in
set_option maxHeartbeats 4000000 in
theorem qat_spec (v : Value) (s : List Nat) (num den : Nat) (rule mode : Int) (w : World) (hv : NF w v s) (hs : Row s) (hl : s.length ≤ 65536) (hn : num ≤ den) (hd : 1 ≤ den ∧ den ≤ 2147483648) (hg : GW w) : Ret Tryz.prog 28 [v, .int .i64 (num : Int), .int .i64 (den : Int), .int .i64 rule, .int .i64 mode] w fun u w' => (∃ bits e, u = .tuple [.float .f64 bits, .int .i64 e].toArray ∧ atR s num den rule mode bits e) ∧ Chg [] w w' := by
 have hv0 := hv
 obtain ⟨⟨al, cl, rfl, hcapl, hrl⟩, hWl, hll⟩ := hv
 have hch : Chg [] w w := Chg.refl _ _
 have hg0 := hg
 have hpos := hs.pos
 obtain ⟨p1, p2⟩ := place_lt (m := s.length - 1) (num := num) hd.1 hn
 have hplb : (s.length - 1) * num ≤ 65536 * 2147483648 := Nat.mul_le_mul (by omega) (by omega)
 generalize hpl : (s.length - 1) * num = pl at *
 have hpl := hpl.symm
 refine Ret.enter Tryz.func28 rfl rfl ?_
 simp only [args0, Nat.zero_add, Nat.reduceAdd]
 refine Sr fun _ kh1 => za rfl (za rfl (zz (kh1 (Sr fun _ kh3 => zm rfl (zn rfl ?_)))))
 refine WL.ev (Ev.subIn rfl rfl (by omega)) rfl ?_
 rw [show ((s.length : Nat) : Int) - 1 = ((s.length - 1 : Nat) : Int) by omega]
 refine zm rfl ?_
 refine WL.ev (Ev.mulIn rfl rfl (by rw [← Int.natCast_mul, ← hpl]; omega)) rfl ?_
 rw [← Int.natCast_mul, ← hpl]
 refine za rfl (zz (kh3 (zc fun _ kh5 => ?_)))
 refine CW.regionSC hmix (by kernel_rfl) fun kR6 kr6 hdr => ?_
 have hch := hch.trans (Chg.any hdr)
 refine ym rfl (ym rfl ?_)
 refine WS.ev (Ev.quoIn rfl rfl (by omega) (by simp only [IntKind.max, IntKind.signed, IntKind.bits]; omega) (by omega)) rfl ?_
 rw [show (pl : Int) / (den : Int) = ((pl / den : Nat) : Int) from rfl]
 refine ym rfl (ym rfl ?_)
 refine WS.ev (Ev.remIn rfl rfl (by omega) (by omega)) rfl ?_
 rw [show (pl : Int) % (den : Int) = ((pl % den : Nat) : Int) from rfl]
 have hm1 := Nat.mod_lt pl (show den > 0 by omega)
 generalize hi : pl / den = i at *
 generalize hr : pl % den = r at *
 have hx := lt_getD2 hWl i
 have hfx := finL_getD2 hs.fin (i := i) (by omega)
 refine ya rfl (ya rfl ?_)
 refine WS.nil (kr6 _ _ ?_)
 refine kh5 (zc fun _ kh7 => ?_)
 refine CW.seqM 34 (decide (r = 0 ∨ rule = 0)) ?_ ?_
 ·
  refine CW.region fun kR8 kr8 => ?_
  refine zm rfl (zq rfl rfl (zm rfl ?_))
  refine WL.boolCase (fun hg1 => ?_) (fun hg1 => ?_)
  ·
   try simp only [qs] at hg1
   refine zv rfl (zv rfl (zt rfl rfl ?_))
   refine WL.nil (kr8 _ _ _ ?_)
   refine ⟨rfl, rfl, Subs.consB rfl ?_ ?_⟩
   ·
    first | (simp; omega) | (simp_all; done) | (refine decide_eq_decide.2 ?_; omega)
   ·
    exact SMg
  ·
   try simp only [qs] at hg1
   refine zw rfl (zm rfl (zw rfl (zq rfl rfl (ze rfl rfl ?_))))
   refine WL.nil (kr8 _ _ _ ?_)
   refine ⟨rfl, rfl, Subs.consB rfl ?_ ?_⟩
   ·
    first | (simp; omega) | (simp_all; done) | (refine decide_eq_decide.2 ?_; omega)
   ·
    exact SMg
 ·
  refine CW.cond rfl (fun hc2 => ?_) (fun hc2 => ?_)
  ·
   try simp only [qs] at hc2
   have hq : r = 0 ∨ rule = 0 := hc2
   refine Sr fun _ kh9 => zm rfl (zm rfl ?_)
   refine WL.ev (Ev.ixR (i) rfl rfl (hrl.keep0 hch) (by omega) (by omega) (by simp; omega)) rfl ?_
   refine WL.ev (Ev.load rfl rfl ((hrl.keep0 hch).f64 (by first | omega | (simp; omega)))) rfl ?_
   refine za rfl (za rfl (zz (kh9 ?_)))
   refine CW.ret ?_
   refine bodyA.ret2 rfl rfl rfl ?_
   refine ⟨⟨_, _, rfl, ?_⟩, hch⟩
   unfold atR
   rw [← hpl, hi, hr, if_pos hq]
   exact ⟨rfl, rfl⟩
  ·
   try simp only [qs] at hc2
   have hq : ¬ (r = 0 ∨ rule = 0) := hc2
   have hi2 := p2 (fun q => hq (.inl q))
   have hy := lt_getD2 hWl (i + 1)
   have hfy := finL_getD2 hs.fin (i := i + 1) (by omega)
   refine CW.skip ?_
   refine kh7 (zc fun _ kh11 => ?_)
   refine CW.regionSC hmix (by kernel_rfl) fun kR12 kr12 hdr => ?_
   have hch := hch.trans (Chg.any hdr)
   refine ym rfl (ym rfl ?_)
   refine WS.ev (Ev.ixR (i) rfl rfl (hrl.keep0 hch) (by omega) (by omega) (by simp; omega)) rfl ?_
   refine WS.ev (Ev.load rfl rfl ((hrl.keep0 hch).f64 (by first | omega | (simp; omega)))) rfl ?_
   refine ym rfl (ym rfl ?_)
   first | refine WS.ev (Ev.addIn rfl rfl (by omega)) rfl ?_ | refine WS.ev (Ev.add rfl rfl) rfl ?_
   refine WS.ev (Ev.ixR ((i + 1)) rfl rfl (hrl.keep0 hch) (by omega) (by omega) (by simp; omega)) rfl ?_
   refine WS.ev (Ev.load rfl rfl ((hrl.keep0 hch).f64 (by first | omega | (simp; omega)))) rfl ?_
   refine ya rfl (ya rfl ?_)
   refine WS.nil (kr12 _ _ ?_)
   refine kh11 (zc fun _ kh13 => Sr fun _ kh14 => zm rfl (zz (kh14 ?_)))
   refine CW.block ?_
   refine Sr fun _ kh16 => zq rfl rfl (za rfl (zz (kh16 ?_)))
   refine CW.cond rfl (fun hc3 => ?_) (fun hc3 => ?_)
   ·
    try simp only [qs] at hc3
    have h3 : rule = 3 := hc3
    refine Sr fun _ kh18 => zm rfl (zm rfl (zm rfl ?_))
    refine WL.call hasF49 rfl rfl (Middle_spec (s.getD i 0) (s.getD (i + 1) 0) mode _ hx hy (hg0.keep0 hch)) fun v w1 h' => ?_
    obtain ⟨⟨bits, e, rfl, hM⟩, hC⟩ := h'
    have hch := hch.trans (Chg.any hC)
    refine zx rfl rfl (zx rfl rfl (za rfl (za rfl (zz (kh18 ?_)))))
    refine CW.ret ?_
    refine bodyA.ret2 rfl rfl rfl ?_
    refine ⟨⟨_, _, rfl, ?_⟩, hch⟩
    unfold atR
    rw [← hpl, hi, hr, if_neg hq, if_pos h3]
    exact hM
   ·
    try simp only [qs] at hc3
    have h3 : ¬ rule = 3 := hc3
    refine Sr fun _ kh20 => zq rfl rfl (za rfl (zz (kh20 ?_)))
    refine CW.cond rfl (fun hc4 => ?_) (fun hc4 => ?_)
    ·
     try simp only [qs] at hc4
     have h4 : rule = 4 := hc4
     refine Sr fun _ kh22 => zm rfl (zm rfl (zm rfl (zm rfl (zm rfl ?_))))
     refine WL.call hasF50 rfl rfl (qline_spec (s.getD i 0) (s.getD (i + 1) 0) r den mode _ hx hy hfx hfy (by omega) hm1 (by omega) (hg0.keep0 hch)) fun v w2 h' => ?_
     obtain ⟨⟨bits, e, rfl, hM⟩, hC⟩ := h'
     have hch := hch.trans (Chg.any hC)
     refine zx rfl rfl (zx rfl rfl (za rfl (za rfl (zz (kh22 ?_)))))
     refine CW.ret ?_
     refine bodyA.ret2 rfl rfl rfl ?_
     refine ⟨⟨_, _, rfl, ?_⟩, hch⟩
     unfold atR
     rw [← hpl, hi, hr, if_neg hq, if_neg h3, if_pos h4]
     exact hM
    ·
     try simp only [qs] at hc4
     have h4 : ¬ rule = 4 := hc4
     refine Sr fun _ kh24 => zq rfl rfl (za rfl (zz (kh24 ?_)))
     refine CW.cond rfl (fun hc5 => ?_) (fun hc5 => ?_)
     ·
      try simp only [qs] at hc5
      have h2 : rule = 2 := hc5
      refine Sr fun _ kh26 => zm rfl ?_
      refine WL.ev (Ev.mulIn rfl rfl (by omega)) rfl ?_
      refine zm rfl ?_
      refine WL.ev (Ev.subIn rfl rfl (by omega)) rfl ?_
      refine za rfl (zz (kh26 ?_))
      refine CW.seqM 83 (decide (2 * r < den ∨ (2 * r = den ∧ i % 2 = 0))) ?_ ?_
      ·
       refine CW.region fun kR28 kr28 => ?_
       refine zm rfl ?_
       refine WL.ev (Ev.lss rfl rfl) rfl ?_
       refine zm rfl ?_
       refine WL.boolCase (fun hg6 => ?_) (fun hg6 => ?_)
       ·
        try simp only [qs] at hg6
        refine zv rfl (zv rfl (zv rfl (zu rfl (zu rfl (zu rfl (zv rfl (zt rfl rfl ?_)))))))
        refine WL.nil (kr28 _ _ _ ?_)
        refine ⟨rfl, rfl, Subs.consB rfl ?_ ?_⟩
        ·
         first | exact (decide_eq_true (by omega)).symm | exact (decide_eq_false (by omega)).symm | exact decide_eq_decide.2 (by omega)
        ·
         exact SMg
       ·
        try simp only [qs] at hg6
        refine zw rfl (zm rfl (zw rfl (zq rfl rfl (zw rfl (zm rfl ?_)))))
        refine WL.boolCase (fun hg7 => ?_) (fun hg7 => ?_)
        ·
         try simp only [qs] at hg7
         refine zw rfl (zm rfl (zw rfl ?_))
         refine WL.ev (Ev.remIn rfl rfl (by omega) (by omega)) rfl ?_
         refine zw rfl (zq rfl rfl (zw rfl (zt rfl rfl (ze rfl rfl ?_))))
         refine WL.nil (kr28 _ _ _ ?_)
         refine ⟨rfl, rfl, Subs.consB rfl ?_ ?_⟩
         ·
          first | exact (decide_eq_true (by omega)).symm | exact (decide_eq_false (by omega)).symm | exact decide_eq_decide.2 (by omega)
         ·
          exact SMg
        ·
         try simp only [qs] at hg7
         refine zv rfl (zv rfl (zv rfl (zw rfl (ze rfl rfl (ze rfl rfl ?_)))))
         refine WL.nil (kr28 _ _ _ ?_)
         refine ⟨rfl, rfl, Subs.consB rfl ?_ ?_⟩
         ·
          first | exact (decide_eq_true (by omega)).symm | exact (decide_eq_false (by omega)).symm | exact decide_eq_decide.2 (by omega)
         ·
          exact SMg
      ·
       refine CW.cond rfl (fun hc8 => ?_) (fun hc8 => ?_)
       ·
        try simp only [qs] at hc8
        have hn : 2 * r < den ∨ (2 * r = den ∧ i % 2 = 0) := hc8
        refine Sr fun _ kh29 => zm rfl (za rfl (za rfl (zz (kh29 ?_))))
        refine CW.ret ?_
        refine bodyA.ret2 rfl rfl rfl ?_
        refine ⟨⟨_, _, rfl, ?_⟩, hch⟩
        unfold atR
        rw [← hpl, hi, hr, if_neg hq, if_neg h3, if_neg h4, if_pos ⟨h2, hn⟩]
        exact ⟨rfl, rfl⟩
       ·
        try simp only [qs] at hc8
        have hn : ¬ (2 * r < den ∨ (2 * r = den ∧ i % 2 = 0)) := hc8
        refine CW.skip ?_
        refine kh13 (Sr fun _ kh31 => zm rfl (za rfl (za rfl (zz (kh31 ?_)))))
        refine CW.ret ?_
        refine bodyA.ret2 rfl rfl rfl ?_
        refine ⟨⟨_, _, rfl, ?_⟩, hch⟩
        unfold atR
        rw [← hpl, hi, hr, if_neg hq, if_neg h3, if_neg h4, if_neg (fun z => hn z.2)]
        exact ⟨rfl, rfl⟩
     ·
      try simp only [qs] at hc5
      have h2 : ¬ rule = 2 := hc5
      refine CW.skip ?_
      refine kh13 (Sr fun _ kh33 => zm rfl (za rfl (za rfl (zz (kh33 ?_)))))
      refine CW.ret ?_
      refine bodyA.ret2 rfl rfl rfl ?_
      refine ⟨⟨_, _, rfl, ?_⟩, hch⟩
      unfold atR
      rw [← hpl, hi, hr, if_neg hq, if_neg h3, if_neg h4, if_neg (fun z => h2 z.1)]
      exact ⟨rfl, rfl⟩

end Go.Proofs.YtbdkecpalhpmdaaGreatDoor

/- Package quant: Quantile, Several, Share. No condition. -/
namespace Go.Proofs.YtbdkecpalhpmdaaGreatDoor
open Go Sx Wd Fl

theorem GR.of_FB {w : World} {lo b k : Nat} {e : TypeId} {X l : List Nat} (h : FB w b e l) (hk : k = l.length) (hm : l.length ≤ 281474976710656) (hlo : lo ≤ b) (hX : b ∉ X) : GR w e f64v lo X (.slice (some ⟨b, 0, none⟩) k k) l := by
  subst hk
  exact ⟨⟨by simp, .inr ⟨b, l.length, _, rfl, Nat.zero_le _, h, Nat.le_refl _, by unfold maxLen; omega, by simp, by rw [Nat.mul_one, List.take_of_length_le (by simp)]⟩⟩, fun b' hb => by cases hb; exact ⟨hlo, hX⟩⟩
theorem sev_step {L : List Nat} {i b : Nat} {e : Int} {Q : Nat → Nat → Int → Prop} (h : ∀ k, k < i → ∃ e, Q k (L.getD k 0) e) (hi : i < L.length) (hA : Q i b e) : ∀ k, k < i + 1 → ∃ e, Q k ((L.set i b).getD k 0) e := fun k hk => by
  by_cases q : k = i
  · subst q
    refine ⟨e, ?_⟩
    rw [List.getD_eq_getElem?_getD, List.getElem?_set_self hi]
    exact hA
  · rw [List.getD_eq_getElem?_getD, List.getElem?_set_ne (by omega), ← List.getD_eq_getElem?_getD]
    exact h k (by omega)
structure KSv (s : List Nat) (sv : Value) (pn : Nat) (rule mode : Int) (b lo : Nat) (w0 : World) (g : Nat × List Nat) (w : World) : Prop where
  hi : g.1 ≤ pn + 1
  len : g.2.length = pn + 1
  f : ∀ k, k < g.1 → ∃ e, atR s k pn rule mode (g.2.getD k 0) e
  hB : FB w b 24 g.2
  hg : GR w 24 f64v lo [b] sv s
  ch : Chg [] w0 w
def cntLE (l : List Nat) (x : Nat) : Nat := (l.filter fun z => FloatKind.f64.format.order z x == some .lt || FloatKind.f64.format.order z x == some .eq).length
theorem cntLE_step {l : List Nat} {x i : Nat} (hi : i < l.length) : cntLE (l.take (i + 1)) x = cntLE (l.take i) x + if (FloatKind.f64.format.order (l.getD i 0) x == some .lt || FloatKind.f64.format.order (l.getD i 0) x == some .eq) = true then 1 else 0 := by
  have e1 : l.getD i 0 = l[i] := by rw [List.getD_eq_getElem?_getD, List.getElem?_eq_getElem hi]; rfl
  unfold cntLE
  rw [List.take_succ_eq_append_getElem hi, List.filter_append, List.length_append, e1]
  split
  · rename_i q; rw [List.filter_cons_of_pos (by simpa using q)]; rfl
  · rename_i q; rw [List.filter_cons_of_neg (by simpa using q)]; rfl
theorem cntLE_le (l : List Nat) (x : Nat) : cntLE l x ≤ l.length := List.length_filter_le _ _
structure KSs (l : List Nat) (x : Nat) (w0 : World) (i : Nat) (w : World) : Prop where
  hi : i ≤ l.length
  ch : Chg [] w0 w

set_option maxRecDepth 8000 in
set_option maxHeartbeats 4000000 in
theorem Quantile_spec (v : Value) (l : List Nat) (num den rule mode : Int) (w : World) (hv : NF w v l) (hnr : -9223372036854775808 ≤ num ∧ num ≤ 9223372036854775807) (hdr : -9223372036854775808 ≤ den ∧ den ≤ 9223372036854775807) (hg : GW w) : Ret Tryz.prog 13 [v, .int .i64 num, .int .i64 den, .int .i64 rule, .int .i64 mode] w fun u w' => (∃ bits e, u = .tuple [.float .f64 bits, .int .i64 e].toArray ∧ quantR l num den rule mode bits e) ∧ Chg [] w w' := by
 have hWl := hv.hw
 have hll := hv.len
 have hov := hv.one
 have hch : Chg [] w w := Chg.refl _ _
 have hg0 := hg
 refine Ret.enter Tryz.func13 rfl rfl ?_
 simp only [args0, Nat.zero_add, Nat.reduceAdd]
 refine Sr fun _ kh1 => za rfl (za rfl (zz (kh1 (zc fun _ kh3 => ?_))))
 refine CW.seqM 33 (decide (¬ askQ num den rule mode)) ?_ ?_
 ·
  refine CW.region fun kR4 kr4 => ?_
  refine zm rfl (zm rfl ?_)
  refine WL.call hasF26 rfl rfl (qmay_spec rule mode _) fun v w1 h' => ?_
  obtain ⟨rfl, rfl⟩ := h'
  refine WL.ev (Ev.not rfl) rfl ?_
  refine zm rfl ?_
  refine WL.boolCase (fun hg1 => ?_) (fun hg1 => ?_)
  ·
   try simp only [qs] at hg1
   refine zv rfl (zv rfl (zt rfl rfl (zm rfl (zv rfl (zv rfl (zt rfl rfl (zm rfl (zv rfl (zv rfl (zt rfl rfl (zm rfl (zv rfl (zv rfl (zv rfl (zt rfl rfl ?_)))))))))))))))
   refine WL.nil (kr4 _ _ _ ?_)
   refine ⟨rfl, rfl, Subs.consB rfl ?_ ?_⟩
   ·
    first | exact (decide_eq_true (by unfold askQ; omega)).symm | exact (decide_eq_false (by unfold askQ; omega)).symm | exact decide_eq_decide.2 (by unfold askQ; omega)
   ·
    exact SMg
  ·
   try simp only [qs] at hg1
   refine zw rfl (zm rfl (zw rfl ?_))
   refine WL.ev (Ev.lss rfl rfl) rfl ?_
   refine ze rfl rfl (zm rfl ?_)
   refine WL.boolCase (fun hg2 => ?_) (fun hg2 => ?_)
   ·
    try simp only [qs] at hg2
    refine zv rfl (zv rfl (zt rfl rfl (zm rfl (zv rfl (zv rfl (zt rfl rfl (zm rfl (zv rfl (zv rfl (zv rfl (zt rfl rfl ?_)))))))))))
    refine WL.nil (kr4 _ _ _ ?_)
    refine ⟨rfl, rfl, Subs.consB rfl ?_ ?_⟩
    ·
     first | exact (decide_eq_true (by unfold askQ; omega)).symm | exact (decide_eq_false (by unfold askQ; omega)).symm | exact decide_eq_decide.2 (by unfold askQ; omega)
    ·
     exact SMg
   ·
    try simp only [qs] at hg2
    refine zw rfl (zm rfl (zw rfl ?_))
    refine WL.ev (Ev.gtr rfl rfl) rfl ?_
    refine ze rfl rfl (zm rfl ?_)
    refine WL.boolCase (fun hg3 => ?_) (fun hg3 => ?_)
    ·
     try simp only [qs] at hg3
     refine zv rfl (zv rfl (zt rfl rfl (zm rfl (zv rfl (zv rfl (zv rfl (zt rfl rfl ?_)))))))
     refine WL.nil (kr4 _ _ _ ?_)
     refine ⟨rfl, rfl, Subs.consB rfl ?_ ?_⟩
     ·
      first | exact (decide_eq_true (by unfold askQ; omega)).symm | exact (decide_eq_false (by unfold askQ; omega)).symm | exact decide_eq_decide.2 (by unfold askQ; omega)
     ·
      exact SMg
    ·
     try simp only [qs] at hg3
     refine zw rfl (zm rfl (zw rfl ?_))
     refine WL.ev (Ev.lss rfl rfl) rfl ?_
     refine ze rfl rfl (zm rfl ?_)
     refine WL.boolCase (fun hg4 => ?_) (fun hg4 => ?_)
     ·
      try simp only [qs] at hg4
      refine zv rfl (zv rfl (zv rfl (zt rfl rfl ?_)))
      refine WL.nil (kr4 _ _ _ ?_)
      refine ⟨rfl, rfl, Subs.consB rfl ?_ ?_⟩
      ·
       first | exact (decide_eq_true (by unfold askQ; omega)).symm | exact (decide_eq_false (by unfold askQ; omega)).symm | exact decide_eq_decide.2 (by unfold askQ; omega)
      ·
       exact SMg
     ·
      try simp only [qs] at hg4
      refine zw rfl (zm rfl (zw rfl (zm rfl (zw rfl ?_))))
      refine WL.ev (Ev.gtr rfl rfl) rfl ?_
      refine ze rfl rfl ?_
      refine WL.nil (kr4 _ _ _ ?_)
      refine ⟨rfl, rfl, Subs.consB rfl ?_ ?_⟩
      ·
       first | exact (decide_eq_true (by unfold askQ; omega)).symm | exact (decide_eq_false (by unfold askQ; omega)).symm | exact decide_eq_decide.2 (by unfold askQ; omega)
      ·
       exact SMg
 ·
  refine CW.cond rfl (fun hc5 => ?_) (fun hc5 => ?_)
  ·
   try simp only [qs] at hc5
   have hq : ¬ askQ num den rule mode := hc5
   refine Sr fun _ kh5 => za rfl (za rfl (zz (kh5 ?_)))
   refine CW.ret ?_
   refine bodyA.ret2 rfl rfl rfl ?_
   exact ⟨⟨_, _, rfl, .inl ⟨hq, rfl, rfl⟩⟩, hch⟩
  ·
   try simp only [qs] at hc5
   have hq : askQ num den rule mode := hc5
   obtain ⟨hm, hru, hde, hnu, hnd⟩ := id hq
   obtain ⟨nn, rfl⟩ := Int.eq_ofNat_of_zero_le hnu
   obtain ⟨dn, rfl⟩ := Int.eq_ofNat_of_zero_le (show 0 ≤ den by omega)
   refine CW.skip ?_
   refine kh3 (zc fun _ kh7 => Sr fun _ kh8 => zm rfl ?_)
   refine WL.call hasF27 rfl rfl (refused_spec v l _ (hv.keep0 hch)) fun v w2 h' => ?_
   obtain ⟨rfl, hC⟩ := h'
   have hch := hch.trans (Chg.any hC)
   refine za rfl (zz (kh8 (Sr fun _ kh10 => zm rfl ?_)))
   refine WL.ev (Ev.neq rfl rfl) rfl ?_
   refine zz (kh10 ?_)
   refine CW.cond rfl (fun hc6 => ?_) (fun hc6 => ?_)
   ·
    try simp only [qs] at hc6
    have h0 : refuseE l ≠ 0 := hc6
    refine Sr fun _ kh12 => zm rfl (za rfl (za rfl (zz (kh12 ?_))))
    refine CW.ret ?_
    refine bodyA.ret2 rfl rfl rfl ?_
    exact ⟨⟨_, _, rfl, .inr ⟨hq, .inl ⟨h0, rfl, rfl⟩⟩⟩, hch⟩
   ·
    try simp only [qs] at hc6
    have h0 : refuseE l = 0 := hc6
    obtain ⟨hl6, hf, hne⟩ := refuse_ok h0
    have hRow := Row.of hf hWl hne
    have hsl := sortP_length l
    have hsW := hRow.w
    refine CW.skip ?_
    refine kh7 (Sr fun _ kh14 => zm rfl ?_)
    refine WL.call hasF29 rfl rfl (qsorted_spec v l _ (hv.keep0 hch) hl6 hf hne) fun v w3 h' => ?_
    obtain ⟨hgs, hC⟩ := h'
    have hNs := hgs.nf hsW (by omega)
    have hch := hch.trans (Chg.any hC)
    refine zm rfl (zm rfl (zm rfl (zm rfl ?_)))
    refine WL.call hasF28 rfl rfl (qat_spec _ (sortP l) nn dn rule mode _ hNs hRow (by omega) (by omega) (by omega) (hg0.keep0 hch)) fun v w4 h' => ?_
    obtain ⟨⟨bits, e, rfl, hA⟩, hC⟩ := h'
    have hch := hch.trans (Chg.any hC)
    refine zx rfl rfl (zx rfl rfl (za rfl (za rfl (zz (kh14 ?_)))))
    refine CW.ret ?_
    refine bodyA.ret2 rfl rfl rfl ?_
    exact ⟨⟨_, _, rfl, .inr ⟨hq, .inr ⟨h0, hA⟩⟩⟩, hch⟩

set_option maxRecDepth 8000 in
set_option maxHeartbeats 4000000 in
theorem Several_spec (v : Value) (l : List Nat) (parts rule mode : Int) (w : World) (hv : NF w v l) (hpr : -9223372036854775808 ≤ parts ∧ parts ≤ 9223372036854775807) (hg : GW w) : Ret Tryz.prog 18 [v, .int .i64 parts, .int .i64 rule, .int .i64 mode] w fun u w' => (∃ vL L e, u = .tuple [vL, .int .i64 e].toArray ∧ GR w' 24 f64v w.heap.size [] vL L ∧ sevR l parts rule mode L e) ∧ Chg [] w w' := by
 have hWl := hv.hw
 have hll := hv.len
 have hov := hv.one
 have hch : Chg [] w w := Chg.refl _ _
 have hg0 := hg
 refine Ret.enter Tryz.func18 rfl rfl ?_
 simp only [args0, Nat.zero_add, Nat.reduceAdd]
 refine Sr fun _ kh1 => za rfl (za rfl (zz (kh1 (zc fun _ kh3 => ?_))))
 refine CW.seqM 25 (decide (¬ partQ parts rule mode)) ?_ ?_
 ·
  refine CW.region fun kR4 kr4 => ?_
  refine zm rfl (zm rfl ?_)
  refine WL.call hasF26 rfl rfl (qmay_spec rule mode _) fun v w1 h' => ?_
  obtain ⟨rfl, rfl⟩ := h'
  refine WL.ev (Ev.not rfl) rfl ?_
  refine zm rfl ?_
  refine WL.boolCase (fun hg1 => ?_) (fun hg1 => ?_)
  ·
   try simp only [qs] at hg1
   refine zv rfl (zv rfl (zt rfl rfl (zm rfl (zv rfl (zv rfl (zt rfl rfl ?_))))))
   refine WL.nil (kr4 _ _ _ ?_)
   refine ⟨rfl, rfl, Subs.consB rfl ?_ ?_⟩
   ·
    first | exact (decide_eq_true (by unfold partQ; omega)).symm | exact (decide_eq_false (by unfold partQ; omega)).symm | exact decide_eq_decide.2 (by unfold partQ; omega)
   ·
    exact SMg
  ·
   try simp only [qs] at hg1
   refine zw rfl (zm rfl (zw rfl ?_))
   refine WL.ev (Ev.lss rfl rfl) rfl ?_
   refine ze rfl rfl (zm rfl ?_)
   refine WL.boolCase (fun hg2 => ?_) (fun hg2 => ?_)
   ·
    try simp only [qs] at hg2
    refine zv rfl (zv rfl (zt rfl rfl ?_))
    refine WL.nil (kr4 _ _ _ ?_)
    refine ⟨rfl, rfl, Subs.consB rfl ?_ ?_⟩
    ·
     first | exact (decide_eq_true (by unfold partQ; omega)).symm | exact (decide_eq_false (by unfold partQ; omega)).symm | exact decide_eq_decide.2 (by unfold partQ; omega)
    ·
     exact SMg
   ·
    try simp only [qs] at hg2
    refine zw rfl (zm rfl (zw rfl ?_))
    refine WL.ev (Ev.gtr rfl rfl) rfl ?_
    refine ze rfl rfl ?_
    refine WL.nil (kr4 _ _ _ ?_)
    refine ⟨rfl, rfl, Subs.consB rfl ?_ ?_⟩
    ·
     first | exact (decide_eq_true (by unfold partQ; omega)).symm | exact (decide_eq_false (by unfold partQ; omega)).symm | exact decide_eq_decide.2 (by unfold partQ; omega)
    ·
     exact SMg
 ·
  refine CW.cond rfl (fun hc3 => ?_) (fun hc3 => ?_)
  ·
   try simp only [qs] at hc3
   have hq : ¬ partQ parts rule mode := hc3
   refine Sr fun _ kh5 => za rfl (za rfl (zz (kh5 ?_)))
   refine CW.ret ?_
   refine bodyA.ret2 rfl rfl rfl ?_
   exact ⟨⟨_, [], _, rfl, GR.nil, .inl ⟨hq, rfl, rfl⟩⟩, hch⟩
  ·
   try simp only [qs] at hc3
   have hq : partQ parts rule mode := hc3
   obtain ⟨hm, hru, hp1, hp2⟩ := id hq
   obtain ⟨pn, rfl⟩ := Int.eq_ofNat_of_zero_le (show 0 ≤ parts by omega)
   refine CW.skip ?_
   refine kh3 (zc fun _ kh7 => Sr fun _ kh8 => zm rfl ?_)
   refine WL.call hasF27 rfl rfl (refused_spec v l _ (hv.keep0 hch)) fun v w2 h' => ?_
   obtain ⟨rfl, hC⟩ := h'
   have hch := hch.trans (Chg.any hC)
   refine za rfl (zz (kh8 (Sr fun _ kh10 => zm rfl ?_)))
   refine WL.ev (Ev.neq rfl rfl) rfl ?_
   refine zz (kh10 ?_)
   refine CW.cond rfl (fun hc4 => ?_) (fun hc4 => ?_)
   ·
    try simp only [qs] at hc4
    have h0 : refuseE l ≠ 0 := hc4
    refine Sr fun _ kh12 => zm rfl (za rfl (za rfl (zz (kh12 ?_))))
    refine CW.ret ?_
    refine bodyA.ret2 rfl rfl rfl ?_
    exact ⟨⟨_, [], _, rfl, GR.nil, .inr ⟨hq, .inl ⟨h0, rfl, rfl⟩⟩⟩, hch⟩
   ·
    try simp only [qs] at hc4
    have h0 : refuseE l = 0 := hc4
    obtain ⟨hl6, hf, hne⟩ := refuse_ok h0
    have hRow := Row.of hf hWl hne
    have hsl := sortP_length l
    have hsW := hRow.w
    refine CW.skip ?_
    refine kh7 (Sr fun _ kh14 => zm rfl ?_)
    refine WL.call hasF29 rfl rfl (qsorted_spec v l _ (hv.keep0 hch) hl6 hf hne) fun vs w3 h' => ?_
    obtain ⟨hgs, hC⟩ := h'
    have hlo := hch.size
    generalize hSs : sortP l = s at *
    have hone := hgs.one
    have hch := hch.trans (Chg.any hC)
    refine za rfl (zz (kh14 (Sr fun _ kh16 => zm rfl ?_)))
    refine WL.ev (Ev.addIn rfl rfl (by omega)) rfl ?_
    rw [show (pn : Int) + 1 = ((pn + 1 : Nat) : Int) by omega]
    have hgs0 := hgs
    refine WL.makeF ((pn + 1)) ((pn + 1)) rfl rfl (by omega) (by omega) (by omega) (by omega) (by omega) rfl fun b35 wm35 hb35 hcm35 hge35 => ?_
    have hgehch35 := Nat.le_trans hch.size hge35
    have hch := hch.trans (Chg.any hcm35)
    have hgs := hgs.keep0 hcm35
    refine za rfl (zz (kh16 (zc fun _ kh18 => zc fun _ kh19 => ?_)))
    have hgs := (hgs0.mono (X' := [b35]) (Nat.le_refl _) (by intro b hb; simp only [List.mem_singleton] at hb; subst hb; exact .inr (.inr hge35))).keep0 hcm35
    obtain ⟨lo, hgs⟩ : ∃ lo, GR _ 24 f64v lo [b35] vs s := ⟨_, hgs⟩
    refine CW.region fun kR20 kr20 => ?_
    refine zm rfl (zn rfl (zm rfl ?_))
    refine WL.nil (kr20 _ _ _ (kh19 ?_))
    refine CW.block ?_
    refine CW.loop (S := fun g : Nat × List Nat => [(1, .int .i64 (pn : Int)), (2, .int .i64 rule), (3, .int .i64 mode), (11, vs), (12, .slice (some ⟨b35, 0, none⟩) (pn + 1) (pn + 1)), (37, .int .i64 ((pn + 1 : Nat) : Int)), (38, .int .i64 (g.1 : Int))]) (Inv := KSv s vs pn rule mode b35 lo w) (mu := fun g => pn + 1 - g.1) ((0, List.replicate (pn + 1) 0)) ?_ ?_ ?_
    ·
     exact ⟨Nat.zero_le _, by simp, fun k hk => absurd hk (Nat.not_lt_zero _), hb35, hgs, hch⟩
    ·
     exact SLp
    ·
     rintro ⟨i, L⟩ wr ⟨hi, hlen, hfk, hb35, hgs, hch⟩
     dsimp only at hi hlen hfk hb35 hgs hch
     dsimp only
     refine Sr fun _ kh21 => ?_
     refine WL.ev (Ev.lss rfl rfl) rfl ?_
     refine zz (kh21 (zc fun _ kh23 => ?_))
     refine CW.cond rfl (fun hc5 => ?_) (fun hc5 => ?_)
     ·
      try simp only [qs] at hc5
      refine CW.skip ?_
      refine kh23 (zc fun _ kh24 => ?_)
      refine CW.block ?_
      refine Sr fun _ kh25 => zm rfl (za rfl (zz (kh25 ?_)))
      refine CW.region fun kR27 kr27 => ?_
      refine zm rfl (zm rfl (zm rfl (zm rfl (zm rfl (zm rfl (zm rfl ?_))))))
      refine WL.call hasF28 rfl rfl (qat_spec _ s i pn rule mode _ (hgs.nf hsW (by omega)) hRow (by omega) (by omega) (by omega) (hg0.keep0 hch)) fun v w4 h' => ?_
      obtain ⟨⟨bits, e, rfl, hA⟩, hC⟩ := h'
      have hch := hch.trans (Chg.any hC)
      have hb35 := hb35.keep0 hC
      have hgs := hgs.keep0 hC
      refine zm rfl (zx rfl rfl (zx rfl rfl ?_))
      refine WL.ev (Ev.ixB (i) rfl rfl (by omega) (by omega)) rfl ?_
      refine WL.storeF rfl rfl hb35 (by first | omega | (simp; done) | (simp; omega)) fun ws7 hb35_ hcs7 => ?_
      have hch := hch.s1 hcs7
      have hgs := hgs.keep hcs7 (fun y hy => by simp only [List.mem_singleton] at hy; subst hy; first | exact .inl (by simp) | exact .inr (.inl (by omega)) | exact .inr (.inr (by omega)))
      have hb35 := hb35_
      refine WL.nil (kr27 _ _ _ (kh24 ?_))
      refine CW.region fun kR28 kr28 => ?_
      first | refine WL.ev (Ev.addIn rfl rfl (by omega)) rfl ?_ | refine WL.ev (Ev.add rfl rfl) rfl ?_
      refine zm rfl ?_
      refine WL.nil (kr28 _ _ _ ?_)
      refine ⟨rfl, (i + 1, L.set i bits), ?_, ?_, ?_⟩
      ·
       exact SLp
      ·
       exact ⟨by show i + 1 ≤ pn + 1; omega, by dsimp only; rw [List.length_set, hlen], sev_step (Q := fun k => atR s k pn rule mode) hfk (by omega) hA, hb35, hgs, hch⟩
      ·
       show pn + 1 - (i + 1) < pn + 1 - i; omega
     ·
      try simp only [qs] at hc5
      have hiX : i = pn + 1 := by omega
      subst hiX
      refine CW.exit ?_
      refine kh18 (Sr fun _ kh29 => zm rfl (za rfl (za rfl (zz (kh29 ?_)))))
      refine CW.ret ?_
      refine bodyA.ret2 rfl rfl rfl ?_
      refine ⟨⟨_, L, _, rfl, GR.of_FB hb35 hlen.symm (by omega) hgehch35 (by simp), .inr ⟨hq, .inr ⟨h0, rfl, hlen, fun k hk => ?_⟩⟩⟩, hch⟩
      rw [hSs]
      exact hfk k (by have : (pn : Int).toNat = pn := rfl; omega)

set_option maxRecDepth 8000 in
set_option maxHeartbeats 4000000 in
theorem Share_spec (v : Value) (l : List Nat) (x : Nat) (w : World) (hv : NF w v l) : Ret Tryz.prog 22 [v, .float .f64 x] w fun u w' => (∃ a b e, u = .tuple [.int .i64 a, .int .i64 b, .int .i64 e].toArray ∧ shareR l x a b e) ∧ Chg [] w w' := by
 have hv0 := hv
 obtain ⟨⟨al, cl, rfl, hcapl, hrl⟩, hWl, hll⟩ := hv
 have hch : Chg [] w w := Chg.refl _ _
 refine Ret.enter Tryz.func22 rfl rfl ?_
 simp only [args0, Nat.zero_add, Nat.reduceAdd]
 refine Sr fun _ kh1 => za rfl (za rfl (za rfl (zz (kh1 (Sr fun _ kh3 => zm rfl ?_)))))
 refine WL.call hasF27 rfl rfl (refused_spec _ l _ (hv0.keep0 hch)) fun v w1 h' => ?_
 obtain ⟨rfl, hC⟩ := h'
 have h3 := refuse_three l
 have hch := hch.trans (Chg.any hC)
 refine za rfl (zz (kh3 (zc fun _ kh5 => ?_)))
 refine CW.seqM 15 (decide (refuseE l = 2 ∨ refuseE l = 30)) ?_ ?_
 ·
  refine CW.region fun kR6 kr6 => ?_
  refine zm rfl (zq rfl rfl (zm rfl ?_))
  refine WL.boolCase (fun hg1 => ?_) (fun hg1 => ?_)
  ·
   try simp only [qs] at hg1
   refine zv rfl (zv rfl (zt rfl rfl ?_))
   refine WL.nil (kr6 _ _ _ ?_)
   refine ⟨rfl, rfl, Subs.consB rfl ?_ ?_⟩
   ·
    first | (simp; omega) | (simp_all; done) | (refine decide_eq_decide.2 ?_; omega)
   ·
    exact SMg
  ·
   try simp only [qs] at hg1
   refine zw rfl (zm rfl (zw rfl (zq rfl rfl (ze rfl rfl ?_))))
   refine WL.nil (kr6 _ _ _ ?_)
   refine ⟨rfl, rfl, Subs.consB rfl ?_ ?_⟩
   ·
    first | (simp; omega) | (simp_all; done) | (refine decide_eq_decide.2 ?_; omega)
   ·
    exact SMg
 ·
  refine CW.cond rfl (fun hc2 => ?_) (fun hc2 => ?_)
  ·
   try simp only [qs] at hc2
   have hq : refuseE l = 2 ∨ refuseE l = 30 := hc2
   refine Sr fun _ kh7 => zm rfl (za rfl (za rfl (za rfl (zz (kh7 ?_)))))
   refine CW.ret ?_
   refine bodyA.ret3 rfl rfl rfl rfl ?_
   refine ⟨⟨_, _, _, rfl, ?_⟩, hch⟩
   exact .inl ⟨hq, rfl, rfl, rfl⟩
  ·
   try simp only [qs] at hc2
   have hq : ¬ (refuseE l = 2 ∨ refuseE l = 30) := hc2
   refine CW.skip ?_
   refine kh5 (zc fun _ kh9 => Sr fun _ kh10 => zm rfl (zm rfl ?_))
   refine WL.ev (Ev.fneq rfl rfl) rfl ?_
   rw [bne, order_self_eq, Bool.not_not]
   refine zz (kh10 ?_)
   refine CW.cond rfl (fun hc3 => ?_) (fun hc3 => ?_)
   ·
    try simp only [qs] at hc3
    have hx : isNaN x = true := hc3
    refine Sr fun _ kh12 => za rfl (za rfl (za rfl (zz (kh12 ?_))))
    refine CW.ret ?_
    refine bodyA.ret3 rfl rfl rfl rfl ?_
    refine ⟨⟨_, _, _, rfl, ?_⟩, hch⟩
    exact .inr ⟨hq, .inl ⟨hx, rfl, rfl, rfl⟩⟩
   ·
    try simp only [qs] at hc3
    have hx : isNaN x = false := by simpa using hc3
    refine CW.skip ?_
    refine kh9 (zc fun _ kh14 => Sr fun _ kh15 => zm rfl ?_)
    refine WL.ev (Ev.neq rfl rfl) rfl ?_
    refine zz (kh15 ?_)
    refine CW.cond rfl (fun hc4 => ?_) (fun hc4 => ?_)
    ·
     try simp only [qs] at hc4
     have h0 : refuseE l ≠ 0 := hc4
     refine Sr fun _ kh17 => zm rfl (za rfl (za rfl (za rfl (zz (kh17 ?_)))))
     refine CW.ret ?_
     refine bodyA.ret3 rfl rfl rfl rfl ?_
     refine ⟨⟨_, _, _, rfl, ?_⟩, hch⟩
     exact .inr ⟨hq, .inr ⟨hx, .inl ⟨h0, rfl, rfl, rfl⟩⟩⟩
    ·
     try simp only [qs] at hc4
     have h0 : refuseE l = 0 := hc4
     refine CW.skip ?_
     refine kh14 (zc fun _ kh19 => Sr fun _ kh20 => zm rfl (zn rfl (zm rfl (zz (kh20 ?_)))))
     refine CW.block ?_
     refine CW.loop (S := fun i : Nat => [(0, .slice al l.length cl), (1, .float .f64 x), (4, .int .i64 (cntLE (l.take i) x : Int)), (24, .int .i64 (l.length : Int)), (25, .int .i64 (i : Int))]) (Inv := KSs l x w) (mu := fun i => l.length - i) (0) ?_ ?_ ?_
     ·
      exact ⟨Nat.zero_le _, hch⟩
     ·
      exact SLp
     ·
      rintro i wr ⟨hi, hch⟩
      have hle := cntLE_le (l.take i) x
      rw [List.length_take] at hle
      refine Sr fun _ kh22 => ?_
      refine WL.ev (Ev.lss rfl rfl) rfl ?_
      refine zz (kh22 (zc fun _ kh24 => ?_))
      refine CW.cond rfl (fun hc5 => ?_) (fun hc5 => ?_)
      ·
       try simp only [qs] at hc5
       have hst := cntLE_step (l := l) (x := x) (i := i) (by omega)
       refine CW.skip ?_
       refine kh24 (zc fun _ kh25 => ?_)
       refine CW.block ?_
       refine Sr fun _ kh26 => zm rfl (za rfl (zz (kh26 (Sr fun _ kh28 => zm rfl (zm rfl ?_)))))
       refine WL.ev (Ev.ixR (i) rfl rfl (hrl.keep0 hch) (by omega) (by omega) (by simp; omega)) rfl ?_
       refine WL.ev (Ev.load rfl rfl ((hrl.keep0 hch).f64 (by first | omega | (simp; omega)))) rfl ?_
       refine zm rfl ?_
       refine WL.ev (Ev.fleq rfl rfl) rfl ?_
       refine zz (kh28 ?_)
       refine CW.cond rfl (fun hc6 => ?_) (fun hc6 => ?_)
       ·
        try simp only [qs] at hc6
        rw [if_pos (by rw [Bool.or_eq_true]; exact hc6)] at hst
        refine CW.region fun kR30 kr30 => ?_
        refine zm rfl ?_
        refine WL.ev (Ev.addIn rfl rfl (by omega)) rfl ?_
        rw [show ((cntLE (l.take i) x : Nat) : Int) + 1 = ((cntLE (l.take (i + 1)) x : Nat) : Int) by omega]
        refine za rfl ?_
        refine WL.nil (kr30 _ _ _ (kh25 ?_))
        refine CW.region fun kR31 kr31 => ?_
        first | refine WL.ev (Ev.addIn rfl rfl (by omega)) rfl ?_ | refine WL.ev (Ev.add rfl rfl) rfl ?_
        refine zm rfl ?_
        refine WL.nil (kr31 _ _ _ ?_)
        refine ⟨rfl, i + 1, ?_, ?_, ?_⟩
        ·
         exact SLp
        ·
         exact ⟨by omega, hch⟩
        ·
         show l.length - (i + 1) < l.length - i; omega
       ·
        try simp only [qs] at hc6
        rw [if_neg (by rw [hc6]; exact Bool.false_ne_true)] at hst
        have hst2 : cntLE (l.take (i + 1)) x = cntLE (l.take i) x := hst
        rw [← hst2]
        refine CW.skip ?_
        refine kh25 ?_
        refine CW.region fun kR32 kr32 => ?_
        first | refine WL.ev (Ev.addIn rfl rfl (by omega)) rfl ?_ | refine WL.ev (Ev.add rfl rfl) rfl ?_
        refine zm rfl ?_
        refine WL.nil (kr32 _ _ _ ?_)
        refine ⟨rfl, i + 1, ?_, ?_, ?_⟩
        ·
         exact SLp
        ·
         exact ⟨by omega, hch⟩
        ·
         show l.length - (i + 1) < l.length - i; omega
      ·
       try simp only [qs] at hc5
       have hiX : i = l.length := by omega
       subst hiX
       refine CW.exit ?_
       refine kh19 (Sr fun _ kh33 => zm rfl (zm rfl (zn rfl (za rfl (za rfl (za rfl (zz (kh33 ?_))))))))
       refine CW.ret ?_
       refine bodyA.ret3 rfl rfl rfl rfl ?_
       refine ⟨⟨_, _, _, rfl, ?_⟩, hch⟩
       refine .inr ⟨hq, .inr ⟨hx, .inr ⟨h0, ?_, rfl, rfl⟩⟩⟩
       rw [List.take_length]; rfl

end Go.Proofs.YtbdkecpalhpmdaaGreatDoor

/- Package steelyardlaw16: live, exact. No condition. -/
namespace Go.Proofs.YtbdkecpalhpmdaaGreatDoor
open Go Sx Wd Fl

theorem qexact_spec (x y : Nat) (w : World) : Ret Tryz.prog 14 [.float .f64 x, .float .f64 y] w fun u w' => u = .bool (decide (x = y)) ∧ w = w' := by
 refine Ret.enter Tryz.func14 rfl rfl ?_
 simp only [args0, Nat.zero_add, Nat.reduceAdd]
 refine Sr fun _ kh1 => za rfl (zz (kh1 (Sr fun _ kh3 => zm rfl ?_)))
 refine WL.ev (Ev.ext rfl (ext30 _ _)) rfl ?_
 refine zm rfl ?_
 refine WL.ev (Ev.ext rfl (ext30 _ _)) rfl ?_
 refine zq rfl rfl (za rfl (zz (kh3 ?_)))
 refine CW.ret ?_
 refine bodyA.ret1 rfl rfl ?_
 refine ⟨congrArg Value.bool (decide_eq_decide.2 (by omega)), rfl⟩

set_option maxRecDepth 8000 in
set_option maxHeartbeats 2000000 in
theorem qlive_spec (w : World) (hg : GW w) : Ret Tryz.prog 12 [] w fun u w' => u = .bool true ∧ Chg [] w w' := by
 have hch : Chg [] w w := Chg.refl _ _
 have hg0 := hg
 refine Ret.enter Tryz.func12 rfl rfl ?_
 simp only [args0, Nat.zero_add, Nat.reduceAdd]
 refine Sr fun _ kh1 => za rfl (zz (kh1 (Sr fun _ kh3 => ?_)))
 refine WL.buildSlice (m := 4) (cs := [f64v (4621819117588971520), f64v (4630826316843712512), f64v (4626322717216342016), f64v (4629137466983448576)]) (by decide) (by decide) rfl (by kernel_rfl) rfl fun b9 w9 hn9 => ?_
 have hcm9 := hn9.chg
 have hge9 := hn9.ge
 have hb9 : FB w9 b9 _ [4621819117588971520, 4630826316843712512, 4626322717216342016, 4629137466983448576] := hn9.at_
 have hgehch9 := Nat.le_trans hch.size hge9
 have hch := hch.trans (Chg.any hcm9)
 refine za rfl (zz (kh3 (Sr fun _ kh5 => zm rfl ?_)))
 refine WL.call hasF13 rfl rfl (Quantile_spec _ lvq 1 4 4 0 _ (NF.of_row hb9.row (by decide) (by decide) rfl (by decide)) (by decide) (by decide) (hg0.keep0 hch)) fun v w1 h' => ?_
 obtain ⟨⟨bits, e, rfl, hM⟩, hC12⟩ := h'
 obtain ⟨rfl, rfl⟩ := live_quant hM
 have hch := hch.trans (Chg.any hC12)
 have hb9 := hb9.keep0 hC12
 refine zm rfl (zx rfl rfl (zx rfl rfl (za rfl (za rfl (zz (kh5 (Sr fun _ kh7 => zm rfl ?_)))))))
 refine WL.call hasF22 rfl rfl (Share_spec _ lvq 4626322717216342016 _ (NF.of_row hb9.row (by decide) (by decide) rfl (by decide))) fun v w2 h' => ?_
 obtain ⟨⟨a, b, e, rfl, hM⟩, hC17⟩ := h'
 obtain ⟨ha, hb, rfl⟩ := share_fin hM lvq_ok (by decide +kernel)
 rw [live_share] at ha
 obtain rfl : a = 2 := ha
 obtain rfl : b = 4 := hb
 have hch := hch.trans (Chg.any hC17)
 have hb9 := hb9.keep0 hC17
 refine zm rfl (zx rfl rfl (zx rfl rfl (zx rfl rfl (za rfl (za rfl (za rfl (zz (kh7 (Sr fun _ kh9 => zm rfl ?_)))))))))
 refine WL.call hasF18 rfl rfl (Several_spec _ lvq 2 3 0 _ (NF.of_row hb9.row (by decide) (by decide) rfl (by decide)) (by decide) (hg0.keep0 hch)) fun v w3 h' => ?_
 obtain ⟨⟨vL, Ls, e, rfl, hgs, hM⟩, hC23⟩ := h'
 obtain ⟨rfl, hL3, hL1⟩ := live_sev hM
 obtain ⟨aL, cL, rfl, hcL, hrL⟩ := hgs.row
 have hch := hch.trans (Chg.any hC23)
 have hb9 := hb9.keep0 hC23
 refine zm rfl (zx rfl rfl (zx rfl rfl (za rfl (za rfl (zz (kh9 (Sr fun _ kh11 => zm rfl (zq rfl rfl (zm rfl (zw rfl (zm rfl (zw rfl ?_))))))))))))
 refine WL.ev (Ev.feql rfl rfl) rfl ?_
 rw [show (FloatKind.f64.format.order 4625619029774565376 4625619029774565376 == some .eq) = true by rw [Fl.order_self_eq]; decide]
 refine zt rfl rfl (zm rfl (zw rfl (zm rfl (zw rfl (zq rfl rfl (zt rfl rfl (zm rfl (zw rfl (zm rfl (zw rfl (zq rfl rfl (zt rfl rfl (zm rfl (zw rfl (zm rfl (zw rfl (zq rfl rfl (zt rfl rfl (zm rfl (zw rfl (zm rfl (zw rfl (zq rfl rfl ?_)))))))))))))))))))))))
 refine zt rfl rfl (zm rfl (zw rfl (zm rfl (zw rfl (zn rfl (zw rfl (zq rfl rfl ?_)))))))
 rw [hL3]
 refine zt rfl rfl (zm rfl (zw rfl (zm rfl (zw rfl ?_))))
 refine WL.ev (Ev.ixR (1) rfl rfl hrL (by omega) (by omega) (by simp; omega)) rfl ?_
 refine zw rfl ?_
 refine WL.ev (Ev.load rfl rfl (hrL.f64 (by first | omega | (simp; omega)))) rfl ?_
 refine zw rfl ?_
 refine WL.ev (Ev.feql rfl rfl) rfl ?_
 rw [hL1]
 rw [show (FloatKind.f64.format.order 4627730092099895296 4627730092099895296 == some .eq) = true by rw [Fl.order_self_eq]; decide]
 refine zt rfl rfl (za rfl (zz (kh11 ?_)))
 refine CW.ret ?_
 refine bodyA.ret1 rfl rfl ?_
 exact ⟨rfl, hch⟩

end Go.Proofs.YtbdkecpalhpmdaaGreatDoor

/- What the statements on quantiles need of the answers. No condition. -/
namespace Go.Proofs.YtbdkecpalhpmdaaGreatDoor
open Go Sx Wd Fl

theorem quant_at {l : List Nat} {nu de ru mo : Int} {b : Nat} {e : Int} (h : quantR l nu de ru mo b e) (ha : askQ nu de ru mo) (hr : refuseE l = 0) : atR (sortP l) nu.toNat de.toNat ru mo b e := by
  rcases h with ⟨q, _⟩ | ⟨_, ⟨q, _⟩ | ⟨_, h⟩⟩
  · exact absurd ha q
  · exact absurd hr q
  · exact h
/-! ### The least and the greatest one -/
section
variable {P : Program} {s : Sl} {w : World} {ty : TypeId} {x y : Operand} {t t' : TypeId} {a b : Nat}
end
end Go.Proofs.YtbdkecpalhpmdaaGreatDoor

/- Package steelyardlaw16: QuantLong. No condition. -/
namespace Go.Proofs.YtbdkecpalhpmdaaGreatDoor
open Go Sx Wd Fl

structure KLq (n x b : Nat) (w0 : World) (i : Nat) (w : World) : Prop where
  hi : i ≤ n
  hB : FB w b 24 (List.replicate i x ++ List.replicate (n - i) 0)
  ch : Chg [] w0 w
theorem refuse_rep {n x : Nat} (hx : (splitP x).cls ≤ 2) (hn : n ≠ 0) : refuseE (List.replicate n x) = if 65536 < n then 2 else 0 := by
  unfold refuseE
  rw [List.length_replicate]
  split
  · rfl
  · rw [if_neg (fun q => q (fun z hz => by rw [List.eq_of_mem_replicate hz]; exact hx)), if_neg (fun q => hn (by have := congrArg List.length q; simpa using this))]
theorem sort_rep {n x : Nat} (hx : (splitP x).cls ≤ 2) (hx64 : x < 18446744073709551616) : sortP (List.replicate n x) = List.replicate n x :=
  (sortP_eq (List.Perm.refl _) (List.pairwise_replicate.2 (.inr (Int.le_refl _))) (finL_nums (fun z hz => by rw [List.eq_of_mem_replicate hz]; exact hx) (fun z hz => by rw [List.eq_of_mem_replicate hz]; exact hx64))).symm
theorem quant_long {l : List Nat} {b : Nat} {e : Int} (h : quantR l 2147483647 2147483648 4 0 b e) (hr : refuseE l = 2) : b = 0 ∧ e = 2 := by
  rcases h with ⟨q, _⟩ | ⟨_, ⟨_, hb, he⟩ | ⟨q, _⟩⟩
  · exact absurd (by decide) q
  · exact ⟨hb, he.trans hr⟩
  · rw [hr] at q; cases q
theorem quant_rep {n x b : Nat} {e : Int} (h : quantR (List.replicate n x) 2147483647 2147483648 4 0 b e) (hx : (splitP x).cls ≤ 2) (hx64 : x < 18446744073709551616) (hn : n ≠ 0) (hn2 : n ≤ 65536) : e = 0 ∧ b = x := by
  have hA := quant_at h (by decide) (by rw [refuse_rep hx hn, if_neg (by omega)])
  rw [sort_rep hx hx64] at hA
  exact at_like hA hn (by decide) (by decide) (by decide) hx hx64
theorem sev_long {l L : List Nat} {p e : Int} (h : sevR l p 0 0 L e) (hp : 65536 < p) : L = [] ∧ e = 1 := by
  rcases h with ⟨_, h1, h2⟩ | ⟨q, _⟩
  · exact ⟨h1, h2⟩
  · obtain ⟨_, _, _, q4⟩ := q; omega
theorem sev_some {l L : List Nat} {n : Nat} {e : Int} (h : sevR l (n : Int) 0 0 L e) (hn : 1 ≤ n) (hn2 : n ≤ 65536) (hr : refuseE l = 0) : e = 0 ∧ L.length = n + 1 := by
  rcases h with ⟨q, _⟩ | ⟨_, ⟨q, _⟩ | ⟨_, he, hl, _⟩⟩
  · exact absurd ⟨by decide, by decide, by omega, by omega⟩ q
  · exact absurd hr q
  · exact ⟨he, hl⟩
theorem share_long {l : List Nat} {x : Nat} {a b e : Int} (h : shareR l x a b e) (hr : refuseE l = 2) : a = 0 ∧ b = 0 ∧ e = 2 := by
  rcases h with ⟨_, h1, h2, h3⟩ | ⟨q, _⟩
  · exact ⟨h1, h2, h3.trans hr⟩
  · exact absurd (.inl hr) q
theorem count_rep (n x : Nat) : countLE (List.replicate n x) x = n := by
  unfold countLE
  rw [List.filter_eq_self.2 (fun z hz => by rw [List.eq_of_mem_replicate hz]; exact decide_eq_true (Int.le_refl _)), List.length_replicate]

set_option maxRecDepth 8000 in
set_option maxHeartbeats 2000000 in
theorem QuantLong_spec (n : Int) (x : Nat) (w : World) (hg : GW w) (hn : -9223372036854775808 ≤ n ∧ n ≤ 9223372036854775807) (hx : x < 18446744073709551616) : Ret Tryz.prog 7 [.int .i64 n, .float .f64 x] w fun u w' => u = .bool true ∧ Chg [] w w' := by
 have hch : Chg [] w w := Chg.refl _ _
 have hg0 := hg
 refine Ret.enter Tryz.func7 rfl rfl ?_
 simp only [args0, Nat.zero_add, Nat.reduceAdd]
 refine Sr fun _ kh1 => za rfl (zz (kh1 (Sr fun _ kh3 => ?_)))
 refine WL.call hasF12 rfl rfl (qlive_spec _ (hg0.keep0 hch)) fun v w1 h' => ?_
 obtain ⟨rfl, hC⟩ := h'
 have hch := hch.trans (Chg.any hC)
 refine za rfl (zz (kh3 (zc fun _ kh5 => Sr fun _ kh6 => zm rfl ?_)))
 refine WL.ev (Ev.lss rfl rfl) rfl ?_
 refine zm rfl ?_
 refine WL.boolCase (fun hg1 => ?_) (fun hg1 => ?_)
 ·
  try simp only [qs] at hg1
  have hq := hg1
  refine zv rfl (zv rfl (zt rfl rfl (zm rfl (zv rfl (zv rfl (zv rfl (zv rfl (zt rfl rfl (zz (kh6 ?_))))))))))
  refine CW.condT rfl ?_
  refine Sr fun _ kh8 => zm rfl (za rfl (zz (kh8 ?_)))
  refine CW.ret ?_
  refine bodyA.ret1 rfl rfl ?_
  exact ⟨rfl, hch⟩
 ·
  try simp only [qs] at hg1
  have h1 : 65535 ≤ n := by have := hg1; omega
  refine zw rfl (zm rfl (zw rfl ?_))
  refine WL.ev (Ev.gtr rfl rfl) rfl ?_
  refine ze rfl rfl (zm rfl ?_)
  refine WL.boolCase (fun hg2 => ?_) (fun hg2 => ?_)
  ·
   try simp only [qs] at hg2
   have hq := hg2
   refine zv rfl (zv rfl (zv rfl (zv rfl (zt rfl rfl (zz (kh6 ?_))))))
   refine CW.condT rfl ?_
   refine Sr fun _ kh10 => zm rfl (za rfl (zz (kh10 ?_)))
   refine CW.ret ?_
   refine bodyA.ret1 rfl rfl ?_
   exact ⟨rfl, hch⟩
  ·
   try simp only [qs] at hg2
   have h2 : n ≤ 65538 := by have := hg2; omega
   refine zw rfl (zm rfl (zw rfl (zm rfl (zw rfl ?_))))
   refine WL.fsubSelf rfl rfl rfl fun r25 w25 hc25 hr25 ho25 => ?_
   have hch := hch.trans hc25
   refine zw rfl ?_
   refine WL.ev (Ev.fneq rfl rfl) rfl ?_
   rw [show (FloatKind.f64.format.order r25 0 != some .eq) = !decide ((splitP x).cls ≤ 2) from by rw [← ho25]; rfl]
   refine ze rfl rfl (zz (kh6 ?_))
   refine CW.cond rfl (fun hc3 => ?_) (fun hc3 => ?_)
   ·
    try simp only [qs] at hc3
    have hq := hc3
    refine Sr fun _ kh12 => zm rfl (za rfl (zz (kh12 ?_)))
    refine CW.ret ?_
    refine bodyA.ret1 rfl rfl ?_
    exact ⟨rfl, hch⟩
   ·
    try simp only [qs] at hc3
    have hfx : (splitP x).cls ≤ 2 := by have := hc3; simpa using this
    obtain ⟨nn, rfl⟩ := Int.eq_ofNat_of_zero_le (show 0 ≤ n by omega)
    refine CW.skip ?_
    refine kh5 (Sr fun _ kh14 => zm rfl ?_)
    refine WL.makeF (nn) (nn) rfl rfl (by omega) (by omega) (by omega) (by omega) (by omega) rfl fun b30 wm30 hb30 hcm30 hge30 => ?_
    have hgehch30 := Nat.le_trans hch.size hge30
    have hch := hch.trans (Chg.any hcm30)
    refine za rfl (zz (kh14 (zc fun _ kh16 => Sr fun _ kh17 => za rfl (zz (kh17 ?_)))))
    refine CW.block ?_
    refine CW.loop (S := fun i : Nat => [(0, .int .i64 (nn : Int)), (1, .float .f64 x), (5, .bool true), (6, .slice (some ⟨b30, 0, none⟩) nn nn), (7, .int .i64 (i : Int))]) (Inv := KLq nn x b30 w) (mu := fun i => nn - i) (0) ?_ ?_ ?_
    ·
     exact ⟨Nat.zero_le _, hb30, hch⟩
    ·
     exact SLp
    ·
     rintro i wr ⟨hi, hb30, hch⟩
     refine zc fun _ kh19 => Sr fun _ kh20 => zm rfl (zm rfl ?_)
     refine WL.ev (Ev.lss rfl rfl) rfl ?_
     refine zz (kh20 ?_)
     refine CW.cond rfl (fun hc4 => ?_) (fun hc4 => ?_)
     ·
      try simp only [qs] at hc4
      obtain ⟨m, hmm⟩ : ∃ m, nn - i = m + 1 := ⟨nn - i - 1, by omega⟩
      rw [hmm] at hb30
      have hlA : (List.replicate i x ++ List.replicate (m + 1) 0).length = nn := by simp; omega
      generalize hA : List.replicate i x ++ List.replicate (m + 1) 0 = LA at *
      refine CW.skip ?_
      refine kh19 (zc fun _ kh22 => ?_)
      refine CW.block ?_
      refine CW.region fun kR23 kr23 => ?_
      refine zm rfl (zm rfl (zm rfl ?_))
      refine WL.ev (Ev.ixB (i) rfl rfl (by omega) (by omega)) rfl ?_
      refine WL.storeF rfl rfl hb30 (by first | omega | (simp; done) | (simp; omega)) fun ws1 hb30_ hcs1 => ?_
      have hch := hch.s1 hcs1
      have hb30 := hb30_
      refine WL.nil (kr23 _ _ _ (kh22 ?_))
      refine CW.region fun kR24 kr24 => ?_
      refine zm rfl ?_
      first | refine WL.ev (Ev.addIn rfl rfl (by omega)) rfl ?_ | refine WL.ev (Ev.add rfl rfl) rfl ?_
      refine za rfl ?_
      refine WL.nil (kr24 _ _ _ ?_)
      refine ⟨rfl, i + 1, ?_, ?_, ?_⟩
      ·
       exact SLp
      ·
       refine ⟨by omega, ?_, hch⟩
       rw [← hA, rep_set] at hb30; rw [show nn - (i + 1) = m by omega]; exact hb30
      ·
       show nn - (i + 1) < nn - i; omega
     ·
      try simp only [qs] at hc4
      have hiX : i = nn := by omega
      subst hiX
      rw [Nat.sub_self] at hb30
      simp only [List.replicate_zero, List.append_nil] at hb30
      have hi0 : i ≠ 0 := by omega
      refine CW.exit ?_
      refine kh16 (Sr fun _ kh25 => zm rfl ?_)
      refine WL.call hasF13 rfl rfl (Quantile_spec _ (List.replicate i x) 2147483647 2147483648 4 0 _ (NF.of_row hb30.row (by intro z hz; rw [List.eq_of_mem_replicate hz]; exact hx) (by simp; omega) (by simp) (by omega)) (by decide) (by decide) (hg0.keep0 hch)) fun v w2 h' => ?_
      obtain ⟨⟨bA, eA, rfl, hMA⟩, hC⟩ := h'
      have hch := hch.trans (Chg.any hC)
      have hb30 := hb30.keep0 hC
      refine zm rfl (zx rfl rfl (zx rfl rfl (za rfl (za rfl (zz (kh25 (Sr fun _ kh27 => zm rfl ?_)))))))
      refine WL.ev (Ev.sliceHn (3) rfl rfl (by omega) (by omega)) rfl ?_
      refine zm rfl ?_
      refine WL.call hasF18 rfl rfl (Several_spec _ ((List.replicate i x).take 3) (i : Int) 0 0 _ (NF.head (n := i) (hi := 3) (NF.of_row hb30.row (by intro z hz; rw [List.eq_of_mem_replicate hz]; exact hx) (by simp; omega) (by simp) (by omega)) (by simp; omega)) (by omega) (hg0.keep0 hch)) fun v w3 h' => ?_
      obtain ⟨⟨vL, Ls, eB, rfl, hgs, hMB⟩, hC⟩ := h'
      obtain ⟨aL, cL, rfl, hcL, hrL⟩ := hgs.row
      have hch := hch.trans (Chg.any hC)
      have hb30 := hb30.keep0 hC
      refine zm rfl (zx rfl rfl (zx rfl rfl (za rfl (za rfl (zz (kh27 (Sr fun _ kh29 => zm rfl (zm rfl ?_))))))))
      refine WL.call hasF22 rfl rfl (Share_spec _ (List.replicate i x) x _ (NF.of_row hb30.row (by intro z hz; rw [List.eq_of_mem_replicate hz]; exact hx) (by simp; omega) (by simp) (by omega))) fun v w4 h' => ?_
      obtain ⟨⟨a1, b1, eC, rfl, hMC⟩, hC⟩ := h'
      have hch := hch.trans (Chg.any hC)
      have hb30 := hb30.keep0 hC
      refine zm rfl (zx rfl rfl (zx rfl rfl (zx rfl rfl (za rfl (za rfl (za rfl (zz (kh29 (zc fun _ kh31 => Sr fun _ kh32 => zm rfl ?_)))))))))
      refine WL.ev (Ev.gtr rfl rfl) rfl ?_
      refine zz (kh32 ?_)
      refine CW.cond rfl (fun hc5 => ?_) (fun hc5 => ?_)
      ·
       try simp only [qs] at hc5
       have hbig : 65536 < i := by omega
       have hrr : refuseE (List.replicate i x) = 2 := by rw [refuse_rep hfx hi0, if_pos hbig]
       obtain ⟨rfl, rfl⟩ := quant_long hMA hrr
       obtain ⟨rfl, rfl⟩ := sev_long hMB (by omega)
       obtain ⟨rfl, rfl, rfl⟩ := share_long hMC hrr
       refine Sr fun _ kh34 => zm rfl (zm rfl (zw rfl (zm rfl (zw rfl (zq rfl rfl (zt rfl rfl (zm rfl (zw rfl (zm rfl (zw rfl ?_))))))))))
       refine WL.call hasF14 rfl rfl (qexact_spec _ _ _) fun v w5 h' => ?_
       obtain ⟨rfl, rfl⟩ := h'
       rw [decide_eq_true rfl]
       refine zt rfl rfl (zm rfl (zw rfl (zm rfl (zw rfl (zq rfl rfl (zt rfl rfl (zm rfl (zw rfl (zm rfl (zw rfl (zn rfl (zw rfl (zq rfl rfl (zt rfl rfl (zm rfl (zw rfl (zm rfl (zw rfl (zq rfl rfl (zt rfl rfl (zm rfl (zw rfl (zm rfl ?_)))))))))))))))))))))))
       refine zw rfl (zq rfl rfl (zt rfl rfl (zm rfl (zw rfl (zm rfl (zw rfl (zq rfl rfl (zt rfl rfl (za rfl (zz (kh34 ?_)))))))))))
       refine CW.ret ?_
       refine bodyA.ret1 rfl rfl ?_
       exact ⟨rfl, hch⟩
      ·
       try simp only [qs] at hc5
       have hsm : i ≤ 65536 := by omega
       obtain ⟨rfl, rfl⟩ := quant_rep hMA hfx hx hi0 hsm
       obtain ⟨rfl, hLn⟩ := sev_some hMB (by omega) hsm (by rw [List.take_replicate, refuse_rep hfx (by omega), if_neg (by omega)])
       obtain ⟨rfl, rfl, rfl⟩ := share_fin hMC (by rw [refuse_rep hfx hi0, if_neg (by omega)]) hfx
       refine CW.skip ?_
       refine kh31 (Sr fun _ kh36 => zm rfl (zm rfl (zw rfl (zm rfl (zw rfl (zq rfl rfl (zt rfl rfl (zm rfl (zw rfl (zm rfl (zw rfl (zm rfl (zw rfl ?_)))))))))))))
       refine WL.call hasF14 rfl rfl (qexact_spec _ _ _) fun v w6 h' => ?_
       obtain ⟨rfl, rfl⟩ := h'
       rw [decide_eq_true rfl]
       refine zt rfl rfl (zm rfl (zw rfl (zm rfl (zw rfl (zq rfl rfl (zt rfl rfl (zm rfl (zw rfl (zm rfl (zw rfl (zn rfl (zw rfl (zm rfl (zw rfl ?_))))))))))))))
       refine WL.ev (Ev.addIn rfl rfl (by omega)) rfl ?_
       refine zw rfl (zq rfl rfl ?_)
       rw [decide_eq_true (by rw [hLn]; omega)]
       refine zt rfl rfl (zm rfl (zw rfl (zm rfl (zw rfl (zq rfl rfl (zt rfl rfl (zm rfl (zw rfl (zm rfl (zw rfl (zm rfl (zw rfl (zq rfl rfl ?_)))))))))))))
       rw [decide_eq_true (by rw [count_rep])]
       refine zt rfl rfl (zm rfl (zw rfl (zm rfl (zw rfl (zm rfl (zw rfl (zq rfl rfl ?_)))))))
       rw [decide_eq_true (by rw [List.length_replicate])]
       refine zt rfl rfl (za rfl (zz (kh36 ?_)))
       refine CW.ret ?_
       refine bodyA.ret1 rfl rfl ?_
       exact ⟨rfl, hch⟩

end Go.Proofs.YtbdkecpalhpmdaaGreatDoor

/- What came in, opened; the listed table, opened. No condition. -/
namespace Go.Proofs.YtbdkecpalhpmdaaGreatDoor
open Go Sx Wd
open Go.ChangeShapes Go.WideShapes Go.ChangeAt Go.WideMaps Go.WideElems Go.RowKit

theorem own : ownKnob Tryz.prog.godebug = none := by kernel_rfl
theorem laidOut : laidOutB Tryz.prog = true := by kernel_rfl
theorem door_met (os : Os) (args : Array Value) : laidMetH Tryz.prog [("math/bits.deBruijn32tab", Rows.laid_math_bits_deBruijn32tab)] ((World.doorLaid Tryz.prog 400 os).forCall (fun _ _ => 0) ⟨#[], args, []⟩).memory :=
  laidMetH_of_parts3 (fuel := 8) (laidMet_of_run' 8 (by kernel_rfl) (by kernel_rfl)) (by kernel_rfl) (by kernel_rfl)
theorem gDeb : Tryz.prog.globalNamed "math/bits.deBruijn32tab" = some 1 := by kernel_rfl
theorem tDeb : (Tryz.prog.globals[1]?).map (·.type) = some 220 := by kernel_rfl
theorem deb_data {H : Type} : (Rows.laid_math_bits_deBruijn32tab : DataW H) = .agg (deb.map fun n : Nat => .lit (.int .u8 (n : Int))) := rfl
theorem gw_of_laid {W : World} (h : laidMetH Tryz.prog [("math/bits.deBruijn32tab", Rows.laid_math_bits_deBruijn32tab)] W) : GW W := by
  rw [MakeChecks.laidMetH_plain _ _ _ (by kernel_rfl)] at h
  obtain ⟨ps, ⟨g0, t0, cs0, f0, p0, q0, hg0, ht0, hv0, hd0, _, _⟩, _, _⟩ := h
  obtain rfl := Option.some.inj (gDeb.symm.trans hg0)
  obtain rfl := Option.some.inj (tDeb.symm.trans ht0)
  obtain ⟨xs, m1, rfl, hx1, hlen, hn3, hel⟩ := DataW.trod_array Tryz.underlying220 hd0
  have c8 : Tryz.prog.cellsOf 5 = 1 := by kernel_rfl
  simp only [Prod.mk.injEq] at hx1
  intro i hi
  have hi' := hel i hi
  rw [c8, Nat.mul_one] at hi'
  have hxi : xs[i]? = some (xs[i]'(by omega)) := List.getElem?_eq_getElem (by omega)
  rw [hxi] at hi'
  obtain ⟨k, e1, e2, _⟩ := DataW.trod_int Tryz.underlying5 hi'
  have hxs : (deb.map fun n : Nat => (DataW.lit (.int .u8 (n : Int)) : DataW Unit)) = xs.map (·.1) := by
    have := hx1.1
    rw [deb_data] at this
    exact DataW.agg.inj this
  have hdat : (deb.map fun n : Nat => (DataW.lit (.int .u8 (n : Int)) : DataW Unit))[i]? = some (.lit (.int .u8 ((deb.getD i 0 : Nat) : Int))) := by
    rw [List.getElem?_map, List.getElem?_eq_getElem (show i < deb.length from hi), List.getD_eq_getElem?_getD, List.getElem?_eq_getElem (show i < deb.length from hi)]; rfl
  rw [hxs, List.getElem?_map, hxi] at hdat
  simp only [Option.map_some] at hdat
  rw [e2] at hdat
  have hk : k = ((deb.getD i 0 : Nat) : Int) := by
    have := Option.some.inj hdat
    simp only [DataW.lit.injEq, Lit.int.injEq, true_and] at this
    exact this
  subst hk
  have hc : cs0[i]? = some (.int .u8 ((deb.getD i 0 : Nat) : Int)) := by
    have h3 : (cs0.toList.drop i)[0]? = some (.int .u8 ((deb.getD i 0 : Nat) : Int)) := by
      have := congrArg (fun l : List Value => l[0]?) e1
      simpa using this
    simpa using h3
  have := World.var?_cell hg0 hv0 i
  rw [hc] at this
  exact this

/-- One float cell, read. -/
theorem float_cell {H : Type} {enc : TypeId × Value → H} {P : Program} {w : World} {base : Nat} {spare : Nat → Bool} {held : Bool} {n : Nat} {e : TypeId} {v : Value} {x : DataW H × List MemPlace} (he : P.underlying e = some (.float .f64)) (h : DataW.trod enc P w base spare held n e [v] = some x) : ∃ b, v = .float .f64 b ∧ b < 18446744073709551616 := by
  cases n with
  | zero => simp [DataW.trod] at h
  | succ n =>
    simp only [DataW.trod, he] at h
    cases v <;> simp_all
    rename_i k b
    cases k <;> simp_all [Lit.wf]
theorem open_float1 {H : Type} {enc : TypeId × Value → H} {P : Program} {w : World} {base b0 : Nat} {spare : Nat → Bool} {held : Bool} {t : TypeId} {v : Value} {d : DataW H} {ps : List MemPlace} (ht : P.underlying t = some (.float .f64)) (hval : Value.okWide P w .any b0 t v) (h : DataW.Trod enc P w base spare held t v d ps) :
    ∃ b, v = .float .f64 b ∧ b < 18446744073709551616 := by
  obtain ⟨fuel, hf⟩ := h
  simp only [Value.okWide, ht, Cell.okWide] at hval
  have hv : ∃ k b, v = .float k b := by cases v <;> simp_all [Cell.ok]
  obtain ⟨k, b, rfl⟩ := hv
  exact float_cell ht (show DataW.trod enc P w base spare held fuel t [.float k b] = some (d, ps) from by simpa [Value.cells] using hf)
end Go.Proofs.YtbdkecpalhpmdaaGreatDoor

/- The statement on QuantLong. -/
namespace Go.Proofs.YtbdkecpalhpmdaaGreatDoor.quantLong
open Go.ChangeShapes Go.WideShapes Go.ChangeAt Go.RowKit

set_option maxRecDepth 100000 in
theorem lifted (os : Os) (started : os.Started) (H : Type) (enc : TypeId × Value → H) :
    ReturnsInHanded {} Tryz.checked os 7 .any (fun w args => (Rows.quantLongSpec.pre enc Tryz.prog Tryz.f7 Rows.quantLongRow.domain false w args ∧ laidMetH Tryz.prog [("math/bits.deBruijn32tab", Rows.laid_math_bits_deBruijn32tab)] w) ∧ sizedMet enc Tryz.prog Tryz.f7 (OpenSpec.ofChange Rows.quantLongSpec) false w args) (Rows.quantLongSpec.post enc Tryz.prog Tryz.f7 false true false false) := by
  refine returnsInHanded_of_change_and (C := Tryz.checked) (X := fun w _ => laidMetH Tryz.prog [("math/bits.deBruijn32tab", Rows.laid_math_bits_deBruijn32tab)] w) (fun _ _ _ hh h => h.of_heap hh) own started (by kernel_rfl) Tryz.func7
    (ChangeSpec.witness_shaped (enc := enc) (C := Tryz.checked) (os := os) (X := fun w _ => laidMetH Tryz.prog [("math/bits.deBruijn32tab", Rows.laid_math_bits_deBruijn32tab)] w) false (World.doorLaid Tryz.prog 400 os) #[.int .i64 0, .float .f64 0] 8 rfl (World.shaped_of_RefB (by kernel_rfl) (by kernel_rfl)) (by kernel_rfl) (by kernel_rfl) (by kernel_rfl) (door_met os _)) ?_
  intro W base args ds gs before hval0 hW hcnd hsz0 hL _
  have hGW := gw_of_laid hL
  have hval : ∀ (j : Nat) t v, Tryz.f7.params[j]? = some t → args[j]? = some v → Value.okWide Tryz.prog W .any base t v := hval0
  have hsz : (DataW.weightsEach Tryz.prog (Tryz.f7.params.toList ++ []) (ds ++ gs)).all (· ≤ reachBytes) = true := hsz0
  have hW' := hW
  obtain ⟨p, q, hA0, hV, rfl, hfz, hnd⟩ := hW
  have hA : DataW.TrodAll enc Tryz.prog W 0 (fun _ => true) true Tryz.f7.params.toList args.toList ds p := hA0
  rw [Tryz.params7] at hA hval hsz
  obtain ⟨v0, vs0, d0, ds0, p0, q0, hargs, rfl, rfl, h0, r0⟩ := trodAll_cons hA
  obtain ⟨v1, vs1, d1, ds1, p1, q1, rfl, rfl, rfl, h1, r1⟩ := trodAll_cons r0
  obtain ⟨rfl, rfl, rfl⟩ := trodAll_nil r1
  obtain rfl : args = #[v0, v1] := by cases args; simp_all
  obtain ⟨rfl, rfl⟩ := trodVars_none hV
  simp only [List.append_nil] at hsz
  have k0 := h0
  have lt0 : ∀ x ∈ p0, x.block < W.heap.size := by obtain ⟨m, hm⟩ := k0; exact DataW.trod_lt m _ _ _ hm
  obtain ⟨a0, rfl, _, _, wf0⟩ := open_int Tryz.underlying3 (hval 0 3 v0 rfl rfl) h0
  have bd0 := bounds_i64 wf0
  have k1 := h1
  have lt1 : ∀ x ∈ p1, x.block < W.heap.size := by obtain ⟨m, hm⟩ := k1; exact DataW.trod_lt m _ _ _ hm
  obtain ⟨a1, rfl, bd1⟩ := open_float1 Tryz.underlying24 (hval 1 24 v1 rfl rfl) h1
  clear hA0 hval0
  refine Calls.mono (QuantLong_spec a0 a1 W hGW bd0 bd1) fun e W' ⟨v, he, hv, hc⟩ => ?_
  subst he
  subst hv
  have bel : Below W.heap.size W W' := hc.below
  exact ⟨_, rfl, _, _, _, [], _, [], hW', trodAll_mk1 (shut_bool Tryz.underlying4 _), (trodAll_cons_mk (Below.trod laidOut (by kernel_rfl) (of_decide_eq_true (by kernel_rfl)) k0 bel lt0) (trodAll_cons_mk (Below.trod laidOut (by kernel_rfl) (of_decide_eq_true (by kernel_rfl)) k1 bel lt1) trodAll_mk0)), rfl, bel.frame _, fun h => by cases h⟩

theorem over : Rows.quantLongRow.holds Tryz.pinned (OpenSpec.ofChange Rows.quantLongSpec) :=
  OpenClaim.holds_of_wide 7 Tryz.f7 rfl rfl rfl rfl rfl rfl rfl ⟨rfl, rfl, rfl, rfl, rfl⟩ rfl rfl rfl rfl rfl (by kernel_rfl) Tryz.func7 (by kernel_rfl)
    (of_decide_eq_true (by kernel_rfl)) (by unfold Func.isWrapper; first | (rw [if_pos (by decide +kernel)]; kernel_rfl) | (rw [if_neg (by decide +kernel)]; exact ⟨rfl, rfl⟩))
    (fun os started H enc _ => lifted os started H enc)

theorem proved : Rows.QuantLongCardSaid :=
  Claim7.holds_tied_plain_at .later [] [.data] true Rows.quantLongCard.stood.harness false
    over (fun _ h => by cases h) (by kernel_rfl) (fun _ h => by cases h) quantLong_row_tie rfl ⟨rfl, rfl⟩ (by kernel_rfl) rfl
    (fun f fn hf hfn => by
      obtain rfl : f = 7 := Option.some.inj ((show Tryz.prog.funcNamed "steelyard/steelyardlaw16.QuantLong" = some 7 by kernel_rfl).symm.trans hf) |>.symm
      obtain rfl : fn = Tryz.f7 := (Option.some.inj (Tryz.func7.symm.trans hfn)).symm
      exact ⟨by kernel_rfl, fun j t ht => by
        have hm : t ∈ Tryz.f7.params.toList := by simpa using Array.mem_of_getElem? ht
        have hall : (Tryz.f7.params.toList.all fun u => !Tryz.prog.wantsStandIn u) = true := by kernel_rfl
        exact (show Tryz.prog.wantsStandIn t = false by simpa using List.all_eq_true.1 hall t hm)⟩)
    (by kernel_rfl)
end Go.Proofs.YtbdkecpalhpmdaaGreatDoor.quantLong
