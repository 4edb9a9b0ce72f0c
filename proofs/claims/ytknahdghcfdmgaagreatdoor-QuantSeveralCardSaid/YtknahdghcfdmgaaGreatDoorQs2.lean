/- Part 2 of what the proof rests on. No condition. -/
import Derived.Test.YtknahdghcfdmgaaGreatDoorQs1
import Derived.Defers
set_option linter.unusedVariables false
set_option linter.unusedSimpArgs false
set_option maxRecDepth 100000
set_option maxHeartbeats 4000000
namespace Go.Proofs.YtknahdghcfdmgaaGreatDoor
/- What the loops over words reckon: plain laws. No condition. -/
namespace Wd

theorem getD_set_self {l : List Nat} {i x : Nat} (h : i < l.length) : (l.set i x).getD i 0 = x := by
  rw [List.getD_eq_getElem?_getD, List.getElem?_set, if_pos rfl, if_pos h]; rfl
theorem getD_set_ne {l : List Nat} {i j x : Nat} (h : i ≠ j) : (l.set i x).getD j 0 = l.getD j 0 := by
  rw [List.getD_eq_getElem?_getD, List.getElem?_set, if_neg h, ← List.getD_eq_getElem?_getD]
theorem val_set {l : List Nat} {i : Nat} (h : i < l.length) (x : Nat) : val (l.set i x) + 2 ^ (32 * i) * l.getD i 0 = val l + 2 ^ (32 * i) * x := by
  induction l generalizing i with
  | nil => simp at h
  | cons y l ih =>
    cases i with
    | zero => simp [val]; omega
    | succ i =>
      have := ih (i := i) (by simpa using h)
      simp only [List.set_cons_succ, val, List.getD_cons_succ]
      rw [show 32 * (i + 1) = 32 + 32 * i by omega, Nat.pow_add, Nat.mul_assoc, Nat.mul_assoc]
      have e : (2 : Nat) ^ 32 = 4294967296 := by decide
      rw [e]; omega
theorem take_set_le {l : List Nat} {i k x : Nat} (h : k ≤ i) : (l.set i x).take k = l.take k := by
  rw [List.take_set_of_le h]
theorem val_take_succ' (l : List Nat) (i : Nat) : val (l.take (i + 1)) = val (l.take i) + 2 ^ (32 * i) * l.getD i 0 := by
  by_cases h : i < l.length
  · exact val_take_succ h
  · rw [getD_out (by omega), List.take_of_length_le (by omega), List.take_of_length_le (by omega)]; simp
theorem getD_replicate (k j : Nat) : (List.replicate k 0).getD j 0 = 0 := by
  rw [List.getD_eq_getElem?_getD, List.getElem?_replicate]; split <;> rfl
theorem two32 (i : Nat) : 2 ^ (32 * (i + 1)) = 2 ^ (32 * i) * 4294967296 := by
  rw [show 32 * (i + 1) = 32 * i + 32 by omega, Nat.pow_add]
/-- Two numbers are added, word by word. -/
structure AddI (la lb : List Nat) (i : Nat) (L : List Nat) (c : Nat) : Prop where
  le : i ≤ la.length
  len : L.length = la.length + 1
  w : W L
  c1 : c ≤ 1
  v : val (L.take i) + 2 ^ (32 * i) * c = val (la.take i) + val (lb.take i)
theorem AddI.zero {la lb L : List Nat} (hl : L.length = la.length + 1) (hw : W L) : AddI la lb 0 L 0 := ⟨Nat.zero_le _, hl, hw, by omega, by simp [val]⟩
theorem AddI.step {la lb L : List Nat} {i c : Nat} (h : AddI la lb i L c) (ha : W la) (hb : W lb) (hi : i < la.length) : AddI la lb (i + 1) (L.set i ((la.getD i 0 + lb.getD i 0 + c) % 4294967296)) ((la.getD i 0 + lb.getD i 0 + c) / 4294967296) := by
  have h1 := ha.getD i
  have h2 := hb.getD i
  have hc := h.c1
  have hl := h.len
  refine ⟨by omega, by simp [h.len], h.w.set _ (by omega), by omega, ?_⟩
  rw [val_take_succ' (L.set _ _), val_take_succ' la, val_take_succ' lb, take_set_le (Nat.le_refl _), getD_set_self (by omega), two32]
  have hv := h.v
  generalize la.getD i 0 = x at *
  generalize lb.getD i 0 = y at *
  generalize 2 ^ (32 * i) = p at *
  have e : p * ((x + y + c) % 4294967296) + p * 4294967296 * ((x + y + c) / 4294967296) = p * x + p * y + p * c := by
    rw [Nat.mul_assoc, ← Nat.mul_add, Nat.mod_add_div, Nat.mul_add, Nat.mul_add]
  omega
theorem AddI.done {la lb L : List Nat} {c : Nat} (h : AddI la lb la.length L c) (hle : lb.length ≤ la.length) : val (L.set la.length c) = val la + val lb ∧ W (L.set la.length c) ∧ (L.set la.length c).length = la.length + 1 := by
  have hl := h.len
  have hv := h.v
  rw [List.take_length, List.take_of_length_le hle] at hv
  refine ⟨?_, h.w.set _ (by have := h.c1; omega), by simp [hl]⟩
  have e : L.set la.length c = (L.set la.length c).take (la.length + 1) := by rw [List.take_of_length_le (by simp [hl])]
  rw [e, val_take_succ', take_set_le (Nat.le_refl _), getD_set_self (by omega)]
  exact hv
/-- One number is taken from another. -/
structure SubI (la lb : List Nat) (i : Nat) (L : List Nat) (c : Nat) : Prop where
  le : i ≤ la.length
  len : L.length = la.length
  w : W L
  c1 : c ≤ 1
  v : val (L.take i) + val (lb.take i) = val (la.take i) + 2 ^ (32 * i) * c
theorem SubI.zero {la lb L : List Nat} (hl : L.length = la.length) (hw : W L) : SubI la lb 0 L 0 := ⟨Nat.zero_le _, hl, hw, by omega, by simp [val]⟩
theorem SubI.step {la lb L : List Nat} {i c : Nat} (h : SubI la lb i L c) (ha : W la) (hb : W lb) (hi : i < la.length) : SubI la lb (i + 1) (L.set i ((la.getD i 0 + 8589934592 - lb.getD i 0 - c) % 4294967296)) (if la.getD i 0 < lb.getD i 0 + c then 1 else 0) := by
  have h1 := ha.getD i
  have h2 := hb.getD i
  have hc := h.c1
  have hl := h.len
  refine ⟨by omega, by simp [h.len], h.w.set _ (by omega), by split <;> omega, ?_⟩
  rw [val_take_succ' (L.set _ _), val_take_succ' la, val_take_succ' lb, take_set_le (Nat.le_refl _), getD_set_self (by omega), two32]
  have hv := h.v
  generalize la.getD i 0 = x at *
  generalize lb.getD i 0 = y at *
  generalize 2 ^ (32 * i) = p at *
  split
  · rename_i hlt
    have e : (x + 8589934592 - y - c) % 4294967296 = x + 4294967296 - y - c := by omega
    have e2 : p * (x + 4294967296 - y - c) + p * y + p * c = p * x + p * 4294967296 := by
      rw [← Nat.mul_add, ← Nat.mul_add, ← Nat.mul_add]; congr 1; omega
    rw [e]; omega
  · rename_i hlt
    have e : (x + 8589934592 - y - c) % 4294967296 = x - y - c := by omega
    have e2 : p * (x - y - c) + p * y + p * c = p * x := by
      rw [← Nat.mul_add, ← Nat.mul_add]; congr 1; omega
    rw [e]; omega
theorem SubI.done {la lb L : List Nat} {c : Nat} (h : SubI la lb la.length L c) (ha : W la) (hb : W lb) (hle : val lb ≤ val la) : val L = val la - val lb := by
  have hv := h.v
  rw [List.take_length, List.take_of_length_le (by rw [h.len]; exact Nat.le_refl _)] at hv
  have h1 : val (lb.take la.length) ≤ val lb := by
    by_cases q : la.length ≤ lb.length
    · rw [val_take hb _ q]; exact Nat.mod_le _ _
    · rw [List.take_of_length_le (by omega)]; exact Nat.le_refl _
  have h2 := val_lt h.w
  rw [h.len] at h2
  have h3 := val_lt ha
  have h4 : val (lb.take la.length) = val lb := by
    by_cases q : la.length ≤ lb.length
    · rw [val_take hb _ q, Nat.mod_eq_of_lt (by omega)]
    · rw [List.take_of_length_le (by omega)]
  have hc := h.c1
  have : c = 0 := by
    rcases (by omega : c = 0 ∨ c = 1) with rfl | rfl
    · rfl
    · omega
  subst this
  omega
/-- A number is moved up by less than a word. -/
structure UpI (l : List Nat) (s : Nat) (i : Nat) (L : List Nat) : Prop where
  le : i ≤ l.length
  len : L.length = l.length + 1
  w : W L
  lo : L.getD i 0 < 2 ^ s
  hi : ∀ j, i < j → L.getD j 0 = 0
  v : val L = val (l.take i) * 2 ^ s
theorem UpI.zero (l : List Nat) (s : Nat) : UpI l s 0 (List.replicate (l.length + 1) 0) := ⟨Nat.zero_le _, by simp, W_replicate _, by rw [getD_replicate]; exact Nat.two_pow_pos _, fun j _ => getD_replicate _ _, by rw [val_replicate]; simp [val]⟩
theorem or_of_mul {x y s : Nat} (hx : x < 2 ^ s) : x ||| (y * 2 ^ s) = x + y * 2 ^ s := by
  have := Nat.two_pow_add_eq_or_of_lt hx y
  rw [Nat.or_comm, Nat.mul_comm y, ← this, Nat.add_comm]
theorem UpI.step {l L : List Nat} {s i : Nat} (h : UpI l s i L) (hs : s < 32) (hl : W l) (hi : i < l.length) :
    L.getD i 0 ||| (l.getD i 0 * 2 ^ s % 18446744073709551616 % 4294967296) < 4294967296 ∧
    UpI l s (i + 1) ((L.set i (L.getD i 0 ||| (l.getD i 0 * 2 ^ s % 18446744073709551616 % 4294967296))).set (i + 1) (l.getD i 0 * 2 ^ s % 18446744073709551616 / 2 ^ 32 % 4294967296)) := by
  have hx := hl.getD i
  have hlen := h.len
  have hlo := h.lo
  have hp : 2 ^ s ≤ 2147483648 := by
    have := Nat.pow_le_pow_right (n := 2) (by decide) (show s ≤ 31 by omega)
    rwa [show (2 : Nat) ^ 31 = 2147483648 by decide] at this
  have hp0 := Nat.two_pow_pos s
  have hm : l.getD i 0 * 2 ^ s ≤ 4294967295 * 2 ^ s := Nat.mul_le_mul_right _ (by omega)
  have e1 : l.getD i 0 * 2 ^ s % 18446744073709551616 = l.getD i 0 * 2 ^ s := Nat.mod_eq_of_lt (by omega)
  have e5 : l.getD i 0 * 2 ^ s % 4294967296 = (l.getD i 0 % 2 ^ (32 - s)) * 2 ^ s := by
    have : (4294967296 : Nat) = 2 ^ (32 - s) * 2 ^ s := by rw [← Nat.pow_add, show 32 - s + s = 32 by omega]
    rw [this, Nat.mul_mod_mul_right]
  have e2 : L.getD i 0 ||| (l.getD i 0 * 2 ^ s % 4294967296) = L.getD i 0 + l.getD i 0 * 2 ^ s % 4294967296 := by
    rw [e5, or_of_mul hlo]
  have e3 : L.getD i 0 + l.getD i 0 * 2 ^ s % 4294967296 < 4294967296 := by
    have h1 : l.getD i 0 % 2 ^ (32 - s) + 1 ≤ 2 ^ (32 - s) := Nat.mod_lt _ (Nat.two_pow_pos _)
    have h2 := Nat.mul_le_mul_right (2 ^ s) h1
    rw [← Nat.pow_add, show 32 - s + s = 32 by omega, Nat.add_mul, Nat.one_mul] at h2
    rw [e5]
    have : (2 : Nat) ^ 32 = 4294967296 := by decide
    omega
  have e4 : l.getD i 0 * 2 ^ s / 2 ^ 32 % 4294967296 = l.getD i 0 * 2 ^ s / 4294967296 := by
    have : (2 : Nat) ^ 32 = 4294967296 := by decide
    rw [this]; omega
  rw [e1, e2, e4]
  refine ⟨e3, by omega, by simp [hlen], (h.w.set _ e3).set _ (by omega), ?_, fun j hj => ?_, ?_⟩
  · rw [getD_set_self (by simp; omega), Nat.div_lt_iff_lt_mul (by decide)]
    calc l.getD i 0 * 2 ^ s < 4294967296 * 2 ^ s := by omega
      _ = 2 ^ s * 4294967296 := Nat.mul_comm _ _
  · rw [getD_set_ne (by omega), getD_set_ne (by omega)]; exact h.hi j (by omega)
  · have v1 := val_set (l := L.set i (L.getD i 0 + l.getD i 0 * 2 ^ s % 4294967296)) (i := i + 1) (by simp; omega) (l.getD i 0 * 2 ^ s / 4294967296)
    have v2 := val_set (l := L) (i := i) (by omega) (L.getD i 0 + l.getD i 0 * 2 ^ s % 4294967296)
    rw [getD_set_ne (by omega), h.hi (i + 1) (by omega), Nat.mul_zero, Nat.add_zero] at v1
    have hv := h.v
    rw [val_take_succ' l i, Nat.add_mul, v1, two32, Nat.mul_assoc]
    rw [Nat.mul_add] at v2
    rw [Nat.mul_assoc (2 ^ (32 * i)) (l.getD i 0)]
    generalize l.getD i 0 * 2 ^ s = t at *
    generalize 2 ^ (32 * i) = p at *
    have e6 : p * (t % 4294967296) + p * (4294967296 * (t / 4294967296)) = p * t := by rw [← Nat.mul_add, Nat.mod_add_div]
    omega
theorem UpI.done {l L : List Nat} {s : Nat} (h : UpI l s l.length L) : val L = val l * 2 ^ s := by
  have := h.v
  rwa [List.take_length] at this
/-- A number is moved down by less than a word. -/
structure DownI (l : List Nat) (s : Nat) (i : Nat) (L : List Nat) : Prop where
  le : i ≤ l.length
  len : L.length = l.length
  w : W L
  v : val (L.take i) = val l / 2 ^ s % 2 ^ (32 * i)
theorem DownI.zero (l L : List Nat) (s : Nat) (hl : L.length = l.length) (hw : W L) : DownI l s 0 L := ⟨Nat.zero_le _, hl, hw, by simp [val, Nat.mod_one]⟩
theorem getD_val {l : List Nat} (h : W l) (i : Nat) : l.getD i 0 = val l / 2 ^ (32 * i) % 4294967296 := by
  by_cases hi : i < l.length
  · rw [← val_drop h i (by omega), val_drop_succ hi]
    have := h.getD i
    omega
  · rw [getD_out (by omega), Nat.div_eq_of_lt, Nat.zero_mod]
    exact Nat.lt_of_lt_of_le (val_lt h) (Nat.pow_le_pow_right (by decide) (by omega))
theorem two_words {l : List Nat} (h : W l) (i : Nat) : l.getD i 0 + l.getD (i + 1) 0 * 4294967296 = val l / 2 ^ (32 * i) % 18446744073709551616 := by
  rw [getD_val h i, getD_val h (i + 1), two32, ← Nat.div_div_eq_div_mul]
  generalize val l / 2 ^ (32 * i) = q
  omega
theorem DownI.step {l L : List Nat} {s i x : Nat} (h : DownI l s i L) (hs : s < 32) (hl : W l) (hi : i < l.length) (hx : x = (l.getD i 0 + l.getD (i + 1) 0 * 4294967296) / 2 ^ s % 4294967296) : DownI l s (i + 1) (L.set i x) := by
  have hlen := h.len
  refine ⟨by omega, by simp [hlen], h.w.set _ (by omega), ?_⟩
  rw [val_take_succ', take_set_le (Nat.le_refl _), getD_set_self (by omega), h.v, hx, two_words hl]
  have e1 : val l / 2 ^ (32 * i) % 18446744073709551616 / 2 ^ s % 4294967296 = val l / 2 ^ s / 2 ^ (32 * i) % 4294967296 := by
    rw [Nat.div_div_eq_div_mul (val l) (2 ^ s), Nat.mul_comm (2 ^ s), ← Nat.div_div_eq_div_mul]
    generalize val l / 2 ^ (32 * i) = q
    have e64 : (18446744073709551616 : Nat) = 2 ^ s * (4294967296 * 2 ^ (32 - s)) := by
      rw [Nat.mul_left_comm, ← Nat.pow_add, show s + (32 - s) = 32 by omega]
    rw [e64, Nat.mod_mul_right_div_self, Nat.mod_mul_right_mod]
  rw [e1, two32, Nat.mod_mul]
theorem DownI.done {l L : List Nat} {s : Nat} (h : DownI l s l.length L) (hl : W l) : val L = val l / 2 ^ s := by
  have := h.v
  rw [List.take_of_length_le (by rw [h.len]; exact Nat.le_refl _)] at this
  rw [this, Nat.mod_eq_of_lt (Nat.lt_of_le_of_lt (Nat.div_le_self _ _) (val_lt hl))]
/-- One row of a product. -/
structure MulJ (x : Nat) (lb : List Nat) (i : Nat) (L0 : List Nat) (j : Nat) (L : List Nat) (c : Nat) : Prop where
  le : j ≤ lb.length
  len : L.length = L0.length
  w : W L
  c1 : c < 4294967296
  hi : ∀ k, i + j ≤ k → L.getD k 0 = L0.getD k 0
  v : val L + 2 ^ (32 * (i + j)) * c = val L0 + 2 ^ (32 * i) * (x * val (lb.take j))
theorem MulJ.zero {x : Nat} {lb L0 : List Nat} {i : Nat} (hw : W L0) : MulJ x lb i L0 0 L0 0 := ⟨Nat.zero_le _, rfl, hw, by omega, fun _ _ => rfl, by simp [val]⟩
theorem MulJ.fits {x y z c : Nat} (hx : x < 4294967296) (hy : y < 4294967296) (hz : z < 4294967296) (hc : c < 4294967296) : x * y + z + c < 18446744073709551616 ∧ x * y < 18446744073709551616 ∧ x * y + z < 18446744073709551616 := by
  have : x * y ≤ 4294967295 * 4294967295 := Nat.mul_le_mul (by omega) (by omega)
  omega
theorem MulJ.step {x : Nat} {lb L0 L : List Nat} {i j c : Nat} (h : MulJ x lb i L0 j L c) (hx : x < 4294967296) (hb : W lb) (hj : j < lb.length) (hlen : i + lb.length ≤ L0.length) :
    MulJ x lb i L0 (j + 1) (L.set (i + j) ((x * lb.getD j 0 + L.getD (i + j) 0 + c) % 4294967296)) ((x * lb.getD j 0 + L.getD (i + j) 0 + c) / 4294967296) := by
  have hl := h.len
  have hf := (MulJ.fits hx (hb.getD j) (h.w.getD (i + j)) h.c1).1
  refine ⟨by omega, by simp [hl], h.w.set _ (by omega), by omega, fun k hk => ?_, ?_⟩
  · rw [getD_set_ne (by omega)]; exact h.hi k (by omega)
  · have v1 := val_set (l := L) (i := i + j) (by omega) ((x * lb.getD j 0 + L.getD (i + j) 0 + c) % 4294967296)
    have hv := h.v
    rw [show i + (j + 1) = i + j + 1 by omega, two32 (i + j), val_take_succ' lb j, Nat.mul_add x, Nat.mul_add (2 ^ (32 * i))]
    have e1 : 2 ^ (32 * i) * (x * (2 ^ (32 * j) * lb.getD j 0)) = 2 ^ (32 * (i + j)) * (x * lb.getD j 0) := by
      rw [show 32 * (i + j) = 32 * i + 32 * j by omega, Nat.pow_add, Nat.mul_assoc, Nat.mul_left_comm x]
    rw [e1]
    generalize x * lb.getD j 0 = t at *
    generalize L.getD (i + j) 0 = z at *
    generalize 2 ^ (32 * (i + j)) = p at *
    have e2 : p * ((t + z + c) % 4294967296) + p * 4294967296 * ((t + z + c) / 4294967296) = p * t + p * z + p * c := by
      rw [Nat.mul_assoc, ← Nat.mul_add, Nat.mod_add_div, Nat.mul_add, Nat.mul_add]
    omega
/-- A product. -/
structure MulI (la lb : List Nat) (i : Nat) (L : List Nat) : Prop where
  le : i ≤ la.length
  len : L.length = la.length + lb.length
  w : W L
  hi : ∀ k, i + lb.length ≤ k → L.getD k 0 = 0
  v : val L = val (la.take i) * val lb
theorem MulI.zero (la lb : List Nat) : MulI la lb 0 (List.replicate (la.length + lb.length) 0) := ⟨Nat.zero_le _, by simp, W_replicate _, fun _ _ => getD_replicate _ _, by rw [val_replicate]; simp [val]⟩
theorem MulI.step {la lb L0 L : List Nat} {i c : Nat} (h : MulI la lb i L0) (hi : i < la.length) (k : MulJ (la.getD i 0) lb i L0 lb.length L c) : MulI la lb (i + 1) (L.set (i + lb.length) c) := by
  have hl := h.len
  have hl2 := k.len
  refine ⟨by omega, by simp [hl2, hl], k.w.set _ k.c1, fun q hq => ?_, ?_⟩
  · rw [getD_set_ne (by omega), k.hi q (by omega)]; exact h.hi q (by omega)
  · have v1 := val_set (l := L) (i := i + lb.length) (by omega) c
    rw [k.hi _ (Nat.le_refl _), h.hi _ (Nat.le_refl _), Nat.mul_zero, Nat.add_zero] at v1
    have v2 := k.v
    rw [List.take_length] at v2
    rw [val_take_succ' la i, Nat.add_mul, v1, v2, h.v, Nat.mul_assoc]
theorem MulI.done {la lb L : List Nat} (h : MulI la lb la.length L) : val L = val la * val lb := by
  have := h.v
  rwa [List.take_length] at this
/-- Two numbers of like length, from the top: which is less. -/
def sgn (a b : Nat) : Int := if a < b then -1 else if b < a then 1 else 0
theorem sgn_drop {la lb : List Nat} {k : Nat} (ha : W la) (hb : W lb) (hl : la.length = lb.length) (hk : k < la.length) (he : la.drop (k + 1) = lb.drop (k + 1)) : (la.getD k 0 < lb.getD k 0 → sgn (val la) (val lb) = -1) ∧ (lb.getD k 0 < la.getD k 0 → sgn (val la) (val lb) = 1) ∧ (la.getD k 0 = lb.getD k 0 → la.drop k = lb.drop k) := by
  have h1 := val_take_drop la k (by omega)
  have h2 := val_take_drop lb k (by omega)
  have h3 := val_lt (ha.take k)
  have h4 := val_lt (hb.take k)
  rw [List.length_take, Nat.min_eq_left (by omega)] at h3 h4
  rw [val_drop_succ hk] at h1
  rw [val_drop_succ (by omega), ← he] at h2
  generalize val (la.drop (k + 1)) = r at *
  have hp := Nat.two_pow_pos (32 * k)
  refine ⟨fun h => ?_, fun h => ?_, fun h => by rw [drop_getD hk, drop_getD (l := lb) (i := k) (by omega), h, he]⟩
  · have : 2 ^ (32 * k) * (la.getD k 0 + 4294967296 * r + 1) ≤ 2 ^ (32 * k) * (lb.getD k 0 + 4294967296 * r) := Nat.mul_le_mul_left _ (by omega)
    rw [Nat.mul_add, Nat.mul_one] at this
    unfold sgn
    rw [if_pos (by omega)]
  · have : 2 ^ (32 * k) * (lb.getD k 0 + 4294967296 * r + 1) ≤ 2 ^ (32 * k) * (la.getD k 0 + 4294967296 * r) := Nat.mul_le_mul_left _ (by omega)
    rw [Nat.mul_add, Nat.mul_one] at this
    unfold sgn
    rw [if_neg (by omega), if_pos (by omega)]
theorem sgn_len {a b : Nat} : ((wd a).length < (wd b).length → sgn a b = -1) ∧ ((wd b).length < (wd a).length → sgn a b = 1) := by
  constructor
  · intro h
    have : a < b := Nat.lt_of_not_le fun hle => by have := wd_length_mono hle; omega
    unfold sgn; rw [if_pos this]
  · intro h
    have : b < a := Nat.lt_of_not_le fun hle => by have := wd_length_mono hle; omega
    unfold sgn; rw [if_neg (by omega), if_pos this]
theorem sgn_self (a : Nat) : sgn a a = 0 := by simp [sgn]
/-- The first word that is not nought. -/
theorem tz_words {l : List Nat} {i : Nat} (hw : W l) (hi : i < l.length) (hz : val (l.take i) = 0) (hx : l.getD i 0 ≠ 0) : tz (val l) = 32 * i + tz (l.getD i 0) := by
  have h1 := val_take_drop l i (by omega)
  rw [hz, Nat.zero_add, val_drop_succ hi] at h1
  have hlt := hw.getD i
  generalize l.getD i 0 = x at *
  generalize val (l.drop (i + 1)) = r at *
  obtain ⟨a, b⟩ := tz_spec hx
  have ht : tz x < 32 := Nat.lt_of_lt_of_le (tz_lt_bl hx) (bl_le.2 (by omega))
  generalize tz x = t at *
  generalize x / 2 ^ t = q at *
  have e : val l = (q + 2 ^ (32 - t) * r) * 2 ^ (32 * i + t) := by
    rw [h1, b, Nat.pow_add, Nat.add_mul, Nat.mul_add]
    have e32 : (4294967296 : Nat) = 2 ^ (32 - t) * 2 ^ t := by rw [← Nat.pow_add, show 32 - t + t = 32 by omega]
    rw [e32]
    simp only [Nat.mul_comm, Nat.mul_left_comm, Nat.mul_assoc]
  refine tz_unique e ?_
  have : 2 ^ (32 - t) = 2 * 2 ^ (31 - t) := by rw [show 32 - t = (31 - t) + 1 by omega, Nat.pow_succ, Nat.mul_comm]
  rw [this, Nat.mul_assoc]
  omega
theorem val_one {l : List Nat} (h : l.length = 1) : val l = l.getD 0 0 := by
  match l, h with
  | [x], _ => simp [val]
theorem val_two {l : List Nat} (h : l.length = 2) : val l = l.getD 0 0 + 4294967296 * l.getD 1 0 := by
  match l, h with
  | [x, y], _ => simp [val]
end Wd

/- Package wide: numbers of many words. No condition. -/
section
open Go Sx Wd

structure K0 (l : List Nat) (w : World) (k : Nat) (wr : World) : Prop where
  le : k ≤ l.length
  vl : val (l.take k) = val l
  eq : w = wr

theorem cut_spec (v : Value) (l : List Nat) (w : World) (h : NU w v l) : Ret Tryz.prog 227 [v] w fun u w' => NU w u (wd (val l)) ∧ w = w' := by
 obtain ⟨⟨al, cl, rfl, hcapl, hrl⟩, hWl, hll⟩ := h;have hch : Chg [] w w := Chg.refl _ _;refine zE1 Tryz.func227 rfl ?_;refine Sr fun _ kh1 => za rfl (zz (kh1 (zc fun _ kh3 => ?_)));refine CW.block ?_;refine CW.loop (S := fun k : Nat => [(0, .slice al k cl)]) (Inv := K0 l w) (mu := fun k => k) (l.length) ?_ ?_ ?_
 ·exact ⟨Nat.le_refl _, by rw [List.take_length], rfl⟩
 ·exact SLp
 ·rintro k _ ⟨hkl, hvl, rfl⟩;refine zc fun _ kh4 => ?_;refine CW.seqM 14 (decide (0 < k ∧ l.getD (k - 1) 0 = 0)) ?_ ?_
  ·refine zR fun _ kr5 => ?_;refine zm rfl (zn rfl ?_);refine WL.ev (Ev.gtr rfl rfl) rfl ?_;refine zm rfl ?_;refine zb ?_ ?_<;>intro hg1<;>try simp only [qs] at hg1
   ·refine zw rfl (zm rfl (zw rfl (zm rfl (zw rfl (zn rfl (zw rfl ?_))))))
    first | refine WL.ev (Ev.subIn rfl rfl (by omega)) rfl ?_ | refine WL.ev (Ev.sub rfl rfl) rfl ?_
    refine zw rfl ?_;refine WL.ev (Ev.ixR ((k - 1)) rfl rfl (hrl.keep0 hch) (by omega) (by omega) (by simp; omega)) rfl ?_;refine zw rfl ?_;refine WL.ev (Ev.load rfl rfl ((hrl.keep0 hch).u32 (by first | omega | (simp; omega)))) rfl ?_;have hw12 := hWl.getD ((k - 1));refine zw rfl (zq rfl rfl (zt rfl rfl ?_));refine WL.nil (kr5 _ _ _ ?_);refine ⟨rfl, rfl, Subs.consB rfl ?_ ?_⟩
    ·first | (simp; omega) | (refine decide_eq_decide.2 ?_; omega)
    ·exact SMg
   ·refine zv rfl (zv rfl (zv rfl (zv rfl (zv rfl (zv rfl (zv rfl (ze rfl rfl ?_)))))));refine WL.nil (kr5 _ _ _ ?_);refine ⟨rfl, rfl, Subs.consB rfl ?_ ?_⟩
    ·first | (simp; omega) | (refine decide_eq_decide.2 ?_; omega)
    ·exact SMg
  ·refine zy rfl ?_ ?_<;>intro hc2<;>try simp only [qs] at hc2
   ·refine zkk ?_
    refine kh4 ?_;refine CW.block ?_;refine zR fun _ kr6 => ?_;refine zm rfl (zm rfl (zn rfl ?_))
    first | refine WL.ev (Ev.subIn rfl rfl (by omega)) rfl ?_ | refine WL.ev (Ev.sub rfl rfl) rfl ?_
    refine WL.ev (Ev.sliceHn ((k - 1)) rfl rfl (by omega) (by omega)) rfl ?_;refine za rfl ?_;refine WL.nil (kr6 _ _ _ ?_);refine ⟨rfl, k - 1, ?_, ?_, ?_⟩
    ·exact SLp
    ·exact ⟨by omega, by rw [take_pred hkl (by omega) (by omega)]; exact hvl, rfl⟩
    ·omega
   ·refine CW.exit ?_
    refine kh3 (Sr fun _ kh7 => zm rfl (za rfl (zz (kh7 ?_))));refine zr (zr1 rfl rfl ?_);rw [cut_wd hWl hkl hvl (by omega)];exact ⟨NU.part hrl hWl hll hkl (by omega), rfl⟩

theorem Norm_spec (v : Value) (l : List Nat) (w : World) (h : NU w v l) : Ret Tryz.prog 224 [v] w fun u w' => NU w' u (wd (val l)) ∧ Chg [] w w' := by
 obtain ⟨⟨al, cl, rfl, hcapl, hrl⟩, hWl, hll⟩ := h;have hch : Chg [] w w := Chg.refl _ _;refine zE1 Tryz.func224 rfl ?_;refine Sr fun _ kh1 => za rfl (zz (kh1 (Sr fun _ kh3 => zm rfl (zn rfl (za rfl (zz (kh3 (zc fun _ kh5 => ?_))))))));refine CW.block ?_;refine CW.loop (S := fun k : Nat => [(0, .slice al l.length cl), (3, .int .i64 (k : Int))]) (Inv := K0 l w) (mu := fun k => k) (l.length) ?_ ?_ ?_
 ·exact ⟨Nat.le_refl _, by rw [List.take_length], rfl⟩
 ·exact SLp
 ·rintro k _ ⟨hkl, hvl, rfl⟩;refine zc fun _ kh6 => ?_;refine CW.seqM 16 (decide (0 < k ∧ l.getD (k - 1) 0 = 0)) ?_ ?_
  ·refine zR fun _ kr7 => ?_;refine zm rfl ?_;refine WL.ev (Ev.gtr rfl rfl) rfl ?_;refine zm rfl ?_;refine zb ?_ ?_<;>intro hg1<;>try simp only [qs] at hg1
   ·refine zw rfl (zm rfl (zw rfl (zm rfl (zw rfl ?_))))
    first | refine WL.ev (Ev.subIn rfl rfl (by omega)) rfl ?_ | refine WL.ev (Ev.sub rfl rfl) rfl ?_
    refine zw rfl ?_;refine WL.ev (Ev.ixR ((k - 1)) rfl rfl (hrl.keep0 hch) (by omega) (by omega) (by simp; omega)) rfl ?_;refine zw rfl ?_;refine WL.ev (Ev.load rfl rfl ((hrl.keep0 hch).u32 (by first | omega | (simp; omega)))) rfl ?_;have hw14 := hWl.getD ((k - 1));refine zw rfl (zq rfl rfl (zt rfl rfl ?_));refine WL.nil (kr7 _ _ _ ?_);refine ⟨rfl, rfl, Subs.consB rfl ?_ ?_⟩
    ·first | (simp; omega) | (refine decide_eq_decide.2 ?_; omega)
    ·exact SMg
   ·refine zv rfl (zv rfl (zv rfl (zv rfl (zv rfl (zv rfl (ze rfl rfl ?_))))));refine WL.nil (kr7 _ _ _ ?_);refine ⟨rfl, rfl, Subs.consB rfl ?_ ?_⟩
    ·first | (simp; omega) | (refine decide_eq_decide.2 ?_; omega)
    ·exact SMg
  ·refine zy rfl ?_ ?_<;>intro hc2<;>try simp only [qs] at hc2
   ·refine zkk ?_
    refine kh6 ?_;refine CW.block ?_;refine zR fun _ kr8 => ?_;refine zm rfl ?_
    first | refine WL.ev (Ev.subIn rfl rfl (by omega)) rfl ?_ | refine WL.ev (Ev.sub rfl rfl) rfl ?_
    refine za rfl ?_;refine WL.nil (kr8 _ _ _ ?_);refine ⟨rfl, k - 1, ?_, ?_, ?_⟩
    ·exact SLp
    ·exact ⟨by omega, by rw [take_pred hkl (by omega) (by omega)]; exact hvl, rfl⟩
    ·omega
   ·refine CW.exit ?_
    refine kh5 (Sr fun _ kh9 => zm rfl ?_);refine WL.makeU (k) (k) rfl rfl (by omega) (by omega) (by omega) (by omega) (by omega) rfl fun b20 wm20 hb20 hcm20 hge20 => ?_;have hgehch20 := Nat.le_trans hch.size hge20;have hch := hch.ta hcm20;refine za rfl (zz (kh9 (Sr fun _ kh11 => zm rfl (zm rfl ?_))));refine WL.copyU rfl rfl hb20 (hrl.keep0 hch) (by simp; try omega) (by simp; try omega) rfl fun ws1 hb20_ hcs1 => ?_;have hch := hch.s1 hcs1;have hb20 := hb20_;rw [show ((l).take (min ((l).length) (k)) ++ (List.replicate (k) 0).drop (min ((l).length) (k))) = l.take k from by rw [show min l.length k = k by omega, List.drop_eq_nil_of_le (by simp), List.append_nil]] at hb20;refine zz (kh11 (Sr fun _ kh13 => zm rfl (za rfl (zz (kh13 ?_)))));refine zr (zr1 rfl rfl ?_);rw [cut_wd hWl hkl hvl (by omega)];exact ⟨NU.of_block hb20 (hWl.take k) (by simp; omega) (by simp; omega) (Nat.le_refl _), hch⟩

theorem Of_spec (n : Nat) (w : World) (hn : n < 18446744073709551616) : Ret Tryz.prog 145 [.int .u64 (n : Int)] w fun u w' => NU w' u (wd n) ∧ Chg [] w w' := by
 refine zE1 Tryz.func145 rfl ?_;refine Sr fun _ kh1 => za rfl (zz (kh1 (Sr fun _ kh3 => zm rfl ?_)));refine WL.ev (Ev.conv32 rfl rfl) rfl ?_;refine zm rfl ?_;refine WL.ev (Ev.shrU (b := 32) rfl rfl (by simp only [IntKind.bits]; omega)) rfl ?_;refine WL.ev (Ev.conv32 rfl rfl) rfl ?_;refine WL.buildSlice (cs := [.int .u32 ((n % 4294967296 : Nat) : Int), .int .u32 ((n / 2 ^ 32 % 4294967296 : Nat) : Int)]) (by decide) (by decide) rfl (by kernel_rfl) rfl fun b8 w8 n8 => ?_;have hN8 : NU w8 (.slice (some ⟨b8, 0, none⟩) 2 2) [n % 4294967296, n / 2 ^ 32 % 4294967296] := NU.of_block (E := 219) n8.at_ (W_cons.2 ⟨by omega, W_cons.2 ⟨by omega, W_nil⟩⟩) (by simp) rfl (by omega);have hv8 : val [n % 4294967296, n / 2 ^ 32 % 4294967296] = n := by simp only [val]; omega
 refine WL.call hasF224 rfl rfl (Norm_spec _ _ _ hN8) fun v w1 h' => ?_;obtain ⟨hN, hC⟩ := h';rw [hv8] at hN;refine za rfl (zz (kh3 ?_));refine zr (zr1 rfl rfl ?_);exact ⟨hN, n8.chg.trans hC⟩

theorem Small_spec (v : Value) (l : List Nat) (w : World) (h : NU w v l) : Ret Tryz.prog 235 [v] w fun u w' => u = .tuple [.int .u64 ((if val l < 18446744073709551616 then val l else 0 : Nat) : Int), .int .i64 (if val l < 18446744073709551616 then 0 else 2)].toArray ∧ w = w' := by
 have hlen2 : (wd (val l)).length ≤ 2 ↔ val l < 18446744073709551616 := wd_length_le (n := val l) (k := 2);have hvw := val_wd (val l);obtain ⟨L, hL⟩ : ∃ L, L = wd (val l) := ⟨_, rfl⟩;rw [← hL] at hlen2 hvw;refine zE1 Tryz.func235 rfl ?_;refine Sr fun _ kh1 => za rfl (za rfl (zz (kh1 (Sr fun _ kh3 => za rfl (zz (kh3 (zc fun _ kh5 => Sr fun _ kh6 => zm rfl ?_)))))));refine WL.call hasF227 rfl rfl (cut_spec _ _ _ h) fun v w1 h' => ?_;obtain ⟨hN, rfl⟩ := h';rw [← hL] at hN;obtain ⟨⟨a1, c1, rfl, hcap1, hr1⟩, hW1, hl1⟩ := hN;refine za rfl (zz (kh6 ?_));refine CW.block ?_;refine Sr fun _ kh8 => zm rfl (zn rfl ?_);refine WL.ev (Ev.gtr rfl rfl) rfl ?_;refine za rfl (zz (kh8 ?_));refine zy rfl ?_ ?_<;>intro hc1<;>try simp only [qs] at hc1
 ·refine Sr fun _ kh10 => za rfl (za rfl (zz (kh10 ?_)));refine zr (zr2 rfl rfl rfl ?_);rw [if_neg (by omega), if_neg (by omega)];exact ⟨rfl, rfl⟩
 ·refine Sr fun _ kh12 => zm rfl (zn rfl (zq rfl rfl (za rfl (zz (kh12 ?_)))));refine zy rfl ?_ ?_<;>intro hc2<;>try simp only [qs] at hc2
  ·have hv2 := val_two (l := L) (by omega);have hw0 := hW1.getD 0
   have hw1 := hW1.getD 1;refine zR fun _ kr14 => ?_;refine zm rfl ?_;refine WL.ev (Ev.ixR (1) rfl rfl hr1 (by omega) (by omega) (by simp; omega)) rfl ?_;refine WL.ev (Ev.load rfl rfl (hr1.u32 (by first | omega | (simp; omega)))) rfl ?_;have hw17 := hW1.getD (1);refine WL.ev (Ev.convIn rfl rfl (in_u64 (by omega))) rfl ?_;refine WL.ev (Ev.shlU64 (b := 32) rfl rfl) rfl ?_;refine za rfl ?_;refine WL.nil (kr14 _ _ _ (kh5 ?_));refine zc fun _ kh15 => Sr fun _ kh16 => zm rfl (zn rfl ?_);refine WL.ev (Ev.gtr rfl rfl) rfl ?_;refine zz (kh16 ?_);refine zy rfl ?_ ?_<;>intro hc3<;>try simp only [qs] at hc3
   ·refine zR fun _ kr18 => ?_
    refine zm rfl (zm rfl ?_);refine WL.ev (Ev.ixR (0) rfl rfl hr1 (by omega) (by omega) (by simp; omega)) rfl ?_;refine WL.ev (Ev.load rfl rfl (hr1.u32 (by first | omega | (simp; omega)))) rfl ?_;have hw26 := hW1.getD (0);refine WL.ev (Ev.convIn rfl rfl (in_u64 (by omega))) rfl ?_;refine WL.ev (Ev.orU rfl rfl rfl (by simp only [IntKind.bits]; omega) (by simp only [IntKind.bits]; omega)) rfl ?_;refine za rfl ?_;refine WL.nil (kr18 _ _ _ (kh15 ?_));refine Sr fun _ kh19 => zm rfl (za rfl (za rfl (zz (kh19 ?_))));refine zr (zr2 rfl rfl rfl ?_);have e : L.getD 1 0 * 2 ^ 32 % 18446744073709551616 ||| L.getD 0 0 = val l := by
     rw [Nat.mod_eq_of_lt (by omega), Nat.or_comm, or_of_mul (by omega)]; omega
    rw [e, if_pos (by omega), if_pos (by omega)];exact ⟨rfl, rfl⟩
   ·exfalso; omega
  ·refine zkk ?_
   refine kh5 (zc fun _ kh21 => Sr fun _ kh22 => zm rfl (zn rfl ?_));refine WL.ev (Ev.gtr rfl rfl) rfl ?_;refine zz (kh22 ?_);refine zy rfl ?_ ?_<;>intro hc4<;>try simp only [qs] at hc4
   ·have hv1 := val_one (l := L) (by omega);refine zR fun _ kr24 => ?_
    refine zm rfl (zm rfl ?_);refine WL.ev (Ev.ixR (0) rfl rfl hr1 (by omega) (by omega) (by simp; omega)) rfl ?_;refine WL.ev (Ev.load rfl rfl (hr1.u32 (by first | omega | (simp; omega)))) rfl ?_;have hw26 := hW1.getD (0);refine WL.ev (Ev.convIn rfl rfl (in_u64 (by omega))) rfl ?_;refine WL.ev (Ev.orU rfl rfl rfl (by simp only [IntKind.bits]; omega) (by simp only [IntKind.bits]; omega)) rfl ?_;refine za rfl ?_;refine WL.nil (kr24 _ _ _ (kh21 ?_));refine Sr fun _ kh25 => zm rfl (za rfl (za rfl (zz (kh25 ?_))));refine zr (zr2 rfl rfl rfl ?_);rw [Nat.zero_or, if_pos (by omega), if_pos (by omega), ← hvw, hv1];exact ⟨rfl, rfl⟩
   ·have hv0 : L = [] := List.length_eq_zero_iff.1 (by omega);have hv1 : val l = 0 := by rw [← hvw, hv0]; rfl
    refine zkk ?_;refine kh21 (Sr fun _ kh27 => zm rfl (za rfl (za rfl (zz (kh27 ?_)))));refine zr (zr2 rfl rfl rfl ?_);rw [if_pos (by omega), if_pos (by omega), hv1];exact ⟨rfl, rfl⟩

theorem Len_spec (v : Value) (l : List Nat) (w : World) (h : NU w v l) : Ret Tryz.prog 185 [v] w fun u w' => u = .int .i64 (bl (val l) : Int) ∧ w = w' := by
 have hvw := val_wd (val l);obtain ⟨L, hL⟩ : ∃ L, L = wd (val l) := ⟨_, rfl⟩;rw [← hL] at hvw;refine zE1 Tryz.func185 rfl ?_;refine Sr fun _ kh1 => za rfl (zz (kh1 (zc fun _ kh3 => Sr fun _ kh4 => zm rfl ?_)));refine WL.call hasF227 rfl rfl (cut_spec _ _ _ h) fun v w1 h' => ?_;obtain ⟨hN, rfl⟩ := h';rw [← hL] at hN;obtain ⟨⟨a1, c1, rfl, hcap1, hr1⟩, hW1, hl1⟩ := hN;refine za rfl (zz (kh4 (Sr fun _ kh6 => zm rfl (zn rfl (zq rfl rfl (zz (kh6 ?_)))))));refine zy rfl ?_ ?_<;>intro hc1<;>try simp only [qs] at hc1
 ·refine Sr fun _ kh8 => za rfl (zz (kh8 ?_));refine zr (zr1 rfl rfl ?_);have hv0 : L = [] := List.length_eq_zero_iff.1 (by omega);rw [← hvw, hv0];exact ⟨rfl, rfl⟩
 ·have hlast : L.getD (L.length - 1) 0 ≠ 0 := by rw [hL]; exact wd_last fun e => by rw [e, wd_zero] at hL; rw [hL] at hc1; exact hc1 rfl
  have hbl := bl_val hW1 (fun e => by rw [e] at hc1; exact hc1 rfl) hlast;rw [hvw] at hbl;have hb32 := bl_le.2 (show L.getD (L.length - 1) 0 < 2 ^ 32 from hW1.getD _);refine zkk ?_;refine kh3 (Sr fun _ kh10 => zm rfl (zn rfl ?_))
  first | refine WL.ev (Ev.subIn rfl rfl (by omega)) rfl ?_ | refine WL.ev (Ev.sub rfl rfl) rfl ?_
  refine WL.ev (Ev.mulIn rfl rfl (by omega)) rfl ?_;refine zm rfl (zm rfl (zn rfl ?_))
  first | refine WL.ev (Ev.subIn rfl rfl (by omega)) rfl ?_ | refine WL.ev (Ev.sub rfl rfl) rfl ?_
  refine WL.ev (Ev.ixR (((L).length - 1)) rfl rfl hr1 (by omega) (by omega) (by simp; omega)) rfl ?_;refine WL.ev (Ev.load rfl rfl (hr1.u32 (by first | omega | (simp; omega)))) rfl ?_;have hw17 := hW1.getD (((L).length - 1));refine WL.call hasF269 rfl rfl (Len32_spec _ _ (hW1.getD _)) fun v w2 h' => ?_;obtain ⟨rfl, rfl⟩ := h';(first | refine zi rfl rfl ?_ | refine zo rfl rfl ?_);refine za rfl (zz (kh10 ?_));refine zr (zr1 rfl rfl ?_);refine ⟨?_, rfl⟩;rw [hbl]; first | rfl | (congr 1; omega)

structure KL (l : List Nat) (w : World) (i : Nat) (wr : World) : Prop where
  le : i ≤ l.length
  z : val (l.take i) = 0
  eq : w = wr

theorem Low_spec (v : Value) (l : List Nat) (w : World) (h : NU w v l) (hg : GW w) : Ret Tryz.prog 225 [v] w fun u w' => u = .int .i64 (tz (val l) : Int) ∧ w = w' := by
 obtain ⟨⟨al, cl, rfl, hcapl, hrl⟩, hWl, hll⟩ := h;have hch : Chg [] w w := Chg.refl _ _;refine zE1 Tryz.func225 rfl ?_;refine Sr fun _ kh1 => za rfl (zz (kh1 (zc fun _ kh3 => Sr fun _ kh4 => zm rfl (zn rfl (zm rfl (zz (kh4 ?_)))))));refine CW.block ?_;refine CW.loop (S := fun i : Nat => [(5, .slice al l.length cl), (6, .int .i64 (l.length : Int)), (7, .int .i64 (i : Int))]) (Inv := KL l w) (mu := fun i => l.length - i) (0) ?_ ?_ ?_
 ·exact ⟨Nat.zero_le _, rfl, rfl⟩
 ·exact SLp
 ·rintro i _ ⟨hil, hz, rfl⟩;refine Sr fun _ kh6 => ?_;refine WL.ev (Ev.lss rfl rfl) rfl ?_;refine zz (kh6 (zc fun _ kh8 => ?_));refine zy rfl ?_ ?_<;>intro hc1<;>try simp only [qs] at hc1
  ·refine zkk ?_
   refine kh8 (zc fun _ kh9 => ?_);refine CW.block ?_;refine Sr fun _ kh10 => zm rfl ?_;refine WL.ev (Ev.ixR (i) rfl rfl (hrl.keep0 hch) (by omega) (by omega) (by simp; omega)) rfl ?_;refine WL.ev (Ev.load rfl rfl ((hrl.keep0 hch).u32 (by first | omega | (simp; omega)))) rfl ?_;have hw11 := hWl.getD (i);refine za rfl (za rfl (zz (kh10 (Sr fun _ kh12 => zm rfl ?_))));refine WL.ev (Ev.neq rfl rfl) rfl ?_;refine zz (kh12 ?_);refine zy rfl ?_ ?_<;>intro hc2<;>try simp only [qs] at hc2
   ·have htz := tz_words hWl (by omega) hz (by omega);have htl := tz_lt_bl (n := l.getD i 0) (by omega);have hb32 := bl_le.2 (show l.getD i 0 < 2 ^ 32 from hWl.getD _);refine Sr fun _ kh14 => zm rfl ?_
    refine WL.ev (Ev.mulIn rfl rfl (by omega)) rfl ?_;refine zm rfl ?_;refine WL.call hasF301 rfl rfl (TrailingZeros32_spec _ _ hg (by omega) (hWl.getD _)) fun v w1 h' => ?_;obtain ⟨rfl, rfl⟩ := h';(first | refine zi rfl rfl ?_ | refine zo rfl rfl ?_);refine za rfl (zz (kh14 ?_));refine zr (zr1 rfl rfl ?_);refine ⟨?_, rfl⟩;rw [htz]; first | rfl | (congr 1; omega)
   ·refine zkk ?_
    refine kh9 ?_;refine zR fun _ kr16 => ?_;(first | refine zi rfl rfl ?_ | refine zo rfl rfl ?_);refine zm rfl ?_;refine WL.nil (kr16 _ _ _ ?_);refine ⟨rfl, i + 1, ?_, ?_, ?_⟩
    ·exact SLp
    ·exact ⟨by omega, by rw [val_take_succ' l i, hz, (by omega : l.getD i 0 = 0)]; simp, rfl⟩
    ·show l.length - (i + 1) < l.length - i; omega
  ·refine CW.exit ?_
   refine kh3 (Sr fun _ kh17 => za rfl (zz (kh17 ?_)));refine zr (zr1 rfl rfl ?_);have e : i = l.length := by omega
   subst e;rw [List.take_length] at hz;rw [hz, tz_zero];exact ⟨rfl, rfl⟩

end

/- Package wide: sums, differences, products, moves. No condition. -/
section
open Go Sx Wd

theorem testBit_words {l : List Nat} (h : W l) (n : Nat) : (val l).testBit n = decide (l.getD (n / 32) 0 / 2 ^ (n % 32) % 2 = 1) := by
  rw [getD_val h, Nat.testBit_eq_decide_div_mod_eq]
  refine decide_eq_decide.2 ?_
  have e : val l / 2 ^ n = val l / 2 ^ (32 * (n / 32)) / 2 ^ (n % 32) := by
    rw [Nat.div_div_eq_div_mul, ← Nat.pow_add, show 32 * (n / 32) + n % 32 = n by omega]
  rw [e]
  generalize val l / 2 ^ (32 * (n / 32)) = q
  have hn : n % 32 < 32 := Nat.mod_lt _ (by decide)
  generalize n % 32 = r at *
  have e32 : (4294967296 : Nat) = 2 ^ r * (2 * 2 ^ (31 - r)) := by
    rw [show 2 * 2 ^ (31 - r) = 2 ^ (32 - r) by rw [Nat.mul_comm, ← Nat.pow_succ, show (31 - r).succ = 32 - r by omega], ← Nat.pow_add, show r + (32 - r) = 32 by omega]
  rw [e32, Nat.mod_mul_right_div_self, Nat.mod_mul_right_mod]

theorem Bit_spec (v : Value) (l : List Nat) (i : Int) (w : World) (h : NU w v l) (hi : -9223372036854775808 ≤ i ∧ i ≤ 9223372036854775807) : Ret Tryz.prog 237 [v, .int .i64 i] w fun u w' => u = .bool (decide (0 ≤ i) && (val l).testBit i.toNat) ∧ w = w' := by
 obtain ⟨⟨al, cl, rfl, hcapl, hrl⟩, hWl, hll⟩ := h;have hch : Chg [] w w := Chg.refl _ _;refine zE2 Tryz.func237 rfl ?_;refine Sr fun _ kh1 => za rfl (zz (kh1 (Sr fun _ kh3 => zm rfl ?_)));refine WL.ev (Ev.geq rfl rfl) rfl ?_;refine zm rfl ?_;refine zb ?_ ?_<;>intro hg1<;>try simp only [qs] at hg1
 ·obtain ⟨n, rfl⟩ : ∃ n : Nat, i = (n : Int) := ⟨i.toNat, by omega⟩
  have htb := testBit_words hWl n;refine zw rfl (zm rfl (zw rfl ?_));refine WL.ev (Ev.quoU (b := 32) rfl rfl (by omega) (in_i64 (by omega)).2) rfl ?_;refine zw rfl (zm rfl (zw rfl (zn rfl (zw rfl ?_))));refine WL.ev (Ev.lss rfl rfl) rfl ?_;refine zt rfl rfl (zm rfl ?_);refine zb ?_ ?_<;>intro hg2<;>try simp only [qs] at hg2
  ·refine zw rfl (zm rfl (zw rfl (zm rfl (zw rfl ?_))));refine WL.ev (Ev.quoU (b := 32) rfl rfl (by omega) (in_i64 (by omega)).2) rfl ?_
   refine zw rfl ?_;refine WL.ev (Ev.ixR ((n / 32)) rfl rfl (hrl.keep0 hch) (by omega) (by omega) (by simp; omega)) rfl ?_;refine zw rfl ?_;refine WL.ev (Ev.load rfl rfl ((hrl.keep0 hch).u32 (by first | omega | (simp; omega)))) rfl ?_;have hw19 := hWl.getD ((n / 32));refine zw rfl (zm rfl (zw rfl ?_));refine WL.ev (Ev.remU (b := 32) rfl rfl (by omega)) rfl ?_;refine zw rfl ?_;refine WL.ev (Ev.shrU rfl rfl (by simp only [IntKind.bits]; omega)) rfl ?_;have hq2 : l.getD (n / 32) 0 / 2 ^ (n % 32) ≤ l.getD (n / 32) 0 := Nat.div_le_self _ _;refine zw rfl ?_;refine WL.ev (Ev.andU (b := 1) rfl rfl rfl (by simp only [IntKind.bits]; omega) (by simp only [IntKind.bits]; omega)) rfl ?_;rw [Nat.and_one_is_mod];refine zw rfl (zq rfl rfl (zt rfl rfl (za rfl (zz (kh3 ?_)))));refine zr (zr1 rfl rfl ?_);refine ⟨?_, rfl⟩;rw [show (n : Int).toNat = n by omega, htb, decide_eq_true (show (0 : Int) ≤ (n : Int) by omega), Bool.true_and]
   congr 1
   refine decide_eq_decide.2 ?_;omega
  ·refine zv rfl (zv rfl (zv rfl (zv rfl (zv rfl (zv rfl (zv rfl (zv rfl (zv rfl (zv rfl (ze rfl rfl (za rfl (zz (kh3 ?_)))))))))))));refine zr (zr1 rfl rfl ?_);refine ⟨?_, rfl⟩;rw [show (n : Int).toNat = n by omega, htb, getD_out (by omega)];simp
 ·refine zv rfl (zv rfl (zv rfl (zv rfl (zv rfl (ze rfl rfl (zm rfl (zv rfl (zv rfl (zv rfl (zv rfl (zv rfl (zv rfl (zv rfl (zv rfl (zv rfl (zv rfl (ze rfl rfl (za rfl (zz (kh3 ?_))))))))))))))))))));refine zr (zr1 rfl rfl ?_);refine ⟨?_, rfl⟩;rw [decide_eq_false (by omega), Bool.false_and]

theorem both_spec (va vb : Value) (la lb : List Nat) (w : World) (ha : NU w va la) (hb : NU w vb lb) : Ret Tryz.prog 232 [va, vb] w fun u w' => ((((wd (val la)).length ≤ 8192 ∧ (wd (val lb)).length ≤ 8192) ∧ ∃ x y, u = .tuple [x, y, .int .i64 0].toArray ∧ NU w x (wd (val la)) ∧ NU w y (wd (val lb))) ∨ (¬ ((wd (val la)).length ≤ 8192 ∧ (wd (val lb)).length ≤ 8192) ∧ u = .tuple [.slice none 0 0, .slice none 0 0, .int .i64 2].toArray)) ∧ w = w' := by
 obtain ⟨A, hA⟩ : ∃ A, A = wd (val la) := ⟨_, rfl⟩;have hvA : val A = val la := by rw [hA]; exact val_wd _
 obtain ⟨B, hB⟩ : ∃ B, B = wd (val lb) := ⟨_, rfl⟩;have hvB : val B = val lb := by rw [hB]; exact val_wd _
 have hch : Chg [] w w := Chg.refl _ _;refine zE2 Tryz.func232 rfl ?_;refine Sr fun _ kh1 => za rfl (za rfl (za rfl (zz (kh1 (Sr fun _ kh3 => zm rfl ?_)))));refine WL.call hasF227 rfl rfl (cut_spec _ _ _ ha) fun v w1 h' => ?_;obtain ⟨hN1, rfl⟩ := h';rw [← hA] at hN1;obtain ⟨⟨a1, c1, rfl, hcap1, hr1⟩, hW1, hl1⟩ := hN1;refine zm rfl ?_;refine WL.call hasF227 rfl rfl (cut_spec _ _ _ hb) fun v w2 h' => ?_;obtain ⟨hN2, rfl⟩ := h';rw [← hB] at hN2;obtain ⟨⟨a2, c2, rfl, hcap2, hr2⟩, hW2, hl2⟩ := hN2;refine za rfl (za rfl (zz (kh3 (zc fun _ kh5 => Sr fun _ kh6 => zm rfl (zn rfl (zm rfl (zn rfl ?_)))))));refine WL.ev (Ev.maxI rfl rfl) rfl ?_;refine WL.ev (Ev.gtr rfl rfl) rfl ?_;refine zz (kh6 ?_);refine zy rfl ?_ ?_<;>intro hc1<;>try simp only [qs] at hc1
 ·refine Sr fun _ kh8 => za rfl (za rfl (za rfl (zz (kh8 ?_))));refine zr ?_
  refine bodyA.ret3 rfl rfl rfl rfl ?_;rw [← hA, ← hB];exact ⟨.inr ⟨by omega, rfl⟩, rfl⟩
 ·refine zkk ?_
  refine kh5 (Sr fun _ kh10 => zm rfl (zm rfl (za rfl (za rfl (za rfl (zz (kh10 ?_)))))));refine zr ?_;refine bodyA.ret3 rfl rfl rfl rfl ?_;rw [← hA, ← hB];exact ⟨.inl ⟨by omega, _, _, rfl, NU.of_row hr1 hW1 hl1 rfl hcap1, NU.of_row hr2 hW2 hl2 rfl hcap2⟩, rfl⟩

theorem fits_spec (v : Value) (l : List Nat) (w : World) (h : NU w v l) : Ret Tryz.prog 229 [v] w fun u w' => (((wd (val l)).length ≤ 8192 ∧ ∃ r, u = .tuple [r, .int .i64 0].toArray ∧ NU w r (wd (val l))) ∨ (8192 < (wd (val l)).length ∧ u = .tuple [.slice none 0 0, .int .i64 2].toArray)) ∧ w = w' := by
 obtain ⟨A, hA⟩ : ∃ A, A = wd (val l) := ⟨_, rfl⟩;have hvA : val A = val l := by rw [hA]; exact val_wd _
 have hch : Chg [] w w := Chg.refl _ _;refine zE1 Tryz.func229 rfl ?_;refine Sr fun _ kh1 => za rfl (za rfl (zz (kh1 (zc fun _ kh3 => Sr fun _ kh4 => zm rfl ?_))));refine WL.call hasF227 rfl rfl (cut_spec _ _ _ h) fun v w1 h' => ?_;obtain ⟨hN1, rfl⟩ := h';rw [← hA] at hN1;obtain ⟨⟨a1, c1, rfl, hcap1, hr1⟩, hW1, hl1⟩ := hN1;refine za rfl (zz (kh4 (Sr fun _ kh6 => zm rfl (zn rfl ?_))));refine WL.ev (Ev.gtr rfl rfl) rfl ?_;refine zz (kh6 ?_);refine zy rfl ?_ ?_<;>intro hc1<;>try simp only [qs] at hc1
 ·refine Sr fun _ kh8 => za rfl (za rfl (zz (kh8 ?_)));refine zr (zr2 rfl rfl rfl ?_);rw [← hA];exact ⟨.inr ⟨by omega, rfl⟩, rfl⟩
 ·refine zkk ?_
  refine kh3 (Sr fun _ kh10 => zm rfl (zm rfl (zn rfl (zm rfl (zn rfl ?_)))));refine WL.ev (Ev.slice3n ((A).length) ((A).length) rfl rfl rfl (by omega) (by omega) (by omega) (by omega)) rfl ?_;refine za rfl (za rfl (zz (kh10 ?_)));refine zr (zr2 rfl rfl rfl ?_);rw [← hA];exact ⟨.inl ⟨by omega, _, rfl, NU.of_row hr1 hW1 hl1 rfl (Nat.le_refl _)⟩, rfl⟩

structure KA (X Y : List Nat) (w : World) (b : Nat) (g : Nat × List Nat × Nat) (wr : World) : Prop where
  a : AddI X Y g.1 g.2.1 g.2.2
  ob : OB wr b 219 g.2.1
  chg : Chg [] w wr

theorem Add_spec (va vb : Value) (la lb : List Nat) (w : World) (ha : NU w va la) (hb : NU w vb lb) : Ret Tryz.prog 341 [va, vb] w fun u w' => (((wd (val la)).length ≤ 8192 ∧ (wd (val lb)).length ≤ 8192 ∧ (wd (val la + val lb)).length ≤ 8192 ∧ ∃ r, u = .tuple [r, .int .i64 0].toArray ∧ NU w' r (wd (val la + val lb))) ∨ (¬ ((wd (val la)).length ≤ 8192 ∧ (wd (val lb)).length ≤ 8192 ∧ (wd (val la + val lb)).length ≤ 8192) ∧ u = .tuple [.slice none 0 0, .int .i64 2].toArray)) ∧ Chg [] w w' := by
 have hch : Chg [] w w := Chg.refl _ _;refine zE2 Tryz.func341 rfl ?_;refine Sr fun _ kh1 => za rfl (za rfl (zz (kh1 (Sr fun _ kh3 => zm rfl (zm rfl ?_)))));refine WL.call hasF232 rfl rfl (both_spec _ _ _ _ _ ha hb) fun v w14 h' => ?_;obtain ⟨h', rfl⟩ := h';rcases h' with ⟨hfit, x, y, rfl, hNx, hNy⟩ | ⟨hno, rfl⟩
 ·obtain ⟨A, hA⟩ : ∃ A, A = wd (val la) := ⟨_, rfl⟩;have hvA : val A = val la := by rw [hA]; exact val_wd _
  obtain ⟨B, hB⟩ : ∃ B, B = wd (val lb) := ⟨_, rfl⟩;have hvB : val B = val lb := by rw [hB]; exact val_wd _
  have hfit0 := hfit;rw [← hA, ← hB] at hfit;rw [← hA] at hNx;rw [← hB] at hNy;obtain ⟨⟨a1, c1, rfl, hcap1, hr1⟩, hW1, hl1⟩ := hNx;obtain ⟨⟨a2, c2, rfl, hcap2, hr2⟩, hW2, hl2⟩ := hNy;refine zm rfl (zx rfl rfl (zx rfl rfl (zx rfl rfl (za rfl (za rfl (za rfl (zz (kh3 (zc fun _ kh5 => Sr fun _ kh6 => zm rfl ?_)))))))));refine WL.ev (Ev.neq rfl rfl) rfl ?_;refine zz (kh6 ?_);refine CW.condF rfl ?_;refine zkk ?_;refine kh5 ?_;refine CW.seqJ (fun D s' w' => D = [] ∧ w = w' ∧ ∃ xa ca xb cb X Y, RW w xa (X.map u32v) ∧ W X ∧ RW w xb (Y.map u32v) ∧ W Y ∧ Y.length ≤ X.length ∧ X.length ≤ 8192 ∧ val X + val Y = val la + val lb ∧ Subs [(0, .slice xa X.length ca), (1, .slice xb Y.length cb)] s') ?_ ?_
  ·refine Sr fun _ kh9 => zm rfl (zn rfl (zm rfl (zn rfl ?_)));refine WL.ev (Ev.lss rfl rfl) rfl ?_;refine zz (kh9 ?_);refine zy rfl ?_ ?_<;>intro hc1<;>try simp only [qs] at hc1
   ·refine zR fun _ kr11 => ?_
    refine zm rfl (zm rfl (za rfl (za rfl ?_)));refine WL.nil (kr11 _ _ _ ?_);exact ⟨rfl, rfl, a2, c2, a1, c1, B, A, hr2, hW2, hr1, hW1, by omega, by omega, by omega, (by repeat (first | exact Subs.nil | refine Subs.cons rfl ?_))⟩
   ·refine zkk ?_
    exact ⟨rfl, rfl, a1, c1, a2, c2, A, B, hr1, hW1, hr2, hW2, by omega, by omega, by omega, (by repeat (first | exact Subs.nil | refine Subs.cons rfl ?_))⟩
  ·rintro _ s' _ ⟨rfl, rfl, xa, ca, xb, cb, X, Y, hrX, hWX, hrY, hWY, hYX, hX81, hXY, hsub⟩;refine CW.sub hsub ?_;refine Sr fun _ kh12 => zm rfl (zn rfl ?_);(first | refine zi rfl rfl ?_ | refine zo rfl rfl ?_);refine WL.makeU (((X).length + 1)) (((X).length + 1)) rfl rfl (by omega) (by omega) (by omega) (by omega) (by omega) rfl fun b31 wm31 hb31 hcm31 hge31 => ?_;have hgehch31 := Nat.le_trans hch.size hge31;have hch := hch.ta hcm31;refine za rfl (zz (kh12 (Sr fun _ kh14 => zm rfl (zm rfl ?_))));refine WL.copyU rfl rfl hb31 (hrX.keep0 hch) (by simp; try omega) (by simp; try omega) rfl fun ws2 hb31_ hcs2 => ?_;have hch := hch.s1 hcs2;have hb31 := hb31_;rw [show ((X).take (min ((X).length) (((X).length + 1))) ++ (List.replicate (((X).length + 1)) 0).drop (min ((X).length) (((X).length + 1)))) = (X ++ [0]) from by rw [show min X.length (X.length + 1) = X.length by omega, List.take_length, List.drop_replicate, show X.length + 1 - X.length = 1 by omega]; rfl] at hb31;refine zz (kh14 (Sr fun _ kh16 => za rfl (zz (kh16 (zc fun _ kh18 => Sr fun _ kh19 => zm rfl (zn rfl (zm rfl (zz (kh19 ?_)))))))));refine CW.block ?_;refine CW.loop (S := fun g : Nat × List Nat × Nat => [(0, .slice xa X.length ca), (1, .slice xb Y.length cb), (7, .slice (some ⟨b31, 0, none⟩) (X.length + 1) (X.length + 1)), (8, .int .u32 (g.2.2 : Int)), (36, .int .i64 (X.length : Int)), (37, .int .i64 (g.1 : Int))]) (Inv := KA X Y w b31) (mu := fun g => X.length - g.1) ((0, X ++ [0], 0)) ?_ ?_ ?_
   ·exact ⟨AddI.zero (by simp) (W_append.2 ⟨hWX, W_cons.2 ⟨by omega, W_nil⟩⟩), hb31, hch⟩
   ·exact SLp
   ·rintro ⟨i, L, c⟩ wr ⟨hA, hb31, hch⟩;dsimp only at hA hb31 hch;have hiX := hA.le;have hLl := hA.len;have hc1 := hA.c1;refine Sr fun _ kh21 => ?_;refine WL.ev (Ev.lss rfl rfl) rfl ?_;refine zz (kh21 (zc fun _ kh23 => ?_));refine zy rfl ?_ ?_<;>intro hc2<;>try simp only [qs] at hc2
    ·refine zkk ?_
     refine kh23 (zc fun _ kh24 => ?_);refine CW.block ?_;refine Sr fun _ kh25 => zm rfl (za rfl (zz (kh25 (Sr fun _ kh27 => za rfl (zz (kh27 (zc fun _ kh29 => Sr fun _ kh30 => zm rfl (zm rfl (zn rfl ?_)))))))));refine WL.ev (Ev.lss rfl rfl) rfl ?_;refine zz (kh30 ?_);refine zy rfl ?_ ?_<;>intro hc3<;>try simp only [qs] at hc3
     ·refine zR fun _ kr32 => ?_
      refine zm rfl (zm rfl ?_);refine WL.ev (Ev.ixR (i) rfl rfl (hrY.keep0 hch) (by omega) (by omega) (by simp; omega)) rfl ?_;refine WL.ev (Ev.load rfl rfl ((hrY.keep0 hch).u32 (by first | omega | (simp; omega)))) rfl ?_;have hw47 := hWY.getD (i);refine za rfl ?_;refine WL.nil (kr32 _ _ _ (kh29 ?_));refine zR fun _ kr33 => ?_;refine zm rfl (zm rfl (zm rfl (zm rfl ?_)));refine WL.ev (Ev.ixR (i) rfl rfl (hrX.keep0 hch) (by omega) (by omega) (by simp; omega)) rfl ?_;refine WL.ev (Ev.load rfl rfl ((hrX.keep0 hch).u32 (by first | omega | (simp; omega)))) rfl ?_;have hw54 := hWX.getD (i);refine zm rfl (zm rfl ?_);refine WL.call hasF231 rfl rfl (Add32_spec (X.getD i 0) (Y.getD i 0) c _ (hWX.getD i) (hWY.getD i) (by omega)) fun v w1 h' => ?_;obtain ⟨rfl, rfl⟩ := h';refine zm rfl (zx rfl rfl (zx rfl rfl ?_));refine WL.ev (Ev.ixB (i) rfl rfl (by omega) (by omega)) rfl ?_;refine WL.storeU rfl rfl hb31 (by first | omega | (simp; omega)) fun ws3 hb31_ hcs3 => ?_;have hch := hch.s1 hcs3;have hb31 := hb31_;refine za rfl ?_;refine WL.nil (kr33 _ _ _ (kh24 ?_));refine zR fun _ kr34 => ?_;(first | refine zi rfl rfl ?_ | refine zo rfl rfl ?_);refine zm rfl ?_;refine WL.nil (kr34 _ _ _ ?_);refine ⟨rfl, (i + 1, L.set i ((X.getD i 0 + Y.getD i 0 + c) % 4294967296), (X.getD i 0 + Y.getD i 0 + c) / 4294967296), ?_, ?_, ?_⟩
      ·exact SLp
      ·exact ⟨hA.step hWX hWY (by omega), hb31, hch⟩
      ·show X.length - (i + 1) < X.length - i; omega
     ·have hy0 : Y.getD i 0 = 0 := getD_out (by omega);refine zkk ?_
      refine kh29 ?_;refine zR fun _ kr35 => ?_;refine zm rfl (zm rfl (zm rfl (zm rfl ?_)));refine WL.ev (Ev.ixR (i) rfl rfl (hrX.keep0 hch) (by omega) (by omega) (by simp; omega)) rfl ?_;refine WL.ev (Ev.load rfl rfl ((hrX.keep0 hch).u32 (by first | omega | (simp; omega)))) rfl ?_;have hw54 := hWX.getD (i);refine zm rfl (zm rfl ?_);refine WL.call hasF231 rfl rfl (Add32_spec (X.getD i 0) 0 c _ (hWX.getD i) (by omega) (by omega)) fun v w2 h' => ?_;obtain ⟨rfl, rfl⟩ := h';rw [show X.getD i 0 + 0 + c = X.getD i 0 + Y.getD i 0 + c by omega];refine zm rfl (zx rfl rfl (zx rfl rfl ?_));refine WL.ev (Ev.ixB (i) rfl rfl (by omega) (by omega)) rfl ?_;refine WL.storeU rfl rfl hb31 (by first | omega | (simp; omega)) fun ws4 hb31_ hcs4 => ?_;have hch := hch.s1 hcs4;have hb31 := hb31_;refine za rfl ?_;refine WL.nil (kr35 _ _ _ (kh24 ?_));refine zR fun _ kr36 => ?_;(first | refine zi rfl rfl ?_ | refine zo rfl rfl ?_);refine zm rfl ?_;refine WL.nil (kr36 _ _ _ ?_);refine ⟨rfl, (i + 1, L.set i ((X.getD i 0 + Y.getD i 0 + c) % 4294967296), (X.getD i 0 + Y.getD i 0 + c) / 4294967296), ?_, ?_, ?_⟩
      ·exact SLp
      ·exact ⟨hA.step hWX hWY (by omega), hb31, hch⟩
      ·show X.length - (i + 1) < X.length - i; omega
    ·refine CW.exit ?_
     refine kh18 (zc fun _ kh37 => ?_);have hiX2 : i = X.length := by omega
     subst hiX2;obtain ⟨hv9, hW9, hl9⟩ := hA.done hYX;rw [hXY] at hv9;refine zR fun _ kr38 => ?_;refine zm rfl (zm rfl (zn rfl (zm rfl ?_)));refine WL.ev (Ev.ixB (X.length) rfl rfl (by omega) (by omega)) rfl ?_;refine WL.storeU rfl rfl hb31 (by first | omega | (simp; omega)) fun ws5 hb31_ hcs5 => ?_;have hch := hch.s1 hcs5;have hb31 := hb31_;refine WL.nil (kr38 _ _ _ (kh37 ?_));refine Sr fun _ kh39 => zm rfl ?_;refine WL.call hasF229 rfl rfl (fits_spec _ _ _ (NU.of_block hb31 hW9 (by rw [hl9]; omega) (by rw [hl9]) (Nat.le_refl _))) fun v w68 h' => ?_;obtain ⟨h', rfl⟩ := h';rw [hv9] at h';rcases h' with ⟨hfs, r, rfl, hNr⟩ | ⟨hfs, rfl⟩
     ·refine zx rfl rfl (zx rfl rfl (za rfl (za rfl (zz (kh39 ?_)))));refine zr (zr2 rfl rfl rfl ?_);exact ⟨.inl ⟨hfit0.1, hfit0.2, hfs, r, rfl, hNr⟩, hch⟩
     ·refine zx rfl rfl (zx rfl rfl (za rfl (za rfl (zz (kh39 ?_)))));refine zr (zr2 rfl rfl rfl ?_);exact ⟨.inr ⟨by omega, rfl⟩, hch⟩
 ·refine zm rfl (zx rfl rfl (zx rfl rfl (zx rfl rfl (za rfl (za rfl (za rfl (zz (kh3 (zc fun _ kh41 => Sr fun _ kh42 => zm rfl ?_)))))))));refine WL.ev (Ev.neq rfl rfl) rfl ?_;refine zz (kh42 ?_);refine CW.condT rfl ?_;refine Sr fun _ kh44 => zm rfl (za rfl (za rfl (zz (kh44 ?_))));refine zr (zr2 rfl rfl rfl ?_);exact ⟨.inr ⟨by omega, rfl⟩, Chg.refl _ _⟩

end

/- Package wide: less, Sub, Cmp. No condition. -/
section
open Go Sx Wd

structure KS (X Y : List Nat) (w : World) (b : Nat) (g : Nat × List Nat × Nat) (wr : World) : Prop where
  a : SubI X Y g.1 g.2.1 g.2.2
  ob : OB wr b 219 g.2.1
  chg : Chg [] w wr

theorem less_spec (va vb : Value) (la lb : List Nat) (w : World) (ha : NU w va la) (hb : NU w vb lb) (hle : val lb ≤ val la) : Ret Tryz.prog 233 [va, vb] w fun u w' => ∃ L, NU w' u L ∧ val L = val la - val lb ∧ Chg [] w w' := by
 obtain ⟨⟨ala, cla, rfl, hcapla, hrla⟩, hWla, hlla⟩ := ha;obtain ⟨⟨alb, clb, rfl, hcaplb, hrlb⟩, hWlb, hllb⟩ := hb;have hch : Chg [] w w := Chg.refl _ _;refine zE2 Tryz.func233 rfl ?_;refine Sr fun _ kh1 => za rfl (zz (kh1 (Sr fun _ kh3 => zm rfl (zn rfl ?_))));refine WL.makeU ((la).length) ((la).length) rfl rfl (by omega) (by omega) (by omega) (by omega) (by omega) rfl fun b11 wm11 hb11 hcm11 hge11 => ?_;have hgehch11 := Nat.le_trans hch.size hge11;have hch := hch.ta hcm11;refine za rfl (zz (kh3 (Sr fun _ kh5 => za rfl (zz (kh5 (zc fun _ kh7 => Sr fun _ kh8 => zm rfl (zn rfl (zm rfl (zz (kh8 ?_))))))))));refine CW.block ?_;refine CW.loop (S := fun g : Nat × List Nat × Nat => [(0, .slice ala la.length cla), (1, .slice alb lb.length clb), (5, .slice (some ⟨b11, 0, none⟩) la.length la.length), (6, .int .u32 (g.2.2 : Int)), (13, .int .i64 (la.length : Int)), (14, .int .i64 (g.1 : Int))]) (Inv := KS la lb w b11) (mu := fun g => la.length - g.1) ((0, List.replicate la.length 0, 0)) ?_ ?_ ?_
 ·exact ⟨SubI.zero (by simp) (W_replicate _), hb11, hch⟩
 ·exact SLp
 ·rintro ⟨i, L, c⟩ wr ⟨hAd, hb11, hch⟩;dsimp only at hAd hb11 hch;have hiX := hAd.le;have hLl := hAd.len;have hcc := hAd.c1;refine Sr fun _ kh10 => ?_;refine WL.ev (Ev.lss rfl rfl) rfl ?_;refine zz (kh10 (zc fun _ kh12 => ?_));refine zy rfl ?_ ?_<;>intro hc1<;>try simp only [qs] at hc1
  ·refine zkk ?_
   refine kh12 (zc fun _ kh13 => ?_);refine CW.block ?_;refine Sr fun _ kh14 => zm rfl (za rfl (zz (kh14 (Sr fun _ kh16 => za rfl (zz (kh16 (zc fun _ kh18 => Sr fun _ kh19 => zm rfl (zm rfl (zn rfl ?_)))))))));refine WL.ev (Ev.lss rfl rfl) rfl ?_;refine zz (kh19 ?_);refine zy rfl ?_ ?_<;>intro hc2<;>try simp only [qs] at hc2
   ·refine zR fun _ kr21 => ?_
    refine zm rfl (zm rfl ?_);refine WL.ev (Ev.ixR (i) rfl rfl (hrlb.keep0 hch) (by omega) (by omega) (by simp; omega)) rfl ?_;refine WL.ev (Ev.load rfl rfl ((hrlb.keep0 hch).u32 (by first | omega | (simp; omega)))) rfl ?_;have hw24 := hWlb.getD (i);refine za rfl ?_;refine WL.nil (kr21 _ _ _ (kh18 ?_));refine zR fun _ kr22 => ?_;refine zm rfl (zm rfl (zm rfl (zm rfl ?_)));refine WL.ev (Ev.ixR (i) rfl rfl (hrla.keep0 hch) (by omega) (by omega) (by simp; omega)) rfl ?_;refine WL.ev (Ev.load rfl rfl ((hrla.keep0 hch).u32 (by first | omega | (simp; omega)))) rfl ?_;have hw31 := hWla.getD (i);refine zm rfl (zm rfl ?_);refine WL.call hasF302 rfl rfl (Sub32_spec (la.getD i 0) (lb.getD i 0) c _ (hWla.getD i) (hWlb.getD i) (by omega)) fun v w1 h' => ?_;obtain ⟨rfl, rfl⟩ := h';refine zm rfl (zx rfl rfl (zx rfl rfl ?_));refine WL.ev (Ev.ixB (i) rfl rfl (by omega) (by omega)) rfl ?_;refine WL.storeU rfl rfl hb11 (by first | omega | (simp; omega)) fun ws6 hb11_ hcs6 => ?_;have hch := hch.s1 hcs6;have hb11 := hb11_;refine za rfl ?_;refine WL.nil (kr22 _ _ _ (kh13 ?_));refine zR fun _ kr23 => ?_;(first | refine zi rfl rfl ?_ | refine zo rfl rfl ?_);refine zm rfl ?_;refine WL.nil (kr23 _ _ _ ?_);refine ⟨rfl, (i + 1, L.set i ((la.getD i 0 + 8589934592 - lb.getD i 0 - c) % 4294967296), if la.getD i 0 < lb.getD i 0 + c then 1 else 0), ?_, ?_, ?_⟩
    ·exact SLp
    ·exact ⟨hAd.step hWla hWlb (by omega), hb11, hch⟩
    ·show la.length - (i + 1) < la.length - i; omega
   ·have e0 : Value.int IntKind.u32 0 = Value.int IntKind.u32 ((lb.getD i 0 : Nat) : Int) := by rw [getD_out (by omega)]; rfl
    rw [e0];refine zkk ?_;refine kh18 ?_;refine zR fun _ kr24 => ?_;refine zm rfl (zm rfl (zm rfl (zm rfl ?_)));refine WL.ev (Ev.ixR (i) rfl rfl (hrla.keep0 hch) (by omega) (by omega) (by simp; omega)) rfl ?_;refine WL.ev (Ev.load rfl rfl ((hrla.keep0 hch).u32 (by first | omega | (simp; omega)))) rfl ?_;have hw31 := hWla.getD (i);refine zm rfl (zm rfl ?_);refine WL.call hasF302 rfl rfl (Sub32_spec (la.getD i 0) (lb.getD i 0) c _ (hWla.getD i) (hWlb.getD i) (by omega)) fun v w2 h' => ?_;obtain ⟨rfl, rfl⟩ := h';refine zm rfl (zx rfl rfl (zx rfl rfl ?_));refine WL.ev (Ev.ixB (i) rfl rfl (by omega) (by omega)) rfl ?_;refine WL.storeU rfl rfl hb11 (by first | omega | (simp; omega)) fun ws7 hb11_ hcs7 => ?_;have hch := hch.s1 hcs7;have hb11 := hb11_;refine za rfl ?_;refine WL.nil (kr24 _ _ _ (kh13 ?_));refine zR fun _ kr25 => ?_;(first | refine zi rfl rfl ?_ | refine zo rfl rfl ?_);refine zm rfl ?_;refine WL.nil (kr25 _ _ _ ?_);refine ⟨rfl, (i + 1, L.set i ((la.getD i 0 + 8589934592 - lb.getD i 0 - c) % 4294967296), if la.getD i 0 < lb.getD i 0 + c then 1 else 0), ?_, ?_, ?_⟩
    ·exact SLp
    ·exact ⟨hAd.step hWla hWlb (by omega), hb11, hch⟩
    ·show la.length - (i + 1) < la.length - i; omega
  ·refine CW.exit ?_
   refine kh7 (Sr fun _ kh26 => zm rfl (za rfl (zz (kh26 ?_))));refine zr (zr1 rfl rfl ?_);have hiX2 : i = la.length := by omega
   subst hiX2;exact ⟨L, NU.of_block hb11 hAd.w (by omega) (by omega) (Nat.le_refl _), hAd.done hWla hWlb hle, hch⟩

structure KC (A B : List Nat) (w : World) (k : Nat) (wr : World) : Prop where
  le : k ≤ A.length
  eq : A.drop k = B.drop k
  chg : Chg [] w wr

theorem Cmp_spec (va vb : Value) (la lb : List Nat) (w : World) (ha : NU w va la) (hb : NU w vb lb) : Ret Tryz.prog 149 [va, vb] w fun u w' => u = .int .i64 (sgn (val la) (val lb)) ∧ Chg [] w w' := by
 obtain ⟨A, hA⟩ : ∃ A, A = wd (val la) := ⟨_, rfl⟩;have hvA : val A = val la := by rw [hA]; exact val_wd _
 obtain ⟨B, hB⟩ : ∃ B, B = wd (val lb) := ⟨_, rfl⟩;have hvB : val B = val lb := by rw [hB]; exact val_wd _
 have hch : Chg [] w w := Chg.refl _ _;refine zE2 Tryz.func149 rfl ?_;refine Sr fun _ kh1 => za rfl (zz (kh1 (Sr fun _ kh3 => zm rfl ?_)));refine WL.call hasF227 rfl rfl (cut_spec _ _ _ ha) fun v w1 h' => ?_;obtain ⟨hN1, rfl⟩ := h';rw [← hA] at hN1;obtain ⟨⟨a1, c1, rfl, hcap1, hr1⟩, hW1, hl1⟩ := hN1;refine zm rfl ?_;refine WL.call hasF227 rfl rfl (cut_spec _ _ _ hb) fun v w2 h' => ?_;obtain ⟨hN2, rfl⟩ := h';rw [← hB] at hN2;obtain ⟨⟨a2, c2, rfl, hcap2, hr2⟩, hW2, hl2⟩ := hN2;refine za rfl (za rfl (zz (kh3 (zc fun _ kh5 => ?_))));refine CW.block ?_;refine Sr fun _ kh6 => zm rfl (zn rfl (zm rfl (zn rfl ?_)));refine WL.ev (Ev.lss rfl rfl) rfl ?_;refine za rfl (zz (kh6 ?_));refine zy rfl ?_ ?_<;>intro hc1<;>try simp only [qs] at hc1
 ·refine Sr fun _ kh8 => za rfl (zz (kh8 ?_));refine zr (zr1 rfl rfl ?_);have hs := sgn_len (a := val la) (b := val lb);rw [← hA, ← hB] at hs;rw [hs.1 (by omega)];exact ⟨rfl, hch⟩
 ·refine Sr fun _ kh10 => zm rfl (zn rfl (zm rfl (zn rfl ?_)));refine WL.ev (Ev.gtr rfl rfl) rfl ?_
  refine za rfl (zz (kh10 ?_));refine zy rfl ?_ ?_<;>intro hc2<;>try simp only [qs] at hc2
  ·refine Sr fun _ kh12 => za rfl (zz (kh12 ?_));refine zr (zr1 rfl rfl ?_);have hs := sgn_len (a := val la) (b := val lb);rw [← hA, ← hB] at hs;rw [hs.2 (by omega)];exact ⟨rfl, hch⟩
  ·have hAB : A.length = B.length := by omega
   refine zkk ?_;refine kh5 (zc fun _ kh14 => Sr fun _ kh15 => zm rfl (zn rfl ?_))
   first | refine WL.ev (Ev.subIn rfl rfl (by omega)) rfl ?_ | refine WL.ev (Ev.sub rfl rfl) rfl ?_
   refine za rfl (zz (kh15 ?_));refine CW.block ?_;refine CW.loop (S := fun k : Nat => [(0, .slice a1 A.length c1), (1, .slice a2 B.length c2), (5, .int .i64 ((k : Int) - 1))]) (Inv := KC A B w) (mu := fun k => k) (A.length) ?_ ?_ ?_
   ·exact ⟨Nat.le_refl _, by rw [List.drop_length, hAB, List.drop_length], hch⟩
   ·exact SLp
   ·rintro k wr ⟨hkl, hkd, hch⟩;refine zc fun _ kh17 => Sr fun _ kh18 => zm rfl ?_;refine WL.ev (Ev.geq rfl rfl) rfl ?_;refine zz (kh18 ?_);refine zy rfl ?_ ?_<;>intro hc3<;>try simp only [qs] at hc3
    ·have hk1 : k - 1 + 1 = k := by omega
     have hsd := sgn_drop hW1 hW2 hAB (k := k - 1) (by omega) (by rw [hk1]; exact hkd);rw [hvA, hvB] at hsd;refine zkk ?_;refine kh17 (zc fun _ kh20 => ?_);refine CW.block ?_;refine CW.block ?_;refine zc fun _ kh21 => ?_;refine CW.regionSC hmix (by kernel_rfl) fun kR22 kr22 hdr => ?_;have hch := hch.ta hdr;refine ym rfl (ym rfl ?_);refine WS.ev (Ev.ixR ((k - 1)) rfl rfl (hr1.keep0 hch) (by omega) (by omega) (by simp; omega)) rfl ?_;refine WS.ev (Ev.load rfl rfl ((hr1.keep0 hch).u32 (by first | omega | (simp; omega)))) rfl ?_;have hw33 := hW1.getD ((k - 1));refine ym rfl (ym rfl ?_);refine WS.ev (Ev.ixR ((k - 1)) rfl rfl (hr2.keep0 hch) (by omega) (by omega) (by simp; omega)) rfl ?_;refine WS.ev (Ev.load rfl rfl ((hr2.keep0 hch).u32 (by first | omega | (simp; omega)))) rfl ?_;have hw37 := hW2.getD ((k - 1));refine WS.ev (Ev.lss rfl rfl) rfl ?_;refine ya rfl ?_;refine WS.nil (kr22 _ _ ?_);refine kh21 ?_;refine zy rfl ?_ ?_<;>intro hc4<;>try simp only [qs] at hc4
     ·refine Sr fun _ kh23 => za rfl (zz (kh23 ?_));refine zr (zr1 rfl rfl ?_);rw [hsd.1 (by omega)];exact ⟨rfl, hch⟩
     ·refine zc fun _ kh25 => ?_
      refine CW.regionSC hmix (by kernel_rfl) fun kR26 kr26 hdr => ?_;have hch := hch.ta hdr;refine ym rfl (ym rfl ?_);refine WS.ev (Ev.ixR ((k - 1)) rfl rfl (hr1.keep0 hch) (by omega) (by omega) (by simp; omega)) rfl ?_;refine WS.ev (Ev.load rfl rfl ((hr1.keep0 hch).u32 (by first | omega | (simp; omega)))) rfl ?_;have hw43 := hW1.getD ((k - 1));refine ym rfl (ym rfl ?_);refine WS.ev (Ev.ixR ((k - 1)) rfl rfl (hr2.keep0 hch) (by omega) (by omega) (by simp; omega)) rfl ?_;refine WS.ev (Ev.load rfl rfl ((hr2.keep0 hch).u32 (by first | omega | (simp; omega)))) rfl ?_;have hw47 := hW2.getD ((k - 1));refine WS.ev (Ev.gtr rfl rfl) rfl ?_;refine ya rfl ?_;refine WS.nil (kr26 _ _ ?_);refine kh25 ?_;refine zy rfl ?_ ?_<;>intro hc5<;>try simp only [qs] at hc5
      ·refine Sr fun _ kh27 => za rfl (zz (kh27 ?_));refine zr (zr1 rfl rfl ?_);rw [hsd.2.1 (by omega)];exact ⟨rfl, hch⟩
      ·refine zkk ?_
       refine kh20 ?_;refine zR fun _ kr29 => ?_;refine zm rfl ?_
       first | refine WL.ev (Ev.subIn rfl rfl (by omega)) rfl ?_ | refine WL.ev (Ev.sub rfl rfl) rfl ?_
       refine za rfl ?_;refine WL.nil (kr29 _ _ _ ?_);refine ⟨rfl, k - 1, ?_, ?_, ?_⟩
       ·exact SLp
       ·exact ⟨by omega, hsd.2.2 (by omega), hch⟩
       ·omega
    ·refine CW.exit ?_
     refine kh14 (Sr fun _ kh30 => za rfl (zz (kh30 ?_)));refine zr (zr1 rfl rfl ?_);have hk0 : k = 0 := by omega
     subst hk0;rw [List.drop_zero, List.drop_zero] at hkd;rw [← hvA, ← hvB, hkd, sgn_self];exact ⟨rfl, hch⟩

theorem Sub_spec (va vb : Value) (la lb : List Nat) (w : World) (ha : NU w va la) (hb : NU w vb lb) : Ret Tryz.prog 150 [va, vb] w fun u w' => (((wd (val la)).length ≤ 8192 ∧ (wd (val lb)).length ≤ 8192 ∧ val lb ≤ val la ∧ ∃ r, u = .tuple [r, .int .i64 0].toArray ∧ NU w' r (wd (val la - val lb))) ∨ (¬ ((wd (val la)).length ≤ 8192 ∧ (wd (val lb)).length ≤ 8192) ∧ u = .tuple [.slice none 0 0, .int .i64 2].toArray) ∨ (((wd (val la)).length ≤ 8192 ∧ (wd (val lb)).length ≤ 8192) ∧ val la < val lb ∧ u = .tuple [.slice none 0 0, .int .i64 20].toArray)) ∧ Chg [] w w' := by
 have hch : Chg [] w w := Chg.refl _ _;refine zE2 Tryz.func150 rfl ?_;refine Sr fun _ kh1 => za rfl (za rfl (zz (kh1 (Sr fun _ kh3 => zm rfl (zm rfl ?_)))));refine WL.call hasF232 rfl rfl (both_spec _ _ _ _ _ ha hb) fun v w10 h' => ?_;obtain ⟨h', rfl⟩ := h';rcases h' with ⟨hfit, x, y, rfl, hNx, hNy⟩ | ⟨hno, rfl⟩
 ·have hlm := wd_length_val_le (NU.hw hNx);refine zm rfl (zx rfl rfl (zx rfl rfl (zx rfl rfl (za rfl (za rfl (za rfl (zz (kh3 (zc fun _ kh5 => ?_)))))))));refine CW.block ?_;refine Sr fun _ kh6 => zm rfl ?_;refine WL.ev (Ev.neq rfl rfl) rfl ?_;refine za rfl (zz (kh6 ?_));refine CW.condF rfl ?_;refine Sr fun _ kh8 => zm rfl (zm rfl ?_);refine WL.call hasF149 rfl rfl (Cmp_spec _ _ _ _ _ hNx hNy) fun v w1 h' => ?_;obtain ⟨rfl, hC21⟩ := h';have hch := hch.trans hC21;have hNx := hNx.keep0 hC21;have hNy := hNy.keep0 hC21;rw [val_wd, val_wd];refine WL.ev (Ev.lss rfl rfl) rfl ?_;refine za rfl (zz (kh8 ?_));refine zy rfl ?_ ?_<;>intro hc1<;>try simp only [qs] at hc1
  ·have hlt : val la < val lb := Nat.lt_of_not_le fun hle => by unfold sgn at hc1; split at hc1 <;> (try split at hc1) <;> omega
   refine Sr fun _ kh10 => za rfl (za rfl (zz (kh10 ?_)));refine zr (zr2 rfl rfl rfl ?_);exact ⟨.inr (.inr ⟨hfit, hlt, rfl⟩), hch⟩
  ·have hle : val lb ≤ val la := Nat.le_of_not_lt fun hlt => by unfold sgn at hc1; rw [if_pos hlt] at hc1; omega
   refine zkk ?_;refine kh5 (Sr fun _ kh12 => zm rfl (zm rfl ?_));refine WL.call hasF233 rfl rfl (less_spec _ _ _ _ _ hNx hNy (by rw [val_wd, val_wd]; exact hle)) fun v w2 h' => ?_;obtain ⟨L, hNL, hvL, hC25⟩ := h';have hch := hch.trans hC25;rw [val_wd, val_wd] at hvL;refine WL.call hasF229 rfl rfl (fits_spec _ _ _ hNL) fun v w3 h' => ?_;obtain ⟨h', rfl⟩ := h';rw [hvL] at h';obtain ⟨hfs, r, rfl, hNr⟩ := h'.resolve_right (fun q => by have := q.1; have := wd_length_mono (Nat.sub_le (val la) (val lb)); omega);refine zx rfl rfl (zx rfl rfl (za rfl (za rfl (zz (kh12 ?_)))));refine zr (zr2 rfl rfl rfl ?_);exact ⟨.inl ⟨hfit.1, hfit.2, hle, r, rfl, hNr⟩, hch⟩
 ·refine zm rfl (zx rfl rfl (zx rfl rfl (zx rfl rfl (za rfl (za rfl (za rfl (zz (kh3 (zc fun _ kh14 => ?_)))))))));refine CW.block ?_;refine Sr fun _ kh15 => zm rfl ?_;refine WL.ev (Ev.neq rfl rfl) rfl ?_;refine za rfl (zz (kh15 ?_));refine CW.condT rfl ?_;refine Sr fun _ kh17 => zm rfl (za rfl (za rfl (zz (kh17 ?_))));refine zr (zr2 rfl rfl rfl ?_);exact ⟨.inr (.inl ⟨by omega, rfl⟩), Chg.refl _ _⟩

end

/- Package wide: up, down, Shift, times, Mul. No condition. -/
section
open Go Sx Wd

structure KU (l : List Nat) (s : Nat) (w : World) (b : Nat) (g : Nat × List Nat) (wr : World) : Prop where
  a : UpI l s g.1 g.2
  ob : OB wr b 219 g.2
  chg : Chg [] w wr
structure KD (l : List Nat) (s : Nat) (w : World) (b : Nat) (g : Nat × List Nat) (wr : World) : Prop where
  a : DownI l s g.1 g.2
  ob : OB wr b 219 g.2
  chg : Chg [] w wr

theorem up_spec (v : Value) (l : List Nat) (s : Nat) (w : World) (h : NU w v l) (hs : s < 32) (hlm : l.length < 70368744177664) : Ret Tryz.prog 230 [v, .int .i64 (s : Int)] w fun u w' => ∃ L, NU w' u L ∧ L.length = l.length + 1 ∧ val L = val l * 2 ^ s ∧ Chg [] w w' := by
 obtain ⟨⟨al, cl, rfl, hcapl, hrl⟩, hWl, hll⟩ := h;have hch : Chg [] w w := Chg.refl _ _;refine zE2 Tryz.func230 rfl ?_;refine Sr fun _ kh1 => za rfl (zz (kh1 (Sr fun _ kh3 => zm rfl (zn rfl ?_))));(first | refine zi rfl rfl ?_ | refine zo rfl rfl ?_);refine WL.makeU (((l).length + 1)) (((l).length + 1)) rfl rfl (by omega) (by omega) (by omega) (by omega) (by omega) rfl fun b12 wm12 hb12 hcm12 hge12 => ?_;have hgehch12 := Nat.le_trans hch.size hge12;have hch := hch.ta hcm12;refine za rfl (zz (kh3 (zc fun _ kh5 => Sr fun _ kh6 => zm rfl (zn rfl (zm rfl (zz (kh6 ?_)))))));refine CW.block ?_;refine CW.loop (S := fun g : Nat × List Nat => [(1, .int .i64 (s : Int)), (5, .slice (some ⟨b12, 0, none⟩) (l.length + 1) (l.length + 1)), (13, .slice al l.length cl), (14, .int .i64 (l.length : Int)), (15, .int .i64 (g.1 : Int))]) (Inv := KU l s w b12) (mu := fun g => l.length - g.1) ((0, List.replicate (l.length + 1) 0)) ?_ ?_ ?_
 ·exact ⟨UpI.zero l s, hb12, hch⟩
 ·exact SLp
 ·rintro ⟨i, L⟩ wr ⟨hAd, hb12, hch⟩;dsimp only at hAd hb12 hch;have hiX := hAd.le;have hLl := hAd.len;have hWL := hAd.w;refine Sr fun _ kh8 => ?_;refine WL.ev (Ev.lss rfl rfl) rfl ?_;refine zz (kh8 (zc fun _ kh10 => ?_));refine zy rfl ?_ ?_<;>intro hc1<;>try simp only [qs] at hc1
  ·have hst := hAd.step hs hWl (by omega);refine zkk ?_
   refine kh10 (zc fun _ kh11 => ?_);refine CW.block ?_;refine Sr fun _ kh12 => zm rfl ?_;refine WL.ev (Ev.ixR (i) rfl rfl (hrl.keep0 hch) (by omega) (by omega) (by simp; omega)) rfl ?_;refine WL.ev (Ev.load rfl rfl ((hrl.keep0 hch).u32 (by first | omega | (simp; omega)))) rfl ?_;have hw19 := hWl.getD (i);refine za rfl (za rfl (zz (kh12 (Sr fun _ kh14 => zm rfl ?_))));refine WL.ev (Ev.convIn rfl rfl (in_u64 (by omega))) rfl ?_;refine zm rfl ?_;refine WL.ev (Ev.shlU64 rfl rfl) rfl ?_;refine za rfl (zz (kh14 (Sr fun _ kh16 => zm rfl (zm rfl ?_))));refine WL.ev (Ev.ixB (i) rfl rfl (by omega) (by omega)) rfl ?_;refine WL.ev (Ev.load rfl rfl (hb12.u32 (by first | omega | (simp; omega)))) rfl ?_;have hw27 := hWL.getD (i);refine zm rfl ?_;refine WL.ev (Ev.conv32 rfl rfl) rfl ?_;refine WL.ev (Ev.orU rfl rfl rfl (by simp only [IntKind.bits]; omega) (by simp only [IntKind.bits]; omega)) rfl ?_;refine WL.ev (Ev.ixB (i) rfl rfl (by omega) (by omega)) rfl ?_;refine WL.storeU rfl rfl hb12 (by first | omega | (simp; omega)) fun ws8 hb12_ hcs8 => ?_;have hch := hch.s1 hcs8;have hb12 := hb12_;refine zz (kh16 ?_);refine zR fun _ kr18 => ?_;refine zm rfl (zm rfl ?_);(first | refine zi rfl rfl ?_ | refine zo rfl rfl ?_);refine zm rfl ?_;refine WL.ev (Ev.shrU (b := 32) rfl rfl (by simp only [IntKind.bits]; omega)) rfl ?_;refine WL.ev (Ev.conv32 rfl rfl) rfl ?_;refine WL.ev (Ev.ixB ((i + 1)) rfl rfl (by omega) (by omega)) rfl ?_;refine WL.storeU rfl rfl hb12 (by first | omega | (simp; omega)) fun ws9 hb12_ hcs9 => ?_;have hch := hch.s1 hcs9;have hb12 := hb12_;refine WL.nil (kr18 _ _ _ (kh11 ?_));refine zR fun _ kr19 => ?_;(first | refine zi rfl rfl ?_ | refine zo rfl rfl ?_);refine zm rfl ?_;refine WL.nil (kr19 _ _ _ ?_);refine ⟨rfl, (i + 1, (L.set i (L.getD i 0 ||| (l.getD i 0 * 2 ^ s % 18446744073709551616 % 4294967296))).set (i + 1) (l.getD i 0 * 2 ^ s % 18446744073709551616 / 2 ^ 32 % 4294967296)), ?_, ?_, ?_⟩
   ·exact SLp
   ·exact ⟨hst.2, hb12, hch⟩
   ·show l.length - (i + 1) < l.length - i; omega
  ·refine CW.exit ?_
   refine kh5 (Sr fun _ kh20 => zm rfl (za rfl (zz (kh20 ?_))));refine zr (zr1 rfl rfl ?_);have hiX2 : i = l.length := by omega
   subst hiX2;exact ⟨L, NU.of_block hb12 hAd.w (by omega) (by omega) (Nat.le_refl _), hAd.len, hAd.done, hch⟩

theorem down_spec (v : Value) (l : List Nat) (s : Nat) (w : World) (h : NU w v l) (hs : s < 32) : Ret Tryz.prog 228 [v, .int .i64 (s : Int)] w fun u w' => ∃ L, NU w' u L ∧ val L = val l / 2 ^ s ∧ Chg [] w w' := by
 obtain ⟨⟨al, cl, rfl, hcapl, hrl⟩, hWl, hll⟩ := h;have hch : Chg [] w w := Chg.refl _ _;refine zE2 Tryz.func228 rfl ?_;refine Sr fun _ kh1 => za rfl (zz (kh1 (Sr fun _ kh3 => zm rfl (zn rfl ?_))));refine WL.makeU ((l).length) ((l).length) rfl rfl (by omega) (by omega) (by omega) (by omega) (by omega) rfl fun b11 wm11 hb11 hcm11 hge11 => ?_;have hgehch11 := Nat.le_trans hch.size hge11;have hch := hch.ta hcm11;refine za rfl (zz (kh3 (zc fun _ kh5 => Sr fun _ kh6 => zm rfl (zn rfl (zm rfl (zz (kh6 ?_)))))));refine CW.block ?_;refine CW.loop (S := fun g : Nat × List Nat => [(0, .slice al l.length cl), (1, .int .i64 (s : Int)), (5, .slice (some ⟨b11, 0, none⟩) l.length l.length), (12, .slice al l.length cl), (13, .int .i64 (l.length : Int)), (14, .int .i64 (g.1 : Int))]) (Inv := KD l s w b11) (mu := fun g => l.length - g.1) ((0, List.replicate l.length 0)) ?_ ?_ ?_
 ·exact ⟨DownI.zero l _ s (by simp) (W_replicate _), hb11, hch⟩
 ·exact SLp
 ·rintro ⟨i, L⟩ wr ⟨hAd, hb11, hch⟩;dsimp only at hAd hb11 hch;have hiX := hAd.le;have hLl := hAd.len;have hWL := hAd.w;refine Sr fun _ kh8 => ?_;refine WL.ev (Ev.lss rfl rfl) rfl ?_;refine zz (kh8 (zc fun _ kh10 => ?_));refine zy rfl ?_ ?_<;>intro hc1<;>try simp only [qs] at hc1
  ·refine zkk ?_
   refine kh10 (zc fun _ kh11 => ?_);refine CW.block ?_;refine Sr fun _ kh12 => zm rfl ?_;refine WL.ev (Ev.ixR (i) rfl rfl (hrl.keep0 hch) (by omega) (by omega) (by simp; omega)) rfl ?_;refine WL.ev (Ev.load rfl rfl ((hrl.keep0 hch).u32 (by first | omega | (simp; omega)))) rfl ?_;have hw18 := hWl.getD (i);refine za rfl (za rfl (zz (kh12 (Sr fun _ kh14 => zm rfl ?_))));refine WL.ev (Ev.convIn rfl rfl (in_u64 (by omega))) rfl ?_;refine za rfl (zz (kh14 (zc fun _ kh16 => Sr fun _ kh17 => zm rfl ?_)));(first | refine zi rfl rfl ?_ | refine zo rfl rfl ?_);refine zm rfl (zn rfl ?_);refine WL.ev (Ev.lss rfl rfl) rfl ?_;refine zz (kh17 ?_);refine zy rfl ?_ ?_<;>intro hc2<;>try simp only [qs] at hc2
   ·refine zR fun _ kr19 => ?_
    refine zm rfl (zm rfl (zm rfl ?_));(first | refine zi rfl rfl ?_ | refine zo rfl rfl ?_);refine WL.ev (Ev.ixR ((i + 1)) rfl rfl (hrl.keep0 hch) (by omega) (by omega) (by simp; omega)) rfl ?_;refine WL.ev (Ev.load rfl rfl ((hrl.keep0 hch).u32 (by first | omega | (simp; omega)))) rfl ?_;have hw31 := hWl.getD ((i + 1));refine WL.ev (Ev.convIn rfl rfl (in_u64 (by omega))) rfl ?_;refine WL.ev (Ev.shlU64 (b := 32) rfl rfl) rfl ?_;refine WL.ev (Ev.orU rfl rfl rfl (by simp only [IntKind.bits]; omega) (by simp only [IntKind.bits]; omega)) rfl ?_;rw [Nat.mod_eq_of_lt (show l.getD (i + 1) 0 * 2 ^ 32 < 18446744073709551616 by omega), or_of_mul (show l.getD i 0 < 2 ^ 32 by omega), show l.getD (i + 1) 0 * 2 ^ 32 = l.getD (i + 1) 0 * 4294967296 from rfl];refine za rfl ?_;refine WL.nil (kr19 _ _ _ (kh16 ?_));refine zR fun _ kr20 => ?_;refine zm rfl (zm rfl (zm rfl (zm rfl ?_)));have hdl : (l.getD i 0 + l.getD (i + 1) 0 * 4294967296) / 2 ^ s ≤ l.getD i 0 + l.getD (i + 1) 0 * 4294967296 := Nat.div_le_self _ _;have hw1 := hWl.getD (i + 1);refine WL.ev (Ev.shrU rfl rfl (by simp only [IntKind.bits]; omega)) rfl ?_;refine WL.ev (Ev.conv32 rfl rfl) rfl ?_;refine WL.ev (Ev.ixB (i) rfl rfl (by omega) (by omega)) rfl ?_;refine WL.storeU rfl rfl hb11 (by first | omega | (simp; omega)) fun ws10 hb11_ hcs10 => ?_;have hch := hch.s1 hcs10;have hb11 := hb11_;refine WL.nil (kr20 _ _ _ (kh11 ?_));refine zR fun _ kr21 => ?_;(first | refine zi rfl rfl ?_ | refine zo rfl rfl ?_);refine zm rfl ?_;refine WL.nil (kr21 _ _ _ ?_);refine ⟨rfl, (i + 1, L.set i ((l.getD i 0 + l.getD (i + 1) 0 * 4294967296) / 2 ^ s % 4294967296)), ?_, ?_, ?_⟩
    ·exact SLp
    ·exact ⟨hAd.step hs hWl (by omega) rfl, hb11, hch⟩
    ·show l.length - (i + 1) < l.length - i; omega
   ·have hz1 : l.getD (i + 1) 0 = 0 := getD_out (by omega);have e0 : (l.getD i 0) = l.getD i 0 + l.getD (i + 1) 0 * 4294967296 := by omega
    refine zkk ?_;refine kh16 ?_;refine zR fun _ kr22 => ?_;refine zm rfl (zm rfl (zm rfl ?_));rw [show (Value.int IntKind.u64 ((l.getD i 0 : Nat) : Int)) = Value.int IntKind.u64 ((l.getD i 0 + l.getD (i + 1) 0 * 4294967296 : Nat) : Int) from congrArg (fun q : Nat => Value.int IntKind.u64 (q : Int)) e0];refine zm rfl ?_;have hdl : (l.getD i 0 + l.getD (i + 1) 0 * 4294967296) / 2 ^ s ≤ l.getD i 0 + l.getD (i + 1) 0 * 4294967296 := Nat.div_le_self _ _;have hw1 := hWl.getD (i + 1);refine WL.ev (Ev.shrU rfl rfl (by simp only [IntKind.bits]; omega)) rfl ?_;refine WL.ev (Ev.conv32 rfl rfl) rfl ?_;refine WL.ev (Ev.ixB (i) rfl rfl (by omega) (by omega)) rfl ?_;refine WL.storeU rfl rfl hb11 (by first | omega | (simp; omega)) fun ws11 hb11_ hcs11 => ?_;have hch := hch.s1 hcs11;have hb11 := hb11_;refine WL.nil (kr22 _ _ _ (kh11 ?_));refine zR fun _ kr23 => ?_;(first | refine zi rfl rfl ?_ | refine zo rfl rfl ?_);refine zm rfl ?_;refine WL.nil (kr23 _ _ _ ?_);refine ⟨rfl, (i + 1, L.set i ((l.getD i 0 + l.getD (i + 1) 0 * 4294967296) / 2 ^ s % 4294967296)), ?_, ?_, ?_⟩
    ·exact SLp
    ·exact ⟨hAd.step hs hWl (by omega) rfl, hb11, hch⟩
    ·show l.length - (i + 1) < l.length - i; omega
  ·refine CW.exit ?_
   refine kh5 (Sr fun _ kh24 => zm rfl (za rfl (zz (kh24 ?_))));refine zr (zr1 rfl rfl ?_);have hiX2 : i = l.length := by omega
   subst hiX2;exact ⟨L, NU.of_block hb11 hAd.w (by omega) (by omega) (Nat.le_refl _), hAd.done hWl, hch⟩

structure KM (la lb : List Nat) (w : World) (b : Nat) (g : Nat × List Nat) (wr : World) : Prop where
  a : MulI la lb g.1 g.2
  ob : OB wr b 219 g.2
  chg : Chg [] w wr
structure KN (x : Nat) (lb : List Nat) (i : Nat) (L0 : List Nat) (w : World) (b : Nat) (g : Nat × List Nat × Nat) (wr : World) : Prop where
  a : MulJ x lb i L0 g.1 g.2.1 g.2.2
  ob : OB wr b 219 g.2.1
  chg : Chg [] w wr

theorem times_spec (va vb : Value) (la lb : List Nat) (w : World) (ha : NU w va la) (hb : NU w vb lb) (hlm : la.length + lb.length ≤ 70368744177664) : Ret Tryz.prog 303 [va, vb] w fun u w' => ∃ L, NU w' u L ∧ L.length = la.length + lb.length ∧ val L = val la * val lb ∧ Chg [] w w' := by
 obtain ⟨⟨ala, cla, rfl, hcapla, hrla⟩, hWla, hlla⟩ := ha;obtain ⟨⟨alb, clb, rfl, hcaplb, hrlb⟩, hWlb, hllb⟩ := hb;have hch : Chg [] w w := Chg.refl _ _;refine zE2 Tryz.func303 rfl ?_;refine Sr fun _ kh1 => za rfl (zz (kh1 (Sr fun _ kh3 => zm rfl (zn rfl (zm rfl (zn rfl ?_))))));(first | refine zi rfl rfl ?_ | refine zo rfl rfl ?_);refine WL.makeU (((la).length + (lb).length)) (((la).length + (lb).length)) rfl rfl (by omega) (by omega) (by omega) (by omega) (by omega) rfl fun b17 wm17 hb17 hcm17 hge17 => ?_;have hgehch17 := Nat.le_trans hch.size hge17;have hch := hch.ta hcm17;refine za rfl (zz (kh3 (zc fun _ kh5 => Sr fun _ kh6 => zm rfl (zn rfl (zm rfl (zz (kh6 ?_)))))));refine CW.block ?_;refine CW.loop (S := fun g : Nat × List Nat => [(1, .slice alb lb.length clb), (5, .slice (some ⟨b17, 0, none⟩) (la.length + lb.length) (la.length + lb.length)), (18, .slice ala la.length cla), (19, .int .i64 (la.length : Int)), (20, .int .i64 (g.1 : Int))]) (Inv := KM la lb w b17) (mu := fun g => la.length - g.1) ((0, List.replicate (la.length + lb.length) 0)) ?_ ?_ ?_
 ·exact ⟨MulI.zero la lb, hb17, hch⟩
 ·exact SLp
 ·rintro ⟨i, L0⟩ wr ⟨hAd, hb17, hch⟩;dsimp only at hAd hb17 hch;have hiX := hAd.le;have hLl := hAd.len;refine Sr fun _ kh8 => ?_;refine WL.ev (Ev.lss rfl rfl) rfl ?_;refine zz (kh8 (zc fun _ kh10 => ?_));refine zy rfl ?_ ?_<;>intro hc1<;>try simp only [qs] at hc1
  ·refine zkk ?_
   refine kh10 (zc fun _ kh11 => ?_);refine CW.block ?_;refine Sr fun _ kh12 => zm rfl ?_;refine WL.ev (Ev.ixR (i) rfl rfl (hrla.keep0 hch) (by omega) (by omega) (by simp; omega)) rfl ?_;refine WL.ev (Ev.load rfl rfl ((hrla.keep0 hch).u32 (by first | omega | (simp; omega)))) rfl ?_;have hw24 := hWla.getD (i);refine za rfl (za rfl (zz (kh12 (Sr fun _ kh14 => za rfl (zz (kh14 (zc fun _ kh16 => Sr fun _ kh17 => zm rfl (zn rfl (zm rfl (zz (kh17 ?_)))))))))));refine CW.block ?_;refine CW.loop (S := fun g : Nat × List Nat × Nat => [(1, .slice alb lb.length clb), (5, .slice (some ⟨b17, 0, none⟩) (la.length + lb.length) (la.length + lb.length)), (6, .int .i64 (i : Int)), (7, .int .u32 ((la.getD i 0 : Nat) : Int)), (8, .int .u64 (g.2.2 : Int)), (18, .slice ala la.length cla), (19, .int .i64 (la.length : Int)), (20, .int .i64 (i : Int)), (25, .slice alb lb.length clb), (26, .int .i64 (lb.length : Int)), (27, .int .i64 (g.1 : Int))]) (Inv := KN (la.getD i 0) lb i L0 w b17) (mu := fun g => lb.length - g.1) ((0, L0, 0)) ?_ ?_ ?_
   ·exact ⟨MulJ.zero hAd.w, hb17, hch⟩
   ·exact SLp
   ·rintro ⟨j, L, c⟩ wr2 ⟨hJ, hb17, hch⟩;dsimp only at hJ hb17 hch;have hjX := hJ.le;have hLl2 := hJ.len;have hWL := hJ.w;have hcc := hJ.c1;refine Sr fun _ kh19 => ?_;refine WL.ev (Ev.lss rfl rfl) rfl ?_;refine zz (kh19 (zc fun _ kh21 => ?_));refine zy rfl ?_ ?_<;>intro hc2<;>try simp only [qs] at hc2
    ·have hfit := MulJ.fits (hWla.getD i) (hWlb.getD j) (hWL.getD (i + j)) hcc
     have hxa := hWla.getD i;refine zkk ?_;refine kh21 (zc fun _ kh22 => ?_);refine CW.block ?_;refine Sr fun _ kh23 => zm rfl ?_;refine WL.ev (Ev.ixR (j) rfl rfl (hrlb.keep0 hch) (by omega) (by omega) (by simp; omega)) rfl ?_;refine WL.ev (Ev.load rfl rfl ((hrlb.keep0 hch).u32 (by first | omega | (simp; omega)))) rfl ?_;have hw31 := hWlb.getD (j);refine za rfl (za rfl (zz (kh23 (Sr fun _ kh25 => zm rfl ?_))));refine WL.ev (Ev.convIn rfl rfl (in_u64 (by omega))) rfl ?_;refine zm rfl ?_;refine WL.ev (Ev.convIn rfl rfl (in_u64 (by omega))) rfl ?_;refine WL.ev (Ev.mul64In rfl rfl hfit.2.1) rfl ?_;refine zm rfl (zm rfl (zm rfl ?_));(first | refine zi rfl rfl ?_ | refine zo rfl rfl ?_);refine WL.ev (Ev.ixB ((i + j)) rfl rfl (by omega) (by omega)) rfl ?_;refine WL.ev (Ev.load rfl rfl (hb17.u32 (by first | omega | (simp; omega)))) rfl ?_;have hw42 := hWL.getD ((i + j));refine WL.ev (Ev.convIn rfl rfl (in_u64 (by omega))) rfl ?_;refine WL.ev (Ev.add64In rfl rfl hfit.2.2) rfl ?_;refine zm rfl ?_;refine WL.ev (Ev.add64In rfl rfl hfit.1) rfl ?_;refine za rfl (zz (kh25 ?_));refine zR fun _ kr27 => ?_;refine zm rfl (zm rfl (zm rfl ?_));(first | refine zi rfl rfl ?_ | refine zo rfl rfl ?_);refine zm rfl ?_;refine WL.ev (Ev.conv32 rfl rfl) rfl ?_;refine zm rfl ?_;refine WL.ev (Ev.shrU (b := 32) rfl rfl (by simp only [IntKind.bits]; exact hfit.1)) rfl ?_;refine WL.ev (Ev.ixB ((i + j)) rfl rfl (by omega) (by omega)) rfl ?_;refine WL.storeU rfl rfl hb17 (by first | omega | (simp; omega)) fun ws12 hb17_ hcs12 => ?_;have hch := hch.s1 hcs12;have hb17 := hb17_;refine za rfl ?_;refine WL.nil (kr27 _ _ _ (kh22 ?_));refine zR fun _ kr28 => ?_;(first | refine zi rfl rfl ?_ | refine zo rfl rfl ?_);refine zm rfl ?_;refine WL.nil (kr28 _ _ _ ?_);refine ⟨rfl, (j + 1, L.set (i + j) ((la.getD i 0 * lb.getD j 0 + L.getD (i + j) 0 + c) % 4294967296), (la.getD i 0 * lb.getD j 0 + L.getD (i + j) 0 + c) / 4294967296), ?_, ?_, ?_⟩
     ·exact SLp
     ·exact ⟨hJ.step (hWla.getD i) hWlb (by omega) (by omega), hb17, hch⟩
     ·show lb.length - (j + 1) < lb.length - j; omega
    ·have hjX2 : j = lb.length := by omega
     subst hjX2;refine CW.exit ?_;refine kh16 ?_;refine zR fun _ kr29 => ?_;refine zm rfl (zm rfl (zm rfl (zn rfl ?_)));(first | refine zi rfl rfl ?_ | refine zo rfl rfl ?_);refine zm rfl ?_;refine WL.ev (Ev.conv32 rfl rfl) rfl ?_;rw [Nat.mod_eq_of_lt hcc];refine WL.ev (Ev.ixB ((i + (lb).length)) rfl rfl (by omega) (by omega)) rfl ?_;refine WL.storeU rfl rfl hb17 (by first | omega | (simp; omega)) fun ws13 hb17_ hcs13 => ?_;have hch := hch.s1 hcs13;have hb17 := hb17_;refine WL.nil (kr29 _ _ _ (kh11 ?_));refine zR fun _ kr30 => ?_;(first | refine zi rfl rfl ?_ | refine zo rfl rfl ?_);refine zm rfl ?_;refine WL.nil (kr30 _ _ _ ?_);refine ⟨rfl, (i + 1, L.set (i + lb.length) c), ?_, ?_, ?_⟩
     ·exact SLp
     ·exact ⟨hAd.step (by omega) hJ, hb17, hch⟩
     ·show la.length - (i + 1) < la.length - i; omega
  ·refine CW.exit ?_
   refine kh5 (Sr fun _ kh31 => zm rfl (za rfl (zz (kh31 ?_))));refine zr (zr1 rfl rfl ?_);have hiX2 : i = la.length := by omega
   subst hiX2;exact ⟨L0, NU.of_block hb17 hAd.w (by omega) (by omega) (Nat.le_refl _), by omega, hAd.done, hch⟩

end

/- Package wide: Mul, Shift; math/bits: Mul64. No condition. -/
section
open Go Sx Wd

theorem Mul_spec (va vb : Value) (la lb : List Nat) (w : World) (ha : NU w va la) (hb : NU w vb lb) : Ret Tryz.prog 238 [va, vb] w fun u w' => (((wd (val la)).length ≤ 8192 ∧ (wd (val lb)).length ≤ 8192 ∧ (wd (val la * val lb)).length ≤ 8192 ∧ ∃ r, u = .tuple [r, .int .i64 0].toArray ∧ NU w' r (wd (val la * val lb))) ∨ (¬ ((wd (val la)).length ≤ 8192 ∧ (wd (val lb)).length ≤ 8192 ∧ (wd (val la * val lb)).length ≤ 8192) ∧ u = .tuple [.slice none 0 0, .int .i64 2].toArray)) ∧ Chg [] w w' := by
 have hch : Chg [] w w := Chg.refl _ _;refine zE2 Tryz.func238 rfl ?_;refine Sr fun _ kh1 => za rfl (za rfl (zz (kh1 (Sr fun _ kh3 => zm rfl (zm rfl ?_)))));refine WL.call hasF232 rfl rfl (both_spec _ _ _ _ _ ha hb) fun v w10 h' => ?_;obtain ⟨h', rfl⟩ := h';rcases h' with ⟨hfit, x, y, rfl, hNx, hNy⟩ | ⟨hno, rfl⟩
 ·refine zm rfl (zx rfl rfl (zx rfl rfl (zx rfl rfl (za rfl (za rfl (za rfl (zz (kh3 (zc fun _ kh5 => Sr fun _ kh6 => zm rfl ?_)))))))));refine WL.ev (Ev.neq rfl rfl) rfl ?_;refine zz (kh6 ?_);refine CW.condF rfl ?_;refine zkk ?_;refine kh5 (Sr fun _ kh8 => zm rfl (zm rfl ?_));refine WL.call hasF303 rfl rfl (times_spec _ _ _ _ _ hNx hNy (by omega)) fun v w1 h' => ?_;obtain ⟨L, hNL, _, hvL, hC19⟩ := h';have hch := hch.trans hC19;rw [val_wd, val_wd] at hvL;refine WL.call hasF229 rfl rfl (fits_spec _ _ _ hNL) fun v w20 h' => ?_;obtain ⟨h', rfl⟩ := h';rw [hvL] at h';rcases h' with ⟨hfs, r, rfl, hNr⟩ | ⟨hfs, rfl⟩
  ·refine zx rfl rfl (zx rfl rfl (za rfl (za rfl (zz (kh8 ?_)))));refine zr (zr2 rfl rfl rfl ?_);exact ⟨.inl ⟨hfit.1, hfit.2, hfs, r, rfl, hNr⟩, hch⟩
  ·refine zx rfl rfl (zx rfl rfl (za rfl (za rfl (zz (kh8 ?_)))));refine zr (zr2 rfl rfl rfl ?_);exact ⟨.inr ⟨by omega, rfl⟩, hch⟩
 ·refine zm rfl (zx rfl rfl (zx rfl rfl (zx rfl rfl (za rfl (za rfl (za rfl (zz (kh3 (zc fun _ kh10 => Sr fun _ kh11 => zm rfl ?_)))))))));refine WL.ev (Ev.neq rfl rfl) rfl ?_;refine zz (kh11 ?_);refine CW.condT rfl ?_;refine Sr fun _ kh13 => zm rfl (za rfl (za rfl (zz (kh13 ?_))));refine zr (zr2 rfl rfl rfl ?_);exact ⟨.inr ⟨by omega, rfl⟩, Chg.refl _ _⟩

/-- A number moved, up or down. -/
def shiftN (n : Nat) (s : Int) : Nat := if s < 0 then n / 2 ^ (-s).toNat else n * 2 ^ s.toNat
theorem shiftN_neg (n q : Nat) (h : 0 < q) : shiftN n (-(q : Int)) = n / 2 ^ q := by
  unfold shiftN; rw [if_pos (by omega), show (- -(q : Int)).toNat = q by omega]
theorem shiftN_pos (n q : Nat) : shiftN n (q : Int) = n * 2 ^ q := by
  unfold shiftN; rw [if_neg (by omega), show (q : Int).toNat = q by omega]
theorem shiftN_out {n : Nat} {s : Int} (h : n = 0 ∨ s ≤ -(bl n : Int)) : shiftN n s = 0 := by
  rcases h with rfl | h
  · unfold shiftN; split <;> simp
  · by_cases h0 : n = 0
    · subst h0; unfold shiftN; split <;> simp
    · have := bl_pos h0
      obtain ⟨q, rfl⟩ : ∃ q : Nat, s = -(q : Int) := ⟨(-s).toNat, by omega⟩
      rw [shiftN_neg _ _ (by omega)]
      exact Nat.div_eq_of_lt (bl_le.1 (by omega))
theorem div_words {n q : Nat} : n / 2 ^ (32 * (q / 32)) / 2 ^ (q % 32) = n / 2 ^ q := by
  rw [Nat.div_div_eq_div_mul, ← Nat.pow_add, show 32 * (q / 32) + q % 32 = q by omega]
theorem bl_words {n k : Nat} : bl n ≤ 32 * k ↔ (wd n).length ≤ k := by rw [bl_le, wd_length_le]

theorem Shift_spec (v : Value) (l : List Nat) (s : Int) (w : World) (h : NU w v l) (hs : -9223372036854775808 ≤ s ∧ s ≤ 9223372036854775807) : Ret Tryz.prog 147 [v, .int .i64 s] w fun u w' => ((((wd (val l)).length ≤ 8192 ∧ (val l = 0 ∨ s ≤ 262144 - (bl (val l) : Int))) ∧ ∃ r, u = .tuple [r, .int .i64 0].toArray ∧ NU w' r (wd (shiftN (val l) s))) ∨ (¬ (((wd (val l)).length ≤ 8192 ∧ (val l = 0 ∨ s ≤ 262144 - (bl (val l) : Int)))) ∧ u = .tuple [.slice none 0 0, .int .i64 2].toArray)) ∧ Chg [] w w' := by
 obtain ⟨A, hA⟩ : ∃ A, A = wd (val l) := ⟨_, rfl⟩;have hvA : val A = val l := by rw [hA]; exact val_wd _
 have hb32 := bl_words (n := val l) (k := 8192);have hbz := bl_eq_zero (n := val l);rw [← hA] at hb32;have hbA : bl (val l) ≤ 32 * A.length := by rw [bl_words, ← hA]; exact Nat.le_refl _
 have hch : Chg [] w w := Chg.refl _ _;refine zE2 Tryz.func147 rfl ?_;refine Sr fun _ kh1 => za rfl (za rfl (zz (kh1 (Sr fun _ kh3 => zm rfl ?_))));refine WL.call hasF227 rfl rfl (cut_spec _ _ _ h) fun v w1 h' => ?_;obtain ⟨hN1, rfl⟩ := h';rw [← hA] at hN1;obtain ⟨⟨a1, c1, rfl, hcap1, hr1⟩, hW1, hl1⟩ := hN1;refine za rfl (zz (kh3 (zc fun _ kh5 => ?_)));refine CW.block ?_;refine Sr fun _ kh6 => zm rfl (zn rfl ?_);refine WL.ev (Ev.gtr rfl rfl) rfl ?_;refine za rfl (zz (kh6 ?_));refine zy rfl ?_ ?_<;>intro hc1<;>try simp only [qs] at hc1
 ·refine Sr fun _ kh8 => za rfl (za rfl (zz (kh8 ?_)));refine zr (zr2 rfl rfl rfl ?_);rw [← hA];exact ⟨.inr ⟨by omega, rfl⟩, hch⟩
 ·have hN1 : NU w (.slice a1 A.length c1) A := NU.of_row hr1 hW1 hl1 rfl hcap1
  have hAz : A.length = 0 ↔ val l = 0 := by rw [← hvA]; rw [hA]; rw [val_wd]; rw [List.length_eq_zero_iff, wd_eq_nil]
  refine Sr fun _ kh10 => zm rfl (zn rfl (zq rfl rfl (zm rfl ?_)));refine zb ?_ ?_<;>intro hg2<;>try simp only [qs] at hg2
  ·refine zv rfl (zv rfl (zv rfl (zv rfl (zv rfl (zt rfl rfl (za rfl (zz (kh10 ?_))))))));refine CW.condT rfl ?_
   refine Sr fun _ kh12 => za rfl (za rfl (zz (kh12 ?_)));refine zr (zr2 rfl rfl rfl ?_);have h0 : val l = 0 := by omega
   rw [shiftN_out (.inl h0), wd_zero, ← hA];exact ⟨.inl ⟨⟨by omega, .inl h0⟩, _, rfl, NU.nil⟩, hch⟩
  ·refine zw rfl (zm rfl (zw rfl (zm rfl (zw rfl ?_))));refine WL.call hasF185 rfl rfl (Len_spec _ _ _ hN1) fun v w2 h' => ?_
   obtain ⟨rfl, rfl⟩ := h';rw [hvA];refine zw rfl ?_;refine WL.ev (Ev.negIn rfl (by omega)) rfl ?_;refine zw rfl ?_;refine WL.ev (Ev.leq rfl rfl) rfl ?_;refine ze rfl rfl (za rfl (zz (kh10 ?_)));refine zy rfl ?_ ?_<;>intro hc3<;>try simp only [qs] at hc3
   ·refine Sr fun _ kh14 => za rfl (za rfl (zz (kh14 ?_)));refine zr (zr2 rfl rfl rfl ?_);rw [shiftN_out (.inr (by omega)), wd_zero, ← hA];exact ⟨.inl ⟨⟨by omega, .inr (by omega)⟩, _, rfl, NU.nil⟩, hch⟩
   ·refine Sr fun _ kh16 => zm rfl ?_
    refine WL.ev (Ev.lss rfl rfl) rfl ?_;refine za rfl (zz (kh16 ?_));refine zy rfl ?_ ?_<;>intro hc4<;>try simp only [qs] at hc4
    ·obtain ⟨q, rfl⟩ : ∃ q : Nat, s = -(q : Int) := ⟨(-s).toNat, by omega⟩
     have hN1d : NU w (.slice (cutAt a1 (q / 32) c1 1) (A.length - q / 32) (c1 - q / 32)) (A.drop (q / 32)) := NU.of_row (by rw [List.map_drop]; exact hr1.cut _ _ (by simp; omega) (by simpa using hcap1)) (hW1.drop _) (by simp; omega) (by simp) (by omega);refine Sr fun _ kh18 => zm rfl (zm rfl ?_);refine WL.ev (Ev.negIn rfl (by omega)) rfl ?_;rw [Int.neg_neg];refine WL.ev (Ev.quoU (b := 32) rfl rfl (by omega) (in_i64 (by omega)).2) rfl ?_;refine WL.ev (Ev.sliceLn ((q / 32)) rfl rfl (by omega) (by omega)) rfl ?_;refine zm rfl ?_;refine WL.ev (Ev.negIn rfl (by omega)) rfl ?_;rw [Int.neg_neg];refine WL.ev (Ev.remU (b := 32) rfl rfl (by omega)) rfl ?_;refine WL.call hasF228 rfl rfl (down_spec _ _ _ _ hN1d (by omega)) fun v w3 h' => ?_;obtain ⟨L, hNL, hvL, hC35⟩ := h';have hch := hch.trans hC35;rw [val_drop hW1 _ (by omega), hvA, div_words] at hvL;refine WL.call hasF224 rfl rfl (Norm_spec _ _ _ hNL) fun v w4 h' => ?_;obtain ⟨hNR, hC36⟩ := h';have hch := hch.trans hC36;rw [hvL] at hNR;refine za rfl (za rfl (zz (kh18 ?_)));refine zr (zr2 rfl rfl rfl ?_);rw [shiftN_neg _ _ (by omega), ← hA];exact ⟨.inl ⟨⟨by omega, .inr (by omega)⟩, _, rfl, hNR⟩, hch⟩
    ·obtain ⟨q, rfl⟩ : ∃ q : Nat, s = (q : Int) := ⟨s.toNat, by omega⟩
     refine Sr fun _ kh20 => zm rfl (zm rfl ?_);refine WL.call hasF185 rfl rfl (Len_spec _ _ _ hN1) fun v w5 h' => ?_;obtain ⟨rfl, rfl⟩ := h';rw [hvA]
     first | refine WL.ev (Ev.subIn rfl rfl (by omega)) rfl ?_ | refine WL.ev (Ev.sub rfl rfl) rfl ?_
     refine WL.ev (Ev.gtr rfl rfl) rfl ?_;refine za rfl (zz (kh20 ?_));refine zy rfl ?_ ?_<;>intro hc5<;>try simp only [qs] at hc5
     ·refine Sr fun _ kh22 => za rfl (za rfl (zz (kh22 ?_)));refine zr (zr2 rfl rfl rfl ?_);rw [← hA];exact ⟨.inr ⟨by omega, rfl⟩, hch⟩
     ·refine zkk ?_
      refine kh5 (Sr fun _ kh24 => zm rfl ?_);refine WL.ev (Ev.quoU (b := 32) rfl rfl (by omega) (in_i64 (by omega)).2) rfl ?_;refine zm rfl ?_;refine WL.ev (Ev.quoU (b := 32) rfl rfl (by omega) (in_i64 (by omega)).2) rfl ?_;refine zm rfl (zn rfl ?_);(first | refine zi rfl rfl ?_ | refine zo rfl rfl ?_);(first | refine zi rfl rfl ?_ | refine zo rfl rfl ?_);refine WL.makeU ((q / 32)) ((((q / 32) + (A).length) + 1)) rfl rfl (by omega) (by omega) (by omega) (by omega) (by omega) rfl fun b51 wm51 hb51 hcm51 hge51 => ?_;have hgehch51 := Nat.le_trans hch.size hge51;have hch := hch.ta hcm51;refine za rfl (zz (kh24 (Sr fun _ kh26 => zm rfl (zm rfl (zm rfl ?_)))));refine WL.ev (Ev.remU (b := 32) rfl rfl (by omega)) rfl ?_;refine WL.call hasF230 rfl rfl (up_spec _ _ _ _ (hN1.keep0 hch) (by omega) (by omega)) fun v w6 h' => ?_;obtain ⟨L, hNL, hlL, hvL, hC56⟩ := h';have hch := hch.trans hC56;have hb51 := hb51.k0 hC56;obtain ⟨⟨a2, c2, rfl, hcap2, hr2⟩, hW2, hl2⟩ := hNL;rw [hvA] at hvL;obtain ⟨ad2, rfl⟩ := hr2.some_ (by simp; omega);have hown := own_of_OB (k := q / 32) hb51 (by simp; omega) (by simp; omega);rw [List.length_replicate] at hown;refine WL.append (m := q / 32) (mm := L.length) (news := L.map u32v) (by rfl) (by decide) rfl rfl hown (by simp) (fun j u hu => by obtain ⟨ad3, e3, h3⟩ := hr2 j u hu; cases e3; exact h3) (u32_one _) (by unfold maxLen; omega) (by omega) rfl fun v57 w57 hown2 hcs57 hloc57 => ?_;have hfr57 : ∀ y ∈ (Value.slice (some ⟨b51, 0, none⟩) (q / 32) (q / 32 + A.length + 1)).ownBlock.toList, w.heap.size ≤ y := fun y hy => by
       have hy2 : y = b51 := by simpa [Value.ownBlock] using hy
       subst hy2; assumption
      have hch := hch.step hcs57 (fun y hy => .inr (hfr57 y hy));rw [← List.map_append] at hown2;have hN57 := NU.of_own hown2 (W_append.2 ⟨(W_replicate _).take _, hW2⟩) (by simp; omega);have hv57 : val ((List.replicate (q / 32 + A.length + 1) 0).take (q / 32) ++ L) = val l * 2 ^ q := by
       rw [List.take_replicate, show min (q / 32) (q / 32 + A.length + 1) = q / 32 by omega, val_append, val_replicate, List.length_replicate, hvL, Nat.zero_add, Nat.mul_left_comm, ← Nat.pow_add, show 32 * (q / 32) + q % 32 = q by omega]
      refine WL.call hasF229 rfl rfl (fits_spec _ _ _ hN57) fun v w7 h' => ?_;obtain ⟨h', rfl⟩ := h';rw [hv57] at h';obtain ⟨hfs, r, rfl, hNr⟩ := h'.resolve_right (fun q1 => by
       have q2 := q1.1;have q3 : (wd (val l * 2 ^ q)).length ≤ 8192 := by
        refine bl_words.1 ?_
        by_cases h0 : val l = 0
        · rw [h0]; simp [bl_zero]
        · rw [bl_mul_pow h0]; omega
       omega)
      refine zx rfl rfl (zx rfl rfl (za rfl (za rfl (zz (kh26 ?_)))));refine zr (zr2 rfl rfl rfl ?_);rw [shiftN_pos, ← hA];exact ⟨.inl ⟨⟨by omega, .inr (by omega)⟩, r, rfl, hNr⟩, hch⟩

end

/- Deferred calls of named functions; calls through function values. No condition. -/
namespace Sx
open Go

/-- What a function does that is called behind a return. -/
def RetD (P : Program) (f : FuncId) (args : List Value) (w : World) (R : Value → World → Prop) : Prop :=
  ∀ u, CallsD P f args.toArray u w fun e u' w' => u' = u ∧ ∃ v, e = .returned v ∧ R v w'
theorem RetD.mono {P : Program} {f : FuncId} {args : List Value} {w : World} {R R' : Value → World → Prop} (h : RetD P f args w R) (hr : ∀ v w', R v w' → R' v w') : RetD P f args w R' := fun u =>
  CallsD.mono (h u) fun _ _ _ ⟨hu, v, he, hR⟩ => ⟨hu, v, he, hr _ _ hR⟩
/-- The one call that is made behind the return: of function g. -/
def bodyD (P : Program) (fn : Func) (n : Nat) (g : FuncId) (R : Value → World → Prop) : AQ
  | .normal, D, s, w | .ret, D, s, w => ∃ vs : List Value, D = [⟨.fn (.func g) #[], vs.toArray⟩] ∧ RetD P g vs w fun _ w' => ∃ v, ResS P fn n D s w' v ∧ R v w'
  | _, _, _, _ => False
section
variable {P : Program} {n : Nat} {D : List Deferred} {s : Sl} {w : World}
theorem frame0 {fn : Func} {args : List Value} (hn : Nat.ble args.length fn.ntmps = true) : Fr fn.ntmps [] (args0 0 args) { tmps := args.toArray ++ Array.replicate (fn.ntmps - args.toArray.size) undef, defers := [] } := by
  have hn' : args.length ≤ fn.ntmps := by simpa [Nat.ble_eq] using hn
  refine ⟨by simp; omega, rfl, fun t v ht => ?_⟩
  rw [look_args0] at ht
  simp only [Nat.zero_le, if_true, Nat.sub_zero] at ht
  have hlt : t < args.length := by
    by_cases hl : t < args.length
    · exact hl
    · rw [List.getElem?_eq_none (by omega)] at ht; cases ht
  rw [Array.getElem?_append_left (by simpa using hlt)]
  simpa using ht
theorem Ret.enterD {f : FuncId} {fn : Func} {c : Code} {args : List Value} {R : Value → World → Prop} (g : FuncId) (hg : HasF P g) (hf : P.funcs[f]? = some fn) (hb : fn.body = some c) (hn : Nat.ble args.length fn.ntmps = true)
    (h : CW P c (bodyD P fn fn.ntmps g R) fn.ntmps [] (args0 0 args) w) : Ret P f args w R := by
  refine calls_of_wp_defers hf hb (wp_mono (h _ (frame0 hn)) fun e a w hq => ?_)
  obtain ⟨D, s, hfr, hk⟩ := hq
  have go : (∃ vs : List Value, D = [⟨.fn (.func g) #[], vs.toArray⟩] ∧ RetD P g vs w fun _ w' => ∃ v, ResS P fn fn.ntmps D s w' v ∧ R v w') → Leaves P fn a.tmps (fun e w' => ∃ v, e = .returned v ∧ R v w') a.defers .returning w := by
    rintro ⟨vs, hd, hr⟩
    rw [hfr.defers, hd]
    refine leaves_cons (args := vs.toArray) (by simp) (by simp only [invoke, Array.append_empty]; exact hg.run _) (CallsD.mono (hr _) fun e u' w' hh => ?_)
    obtain ⟨hu, v, rfl, x, hx, hR⟩ := hh
    subst hu
    exact ⟨x, hx a hfr, x, rfl, hR⟩
  cases e with
  | normal => exact go hk
  | ret => exact go hk
  | _ => exact hk.elim
theorem RetD.enter {f : FuncId} {fn : Func} {c : Code} {args : List Value} {R : Value → World → Prop} (hf : P.funcs[f]? = some fn) (hb : fn.body = some c) (hn : Nat.ble args.length fn.ntmps = true)
    (h : CW P c (bodyA P fn fn.ntmps R) fn.ntmps [] (args0 0 args) w) : RetD P f args w R := fun u => by
  refine callsD_of_wp hf hb (wp_mono (h _ (frame0 hn)) fun e a w hq => ?_)
  obtain ⟨D, s, hfr, hk⟩ := hq
  unfold bodyA at hk
  cases e with
  | normal => obtain ⟨hd, v, hres, hR⟩ := hk; exact ⟨by rw [hfr.defers, hd], v, hres a hfr, v, rfl, hR⟩
  | ret => obtain ⟨hd, v, hres, hR⟩ := hk; exact ⟨by rw [hfr.defers, hd], v, hres a hfr, v, rfl, hR⟩
  | _ => exact hk.elim
/-- At the door: two results. -/
theorem bodyD.retR2 {fn : Func} {g : FuncId} {vs : List Value} {R : Value → World → Prop} {r q : ResultVar} (hr : fn.results = #[r, q]) (hd : D = [⟨.fn (.func g) #[], vs.toArray⟩])
    (h : RetD P g vs w fun _ w' => ∃ v u, RVal P n D s w' r v ∧ RVal P n D s w' q u ∧ R (.tuple [v, u].toArray) w') : bodyD P fn n g R .ret D s w :=
  ⟨vs, hd, h.mono fun _ w' ⟨v, u, h1, h2, hR⟩ => ⟨_, fun a ha => by rw [results_rdR, hr]; simp [h1 a ha, h2 a ha], hR⟩⟩
attribute [irreducible] bodyD
variable {ops : Array Oper} {K : KK} {rest : List Oper} {ty : TypeId} {pos : String} {af : Array Edge}
theorem WL.defer {f : FuncId} {xs : List Operand} {at_ : Array TypeId} {vs : List Value} (hx : opnds s xs = some vs) (k : WL P ops K rest n (⟨.fn (.func f) #[], vs.toArray⟩ :: D) s w) :
    WL P ops K (⟨none, .defer ⟨.value (.func f), xs.toArray, at_⟩, ty, pos, af, none⟩ :: rest) n D s w := fun a ha =>
  wpList_plain rfl fun K' hK => by
    have e1 : a.eval (.func f) = .func (.func f) #[] #[] := rfl
    have e2 := opnds_map (ρ := a.eval) (fun x u hx => ha.eval hx) xs vs hx
    unfold Oper.wp execOp
    simp only [resolve, e1, Deferred.ofValue]
    simp [e2]
    exact hK _ _ (k _ ⟨ha.size, by simp [Act.put, ha.defers], ha.cell⟩)
/-! ### Calls through function values -/
theorem exec_callV {f : FuncId} {y : Operand} {xs : List Operand} {at_ : Array TypeId} {vs cap : List Value} {ρ : Operand → Value} {o : Oper} (hF : HasF P f) (ho : o.op = .call ⟨.value y, xs.toArray, at_⟩) (hy : opnd s y = some (.func (.func f) #[] cap.toArray)) (hx : opnds s xs = some vs)
    (h : ∀ x u, opnd s x = some u → ρ x = u) : (execOp ρ o).run P w = .ok (.enter f (vs ++ cap).toArray) w := by
  have e1 : ρ y = .func (.func f) #[] cap.toArray := h _ _ hy
  have e2 := opnds_map h xs vs hx
  unfold execOp
  simp [ho, resolve, e1, Deferred.ofValue, invoke, e2, HasF.run hF]
variable {d : Nat}
theorem WL.callV {f : FuncId} {y : Operand} {xs : List Operand} {at_ : Array TypeId} {vs cap : List Value} {R : Value → World → Prop} (hF : HasF P f) (hy : opnd s y = some (.func (.func f) #[] cap.toArray)) (hx : opnds s xs = some vs) (hd : Nat.blt d n = true) (h : Ret P f (vs ++ cap) w R)
  (k : ∀ v w', R v w' → WL P ops K rest n D ((d, v) :: s) w') : WL P ops K (⟨some d, .call ⟨.value y, xs.toArray, at_⟩, ty, pos, af, none⟩ :: rest) n D s w := fun a ha =>
 wpList_plain rfl fun K' hK => by
  unfold Oper.wp;rw [exec_callV hF rfl hy hx fun x u hx => ha.eval hx];exact Calls.mono h fun e w' ⟨v, he, hR⟩ => by subst he; exact hK _ _ (k v w' hR _ (ha.put hd v))
end
end Sx

/- Slices that grow: a function's own row, by its list. No condition. -/
section
open Go Sx Wd

/-- v is a row of the call's own (of a block from lo on, none of X) that reads as l. -/
def GR (w : World) (e : TypeId) (f : Nat → Value) (lo : Nat) (X : List Nat) (v : Value) (l : List Nat) : Prop :=
  w.ownsRow 0 e 1 v l.length (l.map f) ∧ ∀ b, v.ownBlock = some b → lo ≤ b ∧ b ∉ X
section
variable {w w' : World} {e : TypeId} {f : Nat → Value} {lo : Nat} {X : List Nat} {v : Value} {l : List Nat}
theorem GR.nil : GR w e f lo X (.slice none 0 0) [] := ⟨⟨rfl, .inl ⟨rfl, rfl⟩⟩, fun b h => by cases h⟩
theorem GR.lt (h : GR w e f lo X v l) {b : Nat} (hb : v.ownBlock = some b) : b < w.heap.size := own_lt h.1 hb
theorem GR.keep {T : List Nat} (h : GR w e f lo X v l) (hc : Chg T w w') (hT : ∀ b ∈ T, b ∈ X ∨ b < lo ∨ w.heap.size ≤ b) : GR w' e f lo X v l :=
  ⟨own_keep h.1 hc fun b hb hm => by
    obtain ⟨h1, h2⟩ := h.2 b hb
    have h3 := h.lt hb
    rcases hT b hm with q | q | q
    · exact h2 q
    · omega
    · omega, h.2⟩
theorem GR.keep0 (h : GR w e f lo X v l) (hc : Chg [] w w') : GR w' e f lo X v l := h.keep hc (by simp)
theorem GR.one (h : GR w e f lo X v l) : v.oneCell' = true := by
  obtain ⟨a, c, rfl⟩ := own_form h.1; rfl
theorem GR.row (h : GR w e f lo X v l) : ∃ a c, v = .slice a l.length c ∧ l.length ≤ c ∧ RW w a (l.map f) := by
  rcases own_cases h.1 with ⟨rfl, h0, hx⟩ | ⟨g, cap, rfl, hc, _, _⟩
  · have : l = [] := List.length_eq_zero_iff.1 h0
    subst this
    exact ⟨none, 0, rfl, Nat.le_refl _, RW.nil⟩
  · exact ⟨_, cap, rfl, hc, RW.of_own h.1⟩
theorem GR.nu (h : GR w e u32v lo X v l) (hW : W l) (hl : l.length ≤ 70368744177664) : NU w v l := NU.of_own h.1 hW hl
theorem GR.of_OB {b k : Nat} (h : OB w b e l) (hk : k ≤ l.length) (hm : l.length ≤ 281474976710656) (hlo : lo ≤ b) (hX : b ∉ X) : GR w e u32v lo X (.slice (some ⟨b, 0, none⟩) k l.length) (l.take k) :=
  ⟨by have := own_of_OB h hk hm; rwa [show (l.take k).length = k by rw [List.length_take]; omega], fun b' hb => by cases hb; exact ⟨hlo, hX⟩⟩
theorem GR.mono {lo' : Nat} {X' : List Nat} (h : GR w e f lo X v l) (hlo : lo' ≤ lo) (hX : ∀ b ∈ X', b ∈ X ∨ b < lo ∨ w.heap.size ≤ b) : GR w e f lo' X' v l :=
  ⟨h.1, fun b hb => by
    obtain ⟨h1, h2⟩ := h.2 b hb
    have h3 := h.lt hb
    refine ⟨by omega, fun hm => ?_⟩
    rcases hX b hm with q | q | q
    · exact h2 q
    · omega
    · omega⟩
/-- What the growing row's block tells the frame. -/
theorem GR.frame {T : List Nat} {w0 : World} (h : GR w e f lo X v l) (hc : Chg v.ownBlock.toList w w') (hf : Chg T w0 w) (hlo : w0.heap.size ≤ lo) : Chg T w0 w' :=
  hf.step hc fun y hy => .inr (by
    cases hv : v.ownBlock with
    | none => rw [hv] at hy; cases hy
    | some b => rw [hv] at hy; have : y = b := by simpa using hy
                subst this; have := (h.2 y hv).1; omega)
theorem GR.notin (h : GR w e f lo X v l) {b : Nat} (hb : b ∈ X ∨ b < lo) : b ∉ v.ownBlock.toList := fun hm => by
  cases hv : v.ownBlock with
  | none => rw [hv] at hm; cases hm
  | some c =>
    rw [hv] at hm
    have : b = c := by simpa using hm
    subst this
    obtain ⟨h1, h2⟩ := h.2 b hv
    rcases hb with q | q
    · exact h2 q
    · omega
end
section
variable {P : Program} {n : Nat} {D : List Deferred} {s : Sl} {w : World} {ops : Array Oper} {K : KK} {rest : List Oper} {ty : TypeId} {pos : String} {af : Array Edge} {d : Nat} {x y : Operand}
theorem Ev.append00 {t e es be : Nat} {de : TypeDesc} {ze : Value} {sz by_ : Nat} {z : Value} {v : Value} {m c : Nat} {xs : List Value} [hT : HasT P t (.slice e) sz by_ z] [hE : HasT P e de es be ze]
    (hx : opnd s x = some v) (hy : opnd s y = some (.slice none 0 c)) (hown : w.ownsRow 0 e es v m xs) :
    Ev P s (.call ⟨.builtin .append, [x, y].toArray, #[t, t]⟩) ty w v w := fun ρ d' pos af g hρ => by
  obtain ⟨i, hi, hi1, hi2, hi3⟩ := hE.inf
  have e1 := hρ x _ hx
  have e2 := hρ y _ hy
  have : (Builtin.append_ #[t, t] ty #[v, .slice none 0 c]).run P w = .ok v w := by
    rcases hown.2 with ⟨rfl, rfl⟩ | ⟨g, cap, cur, rfl, _, _, hnc, _⟩
    · simp [Builtin.append_, run_underlying hT.und, sizeOf, typeInfo, hi, Builtin.lenOf, Builtin.firstCells]
    · simp [Builtin.append_, run_underlying hT.und, sizeOf, typeInfo, hi, Builtin.lenOf, Builtin.firstCells, hnc, storeCells]
  simp [execOp, resolve, invoke, builtin, e1, e2, this]
/-- append(own, a row..). -/
theorem WL.growR {t e be : Nat} {de : TypeDesc} {ze : Value} {sz by_ : Nat} {z : Value} {v : Value} {f : Nat → Value} {lo : Nat} {X : List Nat} {l news : List Nat} {a : Option Addr} {mm c : Nat} [hT : HasT P t (.slice e) sz by_ z] [hE : HasT P e de 1 be ze]
    (hzs : ze.cells.size = 1) (h1 : ∀ i, (f i).oneCell' = true) (hx : opnd s x = some v) (hy : opnd s y = some (.slice a mm c)) (hg : GR w e f lo X v l) (hm : mm = news.length) (hr : RW w a (news.map f)) (hlo : lo ≤ w.heap.size) (hX : ∀ b ∈ X, b < w.heap.size)
    (hbytes : (l.length + news.length) * be ≤ 140737488355328) (h63 : l.length + news.length ≤ 70368744177664) (hd : Nat.blt d n = true)
    (k : ∀ v' w', GR w' e f lo X v' (l ++ news) → Chg v.ownBlock.toList w w' → WL P ops K rest n D ((d, v') :: s) w') :
    WL P ops K (⟨some d, .call ⟨.builtin .append, [x, y].toArray, #[t, t]⟩, ty, pos, af, none⟩ :: rest) n D s w := by
  cases a with
  | some ad =>
    refine WL.append (news := news.map f) hzs (by omega) hx hy hg.1 (by simp; omega) (fun j u hu => ?_) (fun u hu => ?_) (by unfold maxLen; omega) (by rw [hm]; exact hbytes) hd fun v' w' ho hc hl => ?_
    · obtain ⟨ad', e1, hcell⟩ := hr j u hu
      cases e1; exact hcell
    · obtain ⟨i, _, rfl⟩ := List.mem_map.1 hu
      exact h1 i
    · refine k v' w' ⟨by rw [List.length_append, List.map_append, ← hm]; exact ho, fun b hb => ?_⟩ hc
      rcases hl with q | q
      · rw [q] at hb; exact hg.2 b hb
      · rw [q] at hb; cases hb; exact ⟨hlo, fun hm => Nat.lt_irrefl _ (hX _ hm)⟩
  | none =>
    have hn : news = [] := by
      cases news with
      | nil => rfl
      | cons u r => obtain ⟨ad, e1, _⟩ := hr 0 (f u) rfl; cases e1
    subst hn
    have hm0 : mm = 0 := hm
    subst hm0
    refine WL.ev (Ev.append00 hx hy hg.1) hd (k v w ?_ (Chg.refl _ _))
    rw [List.append_nil]; exact hg
end
end

/- Package root: words. No condition. -/
section
open Go Sx Wd
set_option exponentiation.threshold 5000

/-- The state of moving words up: L what is written, c what is carried. -/
structure LiftI (l : List Nat) (q s i : Nat) (L : List Nat) (c : Nat) : Prop where
  le : i ≤ l.length
  len : L.length = q + i
  w : W L
  cl : c < 2 ^ s
  eq : val L + 2 ^ (32 * (q + i)) * c = 2 ^ (32 * q) * (val (l.take i) * 2 ^ s)
theorem LiftI.zero (l : List Nat) (q s : Nat) : LiftI l q s 0 (List.replicate q 0) 0 := ⟨Nat.zero_le _, by simp, W_replicate _, Nat.two_pow_pos _, by rw [val_replicate]; simp [val]⟩
theorem lift_or {c x s : Nat} (hc : c < 2 ^ s) (hx : x < 4294967296) (hs : s < 32) : c ||| (x * 2 ^ s % 18446744073709551616) = c + x * 2 ^ s ∧ c + x * 2 ^ s < 4294967296 * 2 ^ s ∧ c + x * 2 ^ s < 18446744073709551616 := by
  have h1 : (x + 1) * 2 ^ s ≤ 4294967296 * 2 ^ s := Nat.mul_le_mul_right _ hx
  have h2 : 2 ^ s ≤ 2 ^ 31 := Nat.pow_le_pow_right (by decide) (by omega)
  rw [Nat.add_mul, Nat.one_mul] at h1
  rw [Nat.mod_eq_of_lt (by omega), or_of_mul hc]
  omega
theorem LiftI.step {l L : List Nat} {q s i c t : Nat} (h : LiftI l q s i L c) (hl : W l) (hi : i < l.length) (hs : s < 32) (ht : t = c + l.getD i 0 * 2 ^ s) : LiftI l q s (i + 1) (L ++ [t % 4294967296]) (t / 2 ^ 32) := by
  obtain ⟨h1, h2, h3, h4, h5⟩ := h
  have hx := hl.getD i
  obtain ⟨_, h7, _⟩ := lift_or h4 hx hs
  rw [← ht] at h7
  refine ⟨hi, by simp [h2]; omega, W_append.2 ⟨h3, W_cons.2 ⟨Nat.mod_lt _ (by decide), W_nil⟩⟩, by rw [show (2 : Nat) ^ 32 = 4294967296 from rfl]; exact Nat.div_lt_of_lt_mul h7, ?_⟩
  rw [val_snoc, h2, val_take_succ hi, show 32 * (q + (i + 1)) = 32 * (q + i) + 32 by omega, Nat.pow_add 2 (32 * (q + i)) 32, show (2 : Nat) ^ 32 = 4294967296 from rfl]
  have e := Nat.div_add_mod t 4294967296
  have e2 : 2 ^ (32 * (q + i)) * (t % 4294967296) + 2 ^ (32 * (q + i)) * 4294967296 * (t / 4294967296) = 2 ^ (32 * (q + i)) * t := by
    rw [Nat.mul_assoc, ← Nat.mul_add]; congr 1; omega
  have e3 : 2 ^ (32 * q) * ((val (l.take i) + 2 ^ (32 * i) * l.getD i 0) * 2 ^ s) = 2 ^ (32 * q) * (val (l.take i) * 2 ^ s) + 2 ^ (32 * (q + i)) * (l.getD i 0 * 2 ^ s) := by
    rw [Nat.add_mul, Nat.mul_add, Nat.mul_add 32, Nat.pow_add]; congr 1; ac_rfl
  rw [e3, ← h5, Nat.add_assoc, e2, ht, Nat.mul_add]
  omega
theorem LiftI.done {l L : List Nat} {q s c : Nat} (h : LiftI l q s l.length L c) (hs : s < 32) : val (L ++ [c % 4294967296]) = val l * 2 ^ (32 * q + s) ∧ W (L ++ [c % 4294967296]) := by
  obtain ⟨h1, h2, h3, h4, h5⟩ := h
  have h6 : 2 ^ s ≤ 2 ^ 31 := Nat.pow_le_pow_right (by decide) (by omega)
  rw [Nat.mod_eq_of_lt (by omega)]
  refine ⟨?_, W_append.2 ⟨h3, W_cons.2 ⟨by omega, W_nil⟩⟩⟩
  rw [List.take_length] at h5
  rw [val_snoc, h2, h5, Nat.pow_add]
  ac_rfl
structure K0r (l : List Nat) (w : World) (k : Nat) (wr : World) : Prop where
  le : k ≤ l.length
  vl : val (l.take k) = val l
  eq : w = wr

theorem trimmed_spec (v : Value) (l : List Nat) (w : World) (h : NU w v l) : Ret Tryz.prog 320 [v] w fun u w' => NU w u (wd (val l)) ∧ w = w' := by
 obtain ⟨⟨al, cl, rfl, hcapl, hrl⟩, hWl, hll⟩ := h;have hch : Chg [] w w := Chg.refl _ _;refine zE1 Tryz.func320 rfl ?_;refine Sr fun _ kh1 => za rfl (zz (kh1 (zc fun _ kh3 => ?_)));refine CW.block ?_;refine CW.loop (S := fun k : Nat => [(0, .slice al k cl)]) (Inv := K0r l w) (mu := fun k => k) (l.length) ?_ ?_ ?_
 ·exact ⟨Nat.le_refl _, by rw [List.take_length], rfl⟩
 ·exact SLp
 ·rintro k _ ⟨hkl, hvl, rfl⟩;refine zc fun _ kh4 => ?_;refine CW.seqM 14 (decide (0 < k ∧ l.getD (k - 1) 0 = 0)) ?_ ?_
  ·refine zR fun _ kr5 => ?_;refine zm rfl (zn rfl ?_);refine WL.ev (Ev.gtr rfl rfl) rfl ?_;refine zm rfl ?_;refine zb ?_ ?_<;>intro hg1<;>try simp only [qs] at hg1
   ·refine zw rfl (zm rfl (zw rfl (zm rfl (zw rfl (zn rfl (zw rfl ?_))))))
    first | refine WL.ev (Ev.subIn rfl rfl (by omega)) rfl ?_ | refine WL.ev (Ev.sub rfl rfl) rfl ?_
    refine zw rfl ?_;refine WL.ev (Ev.ixR ((k - 1)) rfl rfl (hrl.keep0 hch) (by omega) (by omega) (by simp; omega)) rfl ?_;refine zw rfl ?_;refine WL.ev (Ev.load rfl rfl ((hrl.keep0 hch).u32 (by first | omega | (simp; omega)))) rfl ?_;have hw12 := hWl.getD ((k - 1));refine zw rfl (zq rfl rfl (zt rfl rfl ?_));refine WL.nil (kr5 _ _ _ ?_);refine ⟨rfl, rfl, Subs.consB rfl ?_ ?_⟩
    ·first | (simp; omega) | (refine decide_eq_decide.2 ?_; omega)
    ·exact SMg
   ·refine zv rfl (zv rfl (zv rfl (zv rfl (zv rfl (zv rfl (zv rfl (ze rfl rfl ?_)))))));refine WL.nil (kr5 _ _ _ ?_);refine ⟨rfl, rfl, Subs.consB rfl ?_ ?_⟩
    ·first | (simp; omega) | (refine decide_eq_decide.2 ?_; omega)
    ·exact SMg
  ·refine zy rfl ?_ ?_<;>intro hc2<;>try simp only [qs] at hc2
   ·refine zkk ?_
    refine kh4 ?_;refine CW.block ?_;refine zR fun _ kr6 => ?_;refine zm rfl (zm rfl (zn rfl ?_))
    first | refine WL.ev (Ev.subIn rfl rfl (by omega)) rfl ?_ | refine WL.ev (Ev.sub rfl rfl) rfl ?_
    refine WL.ev (Ev.sliceHn ((k - 1)) rfl rfl (by omega) (by omega)) rfl ?_;refine za rfl ?_;refine WL.nil (kr6 _ _ _ ?_);refine ⟨rfl, k - 1, ?_, ?_, ?_⟩
    ·exact SLp
    ·exact ⟨by omega, by rw [take_pred hkl (by omega) (by omega)]; exact hvl, rfl⟩
    ·omega
   ·refine CW.exit ?_
    refine kh3 (Sr fun _ kh7 => zm rfl (za rfl (zz (kh7 ?_))));refine zr (zr1 rfl rfl ?_);rw [cut_wd hWl hkl hvl (by omega)];exact ⟨NU.part hrl hWl hll hkl (by omega), rfl⟩

def cmpS (a b : Int) : Int := if a < b then -1 else if b < a then 1 else 0
theorem rcmp_spec (a b : Int) (w : World) : Ret Tryz.prog 347 [.int .i64 a, .int .i64 b] w fun u w' => u = .int .i64 (cmpS a b) ∧ w = w' := by
 refine zE2 Tryz.func347 rfl ?_;refine Sr fun _ kh1 => za rfl (zz (kh1 (zc fun _ kh3 => ?_)));refine CW.block ?_;refine Sr fun _ kh4 => zm rfl (zm rfl ?_);refine WL.ev (Ev.lss rfl rfl) rfl ?_;refine za rfl (zz (kh4 ?_));refine zy rfl ?_ ?_<;>intro hc1<;>try simp only [qs] at hc1
 ·have h1 : a < b := hc1
  refine Sr fun _ kh6 => za rfl (zz (kh6 ?_));refine zr (zr1 rfl rfl ?_);exact ⟨by unfold cmpS; rw [if_pos h1], rfl⟩
 ·have h1 : ¬ a < b := by have := hc1; omega
  refine Sr fun _ kh8 => zm rfl (zm rfl ?_);refine WL.ev (Ev.gtr rfl rfl) rfl ?_;refine za rfl (zz (kh8 ?_));refine zy rfl ?_ ?_<;>intro hc2<;>try simp only [qs] at hc2
  ·have h2 : b < a := hc2
   refine Sr fun _ kh10 => za rfl (zz (kh10 ?_));refine zr (zr1 rfl rfl ?_);exact ⟨by unfold cmpS; rw [if_neg h1, if_pos h2], rfl⟩
  ·have h2 : ¬ b < a := by have := hc2; omega
   refine zkk ?_;refine kh3 (Sr fun _ kh12 => za rfl (zz (kh12 ?_)));refine zr (zr1 rfl rfl ?_);exact ⟨by unfold cmpS; rw [if_neg h1, if_neg h2], rfl⟩

structure KLi (l : List Nat) (q s : Nat) (w0 : World) (g : Nat × List Nat × Nat × Value) (w : World) : Prop where
  m : LiftI l q s g.1 g.2.1 g.2.2.1
  gr : GR w 219 u32v w0.heap.size [] g.2.2.2 g.2.1
  ch : Chg [] w0 w

theorem lifted_spec (v : Value) (l : List Nat) (n : Nat) (w : World) (h : NU w v l) (hn : n < 1099511627776) (hlm : l.length ≤ 1099511627776) : Ret Tryz.prog 338 [v, .int .i64 (n : Int)] w fun u w' => NU w' u (wd (val l * 2 ^ n)) ∧ Chg [] w w' := by
 obtain ⟨⟨al, cl, rfl, hcapl, hrl⟩, hWl, hll⟩ := h;have hch : Chg [] w w := Chg.refl _ _;have hs32 : n % 32 < 32 := Nat.mod_lt _ (by decide);have hp : 2 ^ (n % 32) ≤ 2 ^ 31 := Nat.pow_le_pow_right (by decide) (by omega);refine zE2 Tryz.func338 rfl ?_;refine Sr fun _ kh1 => za rfl (zz (kh1 (Sr fun _ kh3 => zm rfl ?_)));refine WL.ev (Ev.quoIn (b := 32) rfl rfl (by omega) (by simp only [IntKind.max, IntKind.signed, IntKind.bits]; omega) (by omega)) rfl ?_;rw [show (n : Int) / 32 = ((n / 32 : Nat) : Int) by omega];refine zm rfl ?_;refine WL.ev (Ev.quoIn (b := 32) rfl rfl (by omega) (by simp only [IntKind.max, IntKind.signed, IntKind.bits]; omega) (by omega)) rfl ?_;rw [show (n : Int) / 32 = ((n / 32 : Nat) : Int) by omega];refine zm rfl (zn rfl ?_);(first | refine zi rfl rfl ?_ | refine zo rfl rfl ?_);(first | refine zi rfl rfl ?_ | refine zo rfl rfl ?_);refine WL.makeU (n / 32) (n / 32 + l.length + 1) rfl rfl (by omega) (by omega) (by omega) (by omega) (by omega) rfl fun b17 wm17 hb17 hcm17 hge17 => ?_;have hgehch17 := Nat.le_trans hch.size hge17;have hch := hch.ta hcm17;refine za rfl (zz (kh3 (Sr fun _ kh5 => za rfl (zz (kh5 (zc fun _ kh7 => Sr fun _ kh8 => zm rfl (zn rfl (zm rfl (zz (kh8 ?_))))))))));refine CW.block ?_;refine CW.loop (S := fun g : Nat × List Nat × Nat × Value => [(0, .slice al l.length cl), (1, .int .i64 (n : Int)), (5, g.2.2.2), (6, .int .u64 (g.2.2.1 : Int)), (18, .slice al l.length cl), (19, .int .i64 (l.length : Int)), (20, .int .i64 (g.1 : Int))]) (Inv := KLi l (n / 32) (n % 32) w) (mu := fun g => l.length - g.1) ((0, List.replicate (n / 32) 0, 0, .slice (some ⟨b17, 0, none⟩) (n / 32) (n / 32 + l.length + 1))) ?_ ?_ ?_
 ·have hGR := GR.of_OB (lo := w.heap.size) (X := []) (k := n / 32) hb17 (by simp; omega) (by simp; omega) (by first | omega | exact hgehch17 | exact hge17) (by simp);rw [List.take_replicate, show min (n / 32) (n / 32 + l.length + 1) = n / 32 by omega, List.length_replicate] at hGR;exact ⟨LiftI.zero _ _ _, hGR, hch⟩
 ·exact SLp
 ·rintro ⟨i, L, c, vo⟩ wr ⟨hM, hgr, hch⟩;dsimp only at hM hgr hch;dsimp only;have hi := hM.le;have hLl := hM.len;have hcl := hM.cl;have hxi := hWl.getD i;refine Sr fun _ kh10 => ?_;refine WL.ev (Ev.lss rfl rfl) rfl ?_;refine zz (kh10 (zc fun _ kh12 => ?_));refine zy rfl ?_ ?_<;>intro hc1<;>try simp only [qs] at hc1
  ·obtain ⟨hor, hb1, hb2⟩ := lift_or hcl hxi hs32
   refine zkk ?_;refine kh12 (zc fun _ kh13 => ?_);refine CW.block ?_;refine Sr fun _ kh14 => ?_;refine WL.ev (Ev.ixR (i) rfl rfl (hrl.keep0 hch) (by omega) (by omega) (by simp; omega)) rfl ?_;refine WL.ev (Ev.load rfl rfl ((hrl.keep0 hch).u32 (by first | omega | (simp; omega)))) rfl ?_;have hw23 := hWl.getD (i);refine za rfl (zz (kh14 (Sr fun _ kh16 => zm rfl (zm rfl ?_))));refine WL.ev (Ev.convIn rfl rfl (in_u64 (by omega))) rfl ?_;refine zm rfl ?_;refine WL.ev (Ev.remIn (b := 32) rfl rfl (by omega) (by omega)) rfl ?_;rw [show (n : Int) % 32 = ((n % 32 : Nat) : Int) by omega];refine WL.ev (Ev.convIn rfl rfl (in_u64 (by omega))) rfl ?_;refine WL.ev (Ev.shlU64 rfl rfl) rfl ?_;refine WL.ev (Ev.orU rfl rfl rfl (by simp only [IntKind.bits]; omega) (by simp only [IntKind.bits]; omega)) rfl ?_;rw [hor];refine za rfl (zz (kh16 (Sr fun _ kh18 => zm rfl (zm rfl ?_))));refine WL.ev (Ev.conv32 rfl rfl) rfl ?_;refine WL.buildSlice (m := 1) (cs := [u32v (((c + l.getD i 0 * 2 ^ (n % 32)) % 4294967296))]) (by decide) (by decide) rfl (by kernel_rfl) rfl fun b35 w35 hn35 => ?_;have hcm35 := hn35.chg;have hge35 := hn35.ge;have hb35 : OB w35 b35 _ [((c + l.getD i 0 * 2 ^ (n % 32)) % 4294967296)] := hn35.at_;have hgehch35 := Nat.le_trans hch.size hge35;have hch := hch.ta hcm35;have hgr := hgr.keep0 hcm35;refine WL.growR (f := u32v) (lo := w.heap.size) (X := []) (l := L) (news := [((c + l.getD i 0 * 2 ^ (n % 32)) % 4294967296)]) (by rfl) (fun i => rfl) rfl rfl hgr (by first | rfl | (simp; done) | (simp; omega) | omega) hb35.row (by first | omega | exact hch.size | exact Nat.le_refl _) (by simp) (by simp only [List.length_append, List.length_cons, List.length_nil]; omega) (by simp only [List.length_append, List.length_cons, List.length_nil]; omega) rfl fun v36 w36 hg36 hcg36 => ?_;have hch := GR.frame hgr hcg36 hch (by first | omega | exact Nat.le_refl _);have hgr := hg36;refine za rfl (zz (kh18 ?_));refine zR fun _ kr20 => ?_;refine zm rfl ?_;refine WL.ev (Ev.shrU (b := 32) rfl rfl (by simp only [IntKind.bits]; omega)) rfl ?_;refine za rfl ?_;refine WL.nil (kr20 _ _ _ (kh13 ?_));refine zR fun _ kr21 => ?_;(first | refine zi rfl rfl ?_ | refine zo rfl rfl ?_);refine zm rfl ?_;refine WL.nil (kr21 _ _ _ ?_);refine ⟨rfl, (i + 1, L ++ [(c + l.getD i 0 * 2 ^ (n % 32)) % 4294967296], (c + l.getD i 0 * 2 ^ (n % 32)) / 2 ^ 32, v36), ?_, ?_, ?_⟩
   ·exact SLp
   ·exact ⟨hM.step hWl (by omega) hs32 rfl, hgr, hch⟩
   ·show l.length - (i + 1) < l.length - i; omega
  ·have hiX : i = l.length := by omega
   subst hiX;obtain ⟨hd1, hd2⟩ := hM.done hs32;rw [show 32 * (n / 32) + n % 32 = n by omega] at hd1;refine CW.exit ?_;refine kh7 (Sr fun _ kh22 => zm rfl (zm rfl ?_));refine WL.ev (Ev.conv32 rfl rfl) rfl ?_;refine WL.buildSlice (m := 1) (cs := [u32v ((c % 4294967296))]) (by decide) (by decide) rfl (by kernel_rfl) rfl fun b43 w43 hn43 => ?_;have hcm43 := hn43.chg;have hge43 := hn43.ge;have hb43 : OB w43 b43 _ [(c % 4294967296)] := hn43.at_;have hgehch43 := Nat.le_trans hch.size hge43;have hch := hch.ta hcm43;have hgr := hgr.keep0 hcm43;refine WL.growR (f := u32v) (lo := w.heap.size) (X := []) (l := L) (news := [(c % 4294967296)]) (by rfl) (fun i => rfl) rfl rfl hgr (by first | rfl | (simp; done) | (simp; omega) | omega) hb43.row (by first | omega | exact hch.size | exact Nat.le_refl _) (by simp) (by simp only [List.length_append, List.length_cons, List.length_nil]; omega) (by simp only [List.length_append, List.length_cons, List.length_nil]; omega) rfl fun v44 w44 hg44 hcg44 => ?_;have hch := GR.frame hgr hcg44 hch (by first | omega | exact Nat.le_refl _);have hgr := hg44;refine WL.call hasF320 rfl rfl (trimmed_spec _ _ _ (hgr.nu hd2 (by simp; omega))) fun v w1 h' => ?_;obtain ⟨hN, rfl⟩ := h';rw [hd1] at hN;refine za rfl (zz (kh22 ?_));refine zr (zr1 rfl rfl ?_);exact ⟨hN, hch⟩

end

/- Package root: words, compared and less. No condition. -/
section
open Go Sx Wd
set_option exponentiation.threshold 5000

structure KCr (A B : List Nat) (w : World) (k : Nat) (wr : World) : Prop where
  le : k ≤ A.length
  eq : A.drop k = B.drop k
  chg : Chg [] w wr
structure KSr (X Y : List Nat) (w : World) (b : Nat) (g : Nat × List Nat × Nat) (wr : World) : Prop where
  a : SubI X Y g.1 g.2.1 g.2.2
  ob : OB wr b 219 g.2.1
  chg : Chg [] w wr
theorem cmpS_nat (a b : Nat) : cmpS (a : Int) (b : Int) = sgn a b := by
  unfold cmpS sgn
  by_cases h : a < b
  · rw [if_pos h, if_pos (by omega)]
  · rw [if_neg h, if_neg (by omega)]
    by_cases h2 : b < a
    · rw [if_pos h2, if_pos (by omega)]
    · rw [if_neg h2, if_neg (by omega)]

theorem compared_spec (va vb : Value) (m n : Nat) (w : World) (ha : NU w va (wd m)) (hb : NU w vb (wd n)) : Ret Tryz.prog 339 [va, vb] w fun u w' => u = .int .i64 (sgn m n) ∧ Chg [] w w' := by
 have hvA := val_wd m;have hvB := val_wd n;have hslen := sgn_len (a := m) (b := n);obtain ⟨A, hA⟩ : ∃ A, A = wd m := ⟨_, rfl⟩;obtain ⟨B, hB⟩ : ∃ B, B = wd n := ⟨_, rfl⟩;rw [← hA] at ha hvA hslen;rw [← hB] at hb hvB hslen;obtain ⟨⟨a1, c1, rfl, hcap1, hr1⟩, hW1, hl1⟩ := ha;obtain ⟨⟨a2, c2, rfl, hcap2, hr2⟩, hW2, hl2⟩ := hb;have hch : Chg [] w w := Chg.refl _ _;refine zE2 Tryz.func339 rfl ?_;refine Sr fun _ kh1 => za rfl (zz (kh1 (zc fun _ kh3 => Sr fun _ kh4 => zm rfl (zn rfl (zm rfl (zn rfl ?_))))));refine WL.ev (Ev.neq rfl rfl) rfl ?_;refine zz (kh4 ?_);refine zy rfl ?_ ?_<;>intro hc1<;>try simp only [qs] at hc1
 ·refine Sr fun _ kh6 => zm rfl (zn rfl (zm rfl (zn rfl ?_)));refine WL.call hasF347 rfl rfl (rcmp_spec _ _ _) fun v w1 h' => ?_
  obtain ⟨rfl, rfl⟩ := h';rw [cmpS_nat];refine za rfl (zz (kh6 ?_));refine zr (zr1 rfl rfl ?_);refine ⟨?_, hch⟩;have e : sgn A.length B.length = sgn m n := by
   rcases Nat.lt_or_gt_of_ne (show A.length ≠ B.length by omega) with q | q
   · rw [hslen.1 q]; unfold sgn; rw [if_pos q]
   · rw [hslen.2 q]; unfold sgn; rw [if_neg (by omega), if_pos q]
  rw [e]
 ·have hAB : A.length = B.length := by omega
  refine zkk ?_;refine kh3 (zc fun _ kh8 => Sr fun _ kh9 => zm rfl (zn rfl ?_))
  first | refine WL.ev (Ev.subIn rfl rfl (by omega)) rfl ?_ | refine WL.ev (Ev.sub rfl rfl) rfl ?_
  refine za rfl (zz (kh9 ?_));refine CW.block ?_;refine CW.loop (S := fun k : Nat => [(0, .slice a1 A.length c1), (1, .slice a2 B.length c2), (5, .int .i64 ((k : Int) - 1))]) (Inv := KCr A B w) (mu := fun k => k) (A.length) ?_ ?_ ?_
  ·exact ⟨Nat.le_refl _, by rw [List.drop_length, hAB, List.drop_length], hch⟩
  ·exact SLp
  ·rintro k wr ⟨hkl, hkd, hch⟩;refine zc fun _ kh11 => Sr fun _ kh12 => zm rfl ?_;refine WL.ev (Ev.geq rfl rfl) rfl ?_;refine zz (kh12 ?_);refine zy rfl ?_ ?_<;>intro hc2<;>try simp only [qs] at hc2
   ·have hk1 : k - 1 + 1 = k := by omega
    have hsd := sgn_drop hW1 hW2 hAB (k := k - 1) (by omega) (by rw [hk1]; exact hkd);rw [hvA, hvB] at hsd;refine zkk ?_;refine kh11 (zc fun _ kh14 => ?_);refine CW.block ?_;refine zc fun _ kh15 => ?_;refine CW.regionSC hmix (by kernel_rfl) fun kR16 kr16 hdr => ?_;have hch := hch.ta hdr;refine ym rfl (ym rfl ?_);refine WS.ev (Ev.ixR ((k - 1)) rfl rfl (hr1.keep0 hch) (by omega) (by omega) (by simp; omega)) rfl ?_;refine WS.ev (Ev.load rfl rfl ((hr1.keep0 hch).u32 (by first | omega | (simp; omega)))) rfl ?_;have hw26 := hW1.getD ((k - 1));refine ym rfl (ym rfl ?_);refine WS.ev (Ev.ixR ((k - 1)) rfl rfl (hr2.keep0 hch) (by omega) (by omega) (by simp; omega)) rfl ?_;refine WS.ev (Ev.load rfl rfl ((hr2.keep0 hch).u32 (by first | omega | (simp; omega)))) rfl ?_;have hw30 := hW2.getD ((k - 1));refine WS.ev (Ev.neq rfl rfl) rfl ?_;refine WS.nil (kr16 _ _ ?_);refine kh15 ?_;refine zy rfl ?_ ?_<;>intro hc3<;>try simp only [qs] at hc3
    ·refine zc fun _ kh17 => ?_
     refine CW.regionHC 12 rfl hmix fun kR18 kr18 hS hdr => ?_;have hch := hch.ta hdr;have hch_r := hch;refine wh 0 rfl hS (fun _ _ => Ev.move rfl) (wh 1 rfl hS (fun _ _ => Ev.move rfl) (wh 2 rfl hS (fun _ hw' => Ev.ixR ((k - 1)) rfl rfl (hr1.keep0 (hch_r.trans hw')) (by omega) (by omega) (by simp; omega)) (wh 3 rfl hS (fun _ hw' => Ev.load rfl rfl ((hr1.keep0 (hch_r.trans hw')).u32 (by first | omega | (simp; omega)))) ?_)));have hw35 := hW1.getD ((k - 1));refine wh 4 rfl hS (fun _ _ => Ev.convIn rfl rfl (in_i64 (by omega))) (wh 5 rfl hS (fun _ _ => Ev.move rfl) (wh 6 rfl hS (fun _ _ => Ev.move rfl) (wh 7 rfl hS (fun _ hw' => Ev.ixR ((k - 1)) rfl rfl (hr2.keep0 (hch_r.trans hw')) (by omega) (by omega) (by simp; omega)) (wh 8 rfl hS (fun _ hw' => Ev.load rfl rfl ((hr2.keep0 (hch_r.trans hw')).u32 (by first | omega | (simp; omega)))) ?_))));have hw40 := hW2.getD ((k - 1));refine wh 9 rfl hS (fun _ _ => Ev.convIn rfl rfl (in_i64 (by omega))) ?_;refine WH.oneCall 10 rfl (by kernel_rfl) hasF347 rfl rfl (rcmp_spec _ _ _) fun v w2 h' => ?_;obtain ⟨rfl, rfl⟩ := h';rw [cmpS_nat];refine ⟨hS, ?_⟩;refine wh 11 rfl hS (fun _ _ => Ev.assign rfl) ?_;refine WH.done (by kernel_rfl) (kr18 _ _ _ ?_);refine kh17 ?_;refine zr (zr1 rfl rfl ?_);refine ⟨?_, hch⟩;have e : sgn (A.getD (k - 1) 0) (B.getD (k - 1) 0) = sgn m n := by
      rcases Nat.lt_or_gt_of_ne (show A.getD (k - 1) 0 ≠ B.getD (k - 1) 0 by omega) with q | q
      · rw [hsd.1 q]; unfold sgn; rw [if_pos q]
      · rw [hsd.2.1 q]; unfold sgn; rw [if_neg (by omega), if_pos q]
     rw [e]
    ·refine zkk ?_
     refine kh14 ?_;refine zR fun _ kr19 => ?_;refine zm rfl ?_
     first | refine WL.ev (Ev.subIn rfl rfl (by omega)) rfl ?_ | refine WL.ev (Ev.sub rfl rfl) rfl ?_
     refine za rfl ?_;refine WL.nil (kr19 _ _ _ ?_);refine ⟨rfl, k - 1, ?_, ?_, ?_⟩
     ·exact SLp
     ·exact ⟨by omega, hsd.2.2 (by omega), hch⟩
     ·omega
   ·refine CW.exit ?_
    refine kh8 (Sr fun _ kh20 => za rfl (zz (kh20 ?_)));refine zr (zr1 rfl rfl ?_);have hk0 : k = 0 := by omega
    subst hk0;rw [List.drop_zero, List.drop_zero] at hkd;rw [← hvA, ← hvB, hkd, sgn_self];exact ⟨rfl, hch⟩

theorem rless_spec (va vb : Value) (la lb : List Nat) (w : World) (ha : NU w va la) (hb : NU w vb lb) (hle : val lb ≤ val la) : Ret Tryz.prog 340 [va, vb] w fun u w' => NU w' u (wd (val la - val lb)) ∧ Chg [] w w' := by
 obtain ⟨⟨ala, cla, rfl, hcapla, hrla⟩, hWla, hlla⟩ := ha;obtain ⟨⟨alb, clb, rfl, hcaplb, hrlb⟩, hWlb, hllb⟩ := hb;have hch : Chg [] w w := Chg.refl _ _;refine zE2 Tryz.func340 rfl ?_;refine Sr fun _ kh1 => za rfl (zz (kh1 (Sr fun _ kh3 => zm rfl (zn rfl ?_))));refine WL.makeU ((la).length) ((la).length) rfl rfl (by omega) (by omega) (by omega) (by omega) (by omega) rfl fun b13 wm13 hb13 hcm13 hge13 => ?_;have hgehch13 := Nat.le_trans hch.size hge13;have hch := hch.ta hcm13;refine za rfl (zz (kh3 (Sr fun _ kh5 => za rfl (zz (kh5 (zc fun _ kh7 => Sr fun _ kh8 => zm rfl (zn rfl (zm rfl (zz (kh8 ?_))))))))));refine CW.block ?_;refine CW.loop (S := fun g : Nat × List Nat × Nat => [(0, .slice ala la.length cla), (1, .slice alb lb.length clb), (5, .slice (some ⟨b13, 0, none⟩) la.length la.length), (6, .int .u64 (g.2.2 : Int)), (14, .slice ala la.length cla), (15, .int .i64 (la.length : Int)), (16, .int .i64 (g.1 : Int))]) (Inv := KSr la lb w b13) (mu := fun g => la.length - g.1) ((0, List.replicate la.length 0, 0)) ?_ ?_ ?_
 ·exact ⟨SubI.zero (by simp) (W_replicate _), hb13, hch⟩
 ·exact SLp
 ·rintro ⟨i, L, c⟩ wr ⟨hAd, hb13, hch⟩;dsimp only at hAd hb13 hch;dsimp only;have hiX := hAd.le;have hLl := hAd.len;have hcc := hAd.c1;have hxi := hWla.getD i;have hyi := hWlb.getD i;refine Sr fun _ kh10 => ?_;refine WL.ev (Ev.lss rfl rfl) rfl ?_;refine zz (kh10 (zc fun _ kh12 => ?_));refine zy rfl ?_ ?_<;>intro hc1<;>try simp only [qs] at hc1
  ·refine zkk ?_
   refine kh12 (zc fun _ kh13 => ?_);refine CW.block ?_;refine Sr fun _ kh14 => zm rfl ?_;refine WL.ev (Ev.ixR (i) rfl rfl (hrla.keep0 hch) (by omega) (by omega) (by simp; omega)) rfl ?_;refine WL.ev (Ev.load rfl rfl ((hrla.keep0 hch).u32 (by first | omega | (simp; omega)))) rfl ?_;have hw20 := hWla.getD (i);refine za rfl (za rfl (zz (kh14 (Sr fun _ kh16 => zm rfl (za rfl (zz (kh16 (zc fun _ kh18 => Sr fun _ kh19 => zm rfl (zm rfl (zn rfl ?_))))))))));refine WL.ev (Ev.lss rfl rfl) rfl ?_;refine zz (kh19 ?_);refine zy rfl ?_ ?_<;>intro hc2<;>try simp only [qs] at hc2
   ·refine zR fun _ kr21 => ?_
    refine zm rfl (zm rfl (zm rfl ?_));refine WL.ev (Ev.ixR (i) rfl rfl (hrlb.keep0 hch) (by omega) (by omega) (by simp; omega)) rfl ?_;refine WL.ev (Ev.load rfl rfl ((hrlb.keep0 hch).u32 (by first | omega | (simp; omega)))) rfl ?_;have hw30 := hWlb.getD (i);refine WL.ev (Ev.convIn rfl rfl (in_u64 (by omega))) rfl ?_
    first | refine WL.ev (Ev.add64In rfl rfl (by omega)) rfl ?_ | refine WL.ev (Ev.add64 rfl rfl) rfl ?_
    refine za rfl ?_;refine WL.nil (kr21 _ _ _ (kh18 ?_));refine Sr fun _ kh22 => zm rfl ?_;refine WL.ev (Ev.convIn rfl rfl (in_u64 (by omega))) rfl ?_;refine zm rfl ?_;refine WL.ev (Ev.sub64 (a := la.getD i 0) (b := c + lb.getD i 0) rfl rfl (by omega)) rfl ?_;refine za rfl (zz (kh22 ?_));refine zR fun _ kr24 => ?_;refine zm rfl (zm rfl (zm rfl ?_));refine WL.ev (Ev.conv32 (a := (la.getD i 0 + (18446744073709551616 - (c + lb.getD i 0))) % 18446744073709551616) rfl rfl) rfl ?_;rw [show (la.getD i 0 + (18446744073709551616 - (c + lb.getD i 0))) % 18446744073709551616 % 4294967296 = (la.getD i 0 + 8589934592 - lb.getD i 0 - c) % 4294967296 by omega];refine zm rfl ?_;refine WL.ev (Ev.shrU (a := (la.getD i 0 + (18446744073709551616 - (c + lb.getD i 0))) % 18446744073709551616) (b := 63) rfl rfl (by simp only [IntKind.bits]; omega)) rfl ?_;rw [show (la.getD i 0 + (18446744073709551616 - (c + lb.getD i 0))) % 18446744073709551616 / 2 ^ 63 = (if la.getD i 0 < lb.getD i 0 + c then 1 else 0) by split <;> omega];refine WL.ev (Ev.ixB (i) rfl rfl (by omega) (by omega)) rfl ?_;refine WL.storeU rfl rfl hb13 (by first | omega | (simp; omega)) fun ws3 hb13_ hcs3 => ?_;have hch := hch.s1 hcs3;have hb13 := hb13_;refine za rfl ?_;refine WL.nil (kr24 _ _ _ (kh13 ?_));refine zR fun _ kr25 => ?_;(first | refine zi rfl rfl ?_ | refine zo rfl rfl ?_);refine zm rfl ?_;refine WL.nil (kr25 _ _ _ ?_);refine ⟨rfl, (i + 1, L.set i ((la.getD i 0 + 8589934592 - lb.getD i 0 - c) % 4294967296), (if la.getD i 0 < lb.getD i 0 + c then 1 else 0)), ?_, ?_, ?_⟩
    ·exact SLp
    ·exact ⟨hAd.step hWla hWlb (by omega), hb13, hch⟩
    ·show la.length - (i + 1) < la.length - i; omega
   ·have e0 : Value.int IntKind.u64 (c : Int) = Value.int IntKind.u64 ((c + lb.getD i 0 : Nat) : Int) := by rw [getD_out (by omega)]; rfl
    rw [e0];refine zkk ?_;refine kh18 (Sr fun _ kh26 => zm rfl ?_);refine WL.ev (Ev.convIn rfl rfl (in_u64 (by omega))) rfl ?_;refine zm rfl ?_;refine WL.ev (Ev.sub64 (a := la.getD i 0) (b := c + lb.getD i 0) rfl rfl (by omega)) rfl ?_;refine za rfl (zz (kh26 ?_));refine zR fun _ kr28 => ?_;refine zm rfl (zm rfl (zm rfl ?_));refine WL.ev (Ev.conv32 (a := (la.getD i 0 + (18446744073709551616 - (c + lb.getD i 0))) % 18446744073709551616) rfl rfl) rfl ?_;rw [show (la.getD i 0 + (18446744073709551616 - (c + lb.getD i 0))) % 18446744073709551616 % 4294967296 = (la.getD i 0 + 8589934592 - lb.getD i 0 - c) % 4294967296 by omega];refine zm rfl ?_;refine WL.ev (Ev.shrU (a := (la.getD i 0 + (18446744073709551616 - (c + lb.getD i 0))) % 18446744073709551616) (b := 63) rfl rfl (by simp only [IntKind.bits]; omega)) rfl ?_;rw [show (la.getD i 0 + (18446744073709551616 - (c + lb.getD i 0))) % 18446744073709551616 / 2 ^ 63 = (if la.getD i 0 < lb.getD i 0 + c then 1 else 0) by split <;> omega];refine WL.ev (Ev.ixB (i) rfl rfl (by omega) (by omega)) rfl ?_;refine WL.storeU rfl rfl hb13 (by first | omega | (simp; omega)) fun ws4 hb13_ hcs4 => ?_;have hch := hch.s1 hcs4;have hb13 := hb13_;refine za rfl ?_;refine WL.nil (kr28 _ _ _ (kh13 ?_));refine zR fun _ kr29 => ?_;(first | refine zi rfl rfl ?_ | refine zo rfl rfl ?_);refine zm rfl ?_;refine WL.nil (kr29 _ _ _ ?_);refine ⟨rfl, (i + 1, L.set i ((la.getD i 0 + 8589934592 - lb.getD i 0 - c) % 4294967296), (if la.getD i 0 < lb.getD i 0 + c then 1 else 0)), ?_, ?_, ?_⟩
    ·exact SLp
    ·exact ⟨hAd.step hWla hWlb (by omega), hb13, hch⟩
    ·show la.length - (i + 1) < la.length - i; omega
  ·have hiX2 : i = la.length := by omega
   subst hiX2;have hNL := NU.of_block hb13 hAd.w (by omega) hLl.symm (Nat.le_refl _);refine CW.exit ?_;refine kh7 (Sr fun _ kh30 => zm rfl ?_);refine WL.call hasF320 rfl rfl (trimmed_spec _ _ _ hNL) fun v w1 h' => ?_;obtain ⟨hN, rfl⟩ := h';rw [hAd.done hWla hWlb hle] at hN;refine za rfl (zz (kh30 ?_));refine zr (zr1 rfl rfl ?_);exact ⟨hN, hch⟩

end

/- Dyads as plain numbers: their form, sums, products. No condition. -/
namespace Wd

theorem eq_of_val {a b : List Nat} (ha : W a) (hb : W b) (hl : a.length = b.length) (hv : val a = val b) : a = b := by
  induction a generalizing b with
  | nil => cases b with
    | nil => rfl
    | cons y b => simp at hl
  | cons x a ih =>
    cases b with
    | nil => simp at hl
    | cons y b =>
      obtain ⟨h1, h2⟩ := W_cons.1 ha
      obtain ⟨h3, h4⟩ := W_cons.1 hb
      simp only [val] at hv
      have e1 : x = y := by omega
      have e2 := ih h2 h4 (by simpa using hl) (by omega)
      rw [e1, e2]
/-- A word moved down, with the next one's low bits over it. -/
theorem low_or {x y s : Nat} (hx : x < 4294967296) (hs : s < 32) : x / 2 ^ s ||| (y * 2 ^ (32 - s) % 4294967296) = (x + y * 4294967296) / 2 ^ s % 4294967296 := by
  have hp := Nat.two_pow_pos s
  have e32 : (4294967296 : Nat) = 2 ^ s * 2 ^ (32 - s) := by rw [← Nat.pow_add, show s + (32 - s) = 32 by omega]
  have e1 : y * 2 ^ (32 - s) % 4294967296 = (y % 2 ^ s) * 2 ^ (32 - s) := by rw [e32, Nat.mul_mod_mul_right]
  have hq : x / 2 ^ s < 2 ^ (32 - s) := by
    rw [Nat.div_lt_iff_lt_mul hp, Nat.mul_comm, ← e32]; exact hx
  have e2 : (x + y * 4294967296) / 2 ^ s = x / 2 ^ s + y * 2 ^ (32 - s) := by
    rw [e32, show y * (2 ^ s * 2 ^ (32 - s)) = 2 ^ s * (y * 2 ^ (32 - s)) by rw [Nat.mul_left_comm], Nat.add_mul_div_left _ _ hp]
  rw [e1, or_of_mul hq, e2]
  have hm : y % 2 ^ s + 1 ≤ 2 ^ s := Nat.mod_lt _ hp
  have hm2 := Nat.mul_le_mul_right (2 ^ (32 - s)) hm
  rw [← e32, Nat.add_mul, Nat.one_mul] at hm2
  have e3 : x / 2 ^ s + y * 2 ^ (32 - s) = (x / 2 ^ s + y % 2 ^ s * 2 ^ (32 - s)) + 4294967296 * (y / 2 ^ s) := by
    have := Nat.mod_add_div y (2 ^ s)
    have e4 : y * 2 ^ (32 - s) = y % 2 ^ s * 2 ^ (32 - s) + 4294967296 * (y / 2 ^ s) := by
      conv => lhs; rw [← this]
      rw [Nat.add_mul, e32]
      simp only [Nat.mul_comm, Nat.mul_left_comm, Nat.mul_assoc]
    omega
  have e5 : (x / 2 ^ s + y * 2 ^ (32 - s)) % 4294967296 = x / 2 ^ s + y % 2 ^ s * 2 ^ (32 - s) := by
    rw [e3, Nat.add_mul_mod_self_left]
    exact Nat.mod_eq_of_lt (by omega)
  exact e5.symm
/-- What is left of words moved down has one word less, or none. -/
theorem lower_words {l L : List Nat} {s : Nat} (hl : W l) (hL : W L) (hlen : L.length = l.length) (hp : 0 < l.length) (hlast : l.getD (l.length - 1) 0 ≠ 0) (hs : s < 32) (hv : val L = val l / 2 ^ s) :
    (L.getD (l.length - 1) 0 ≠ 0 → L = wd (val l / 2 ^ s)) ∧ (L.getD (l.length - 1) 0 = 0 → L.take (l.length - 1) = wd (val l / 2 ^ s)) := by
  refine ⟨fun h => ?_, fun h => ?_⟩
  · rw [← hv]; exact (wd_of_last hL (.inr (by rw [hlen]; exact h))).symm
  · have h1 : val L = val (L.take (l.length - 1)) := by
      have := val_take_succ' L (l.length - 1)
      rw [h, show l.length - 1 + 1 = L.length by omega, List.take_length] at this
      simpa using this
    have h2 : 2 ^ (32 * (l.length - 1)) ≤ val l := by
      have := bl_val hl (List.length_pos_iff.1 hp) hlast
      have hb := bl_pos hlast
      exact lt_bl.1 (by omega)
    refine eq_of_val (hL.take _) (W_wd _) ?_ (by rw [val_wd, ← hv, h1])
    rw [List.length_take, Nat.min_eq_left (by omega)]
    refine Nat.le_antisymm ?_ (wd_length_le.2 ?_)
    · by_cases hk : l.length - 1 = 0
      · omega
      · have h3 : 2 ^ (32 * (l.length - 1 - 1)) ≤ val l / 2 ^ s := by
          rw [Nat.le_div_iff_mul_le (Nat.two_pow_pos s), ← Nat.pow_add]
          exact Nat.le_trans (Nat.pow_le_pow_right (by decide) (by omega)) h2
        have h4 : ¬ (wd (val l / 2 ^ s)).length ≤ l.length - 1 - 1 := by rw [wd_length_le]; omega
        omega
    · rw [← hv, h1]
      have := val_lt (hL.take (l.length - 1))
      rwa [List.length_take, Nat.min_eq_left (by omega)] at this
/-- Mag times two to the power of e, below nought if neg. -/
structure Dy where
  neg : Bool
  m : Nat
  e : Int
def Dy.zero : Dy := ⟨false, 0, 0⟩
/-- The form of a value; none: it may not be. -/
def formD (neg : Bool) (n : Nat) (e : Int) : Option Dy :=
  if n = 0 then some Dy.zero else if 1048576 - (tz n : Int) < e ∨ e < -1048576 - (tz n : Int) ∨ 8192 < (wd (n / 2 ^ tz n)).length then none else some ⟨neg, n / 2 ^ tz n, e + tz n⟩
theorem formD_zero (neg : Bool) (e : Int) : formD neg 0 e = some Dy.zero := by simp [formD]
theorem formD_none {neg : Bool} {n : Nat} {e : Int} (h0 : n ≠ 0) (h : 1048576 - (tz n : Int) < e ∨ e < -1048576 - (tz n : Int) ∨ 8192 < (wd (n / 2 ^ tz n)).length) : formD neg n e = none := by
  unfold formD; rw [if_neg h0, if_pos h]
theorem formD_some {neg : Bool} {n : Nat} {e : Int} (h0 : n ≠ 0) (h : ¬ (1048576 - (tz n : Int) < e ∨ e < -1048576 - (tz n : Int) ∨ 8192 < (wd (n / 2 ^ tz n)).length)) : formD neg n e = some ⟨neg, n / 2 ^ tz n, e + tz n⟩ := by
  unfold formD; rw [if_neg h0, if_neg h]
/-- A dyad in its form. -/
structure Dy.ok (d : Dy) : Prop where
  z : d.m = 0 → d = Dy.zero
  odd : d.m ≠ 0 → d.m % 2 = 1
  len : (wd d.m).length ≤ 8192
  e : -1048576 ≤ d.e ∧ d.e ≤ 1048576
theorem formD_ok {neg : Bool} {n : Nat} {e : Int} {d : Dy} (h : formD neg n e = some d) : d.ok := by
  unfold formD at h
  split at h
  · cases h; exact ⟨fun _ => rfl, fun h => absurd rfl h, by simp [Dy.zero, wd_zero], by simp [Dy.zero]⟩
  · split at h
    · cases h
    · rename_i h0 h1
      cases h
      obtain ⟨a, b⟩ := tz_spec h0
      refine ⟨fun hz => ?_, fun _ => a, by simpa using (by omega : (wd (n / 2 ^ tz n)).length ≤ 8192), by simp; omega⟩
      simp only at hz
      rw [hz] at a; simp at a
theorem formD_self {d : Dy} (h : d.ok) : formD d.neg d.m d.e = some d := by
  by_cases h0 : d.m = 0
  · rw [h.z h0]; rfl
  · have ho := h.odd h0
    have ht := tz_odd ho
    have he := h.e
    have hl := h.len
    rw [formD_some h0 (by rw [ht]; simp; omega), ht]
    simp
/-- The sum of two forms. -/
def addD (x y : Dy) : Option Dy :=
  if x.m = 0 then some y else if y.m = 0 then some x else
  if 8192 < (wd (x.m * 2 ^ (x.e - min x.e y.e).toNat)).length ∨ 8192 < (wd (y.m * 2 ^ (y.e - min x.e y.e).toNat)).length then none
  else if x.neg = y.neg then formD x.neg (x.m * 2 ^ (x.e - min x.e y.e).toNat + y.m * 2 ^ (y.e - min x.e y.e).toNat) (min x.e y.e)
  else if x.m * 2 ^ (x.e - min x.e y.e).toNat < y.m * 2 ^ (y.e - min x.e y.e).toNat then formD y.neg (y.m * 2 ^ (y.e - min x.e y.e).toNat - x.m * 2 ^ (x.e - min x.e y.e).toNat) (min x.e y.e)
  else formD x.neg (x.m * 2 ^ (x.e - min x.e y.e).toNat - y.m * 2 ^ (y.e - min x.e y.e).toNat) (min x.e y.e)
def mulD (x y : Dy) : Option Dy := if 8192 < (wd (x.m * y.m)).length then none else formD (x.neg != y.neg) (x.m * y.m) (x.e + y.e)
/-- Two values, both in their forms, put together. -/
def both2 (f : Dy → Dy → Option Dy) (a b : Option Dy) : Option Dy :=
  match a, b with
  | some x, some y => f x y
  | _, _ => none
theorem both2_none_left {f : Dy → Dy → Option Dy} {b : Option Dy} : both2 f none b = none := rfl
theorem both2_none_right {f : Dy → Dy → Option Dy} {a : Option Dy} : both2 f a none = none := by cases a <;> rfl
end Wd

/- Rounding to numbers of 64 bits: what it is, and that it is one. No condition. -/
namespace Wd

/-- The k-th number from nought on, in units of 2^-1074. -/
def nz (k : Nat) : Nat := if k < 4503599627370496 then k else (4503599627370496 + k % 4503599627370496) * 2 ^ (k / 4503599627370496 - 1)
theorem nz_form {n x : Nat} (h : n ≤ 9007199254740992) (hx : x = 0 ∨ 4503599627370496 ≤ n) : nz (n + x * 4503599627370496) = n * 2 ^ x := by
  unfold nz
  by_cases h1 : n + x * 4503599627370496 < 4503599627370496
  · rw [if_pos h1]
    have : x = 0 := by omega
    subst this; simp
  · rw [if_neg h1]
    by_cases h2 : n = 9007199254740992
    · subst h2
      rw [show (9007199254740992 + x * 4503599627370496) % 4503599627370496 = 0 by omega, show (9007199254740992 + x * 4503599627370496) / 4503599627370496 - 1 = x + 1 by omega, Nat.pow_succ]
      omega
    · rw [show (n + x * 4503599627370496) / 4503599627370496 - 1 = x by omega, show 4503599627370496 + (n + x * 4503599627370496) % 4503599627370496 = n by omega]
theorem nz_split (k : Nat) : ∃ n x, k = n + x * 4503599627370496 ∧ n < 9007199254740992 ∧ (x = 0 ∨ 4503599627370496 ≤ n) := by
  by_cases h : k < 4503599627370496
  · exact ⟨k, 0, by omega, by omega, .inl rfl⟩
  · exact ⟨4503599627370496 + k % 4503599627370496, k / 4503599627370496 - 1, by omega, by omega, .inr (by omega)⟩
theorem nz_succ {n x : Nat} (h : n < 9007199254740992) (hx : x = 0 ∨ 4503599627370496 ≤ n) : nz (n + x * 4503599627370496 + 1) = (n + 1) * 2 ^ x := by
  rw [show n + x * 4503599627370496 + 1 = (n + 1) + x * 4503599627370496 by omega]
  exact nz_form (by omega) (by omega)
theorem nz_lt_succ (k : Nat) : nz k < nz (k + 1) := by
  obtain ⟨n, x, rfl, h1, h2⟩ := nz_split k
  rw [nz_form (by omega) h2, nz_succ h1 h2]
  exact Nat.mul_lt_mul_of_pos_right (Nat.lt_succ_self n) (Nat.two_pow_pos x)
theorem nz_mono {a b : Nat} (h : a < b) : nz a < nz b := by
  induction b with
  | zero => omega
  | succ b ih =>
    by_cases e : a = b
    · subst e; exact nz_lt_succ a
    · exact Nat.lt_trans (ih (by omega)) (nz_lt_succ b)
theorem nz_le {a b : Nat} (h : a ≤ b) : nz a ≤ nz b := by
  rcases Nat.lt_or_eq_of_le h with h | rfl
  · exact Nat.le_of_lt (nz_mono h)
  · exact Nat.le_refl _
/-- Does a mode go on to the next number? (A: the value; M: the middle.) -/
def upM (mode : Int) (neg : Bool) (k A M : Nat) : Bool :=
  if mode = 0 then decide (M < A) || (decide (M = A) && decide (k % 2 = 1))
  else if mode = 2 then !neg
  else if mode = 3 then neg
  else if mode = 4 then decide (M ≤ A)
  else false
/-- r is the value A / B (in units of 2^-1075), rounded. -/
def IsNear (A B : Nat) (neg : Bool) (mode : Int) (r : Nat) : Prop :=
  ∃ k, k < 9218868437227405312 ∧ 2 * nz k * B ≤ A ∧ (A < 2 * nz (k + 1) * B ∨ k + 1 = 9218868437227405312) ∧
    r = if 2 * nz k * B = A then k else if upM mode neg k A ((nz k + nz (k + 1)) * B) then k + 1 else k
theorem IsNear.unique {A B : Nat} {neg : Bool} {mode : Int} {r r' : Nat} (hB : 0 < B) (h : IsNear A B neg mode r) (h' : IsNear A B neg mode r') : r = r' := by
  obtain ⟨k, k1, k2, k3, rfl⟩ := h
  obtain ⟨l, l1, l2, l3, rfl⟩ := h'
  have key : ∀ a b, 2 * nz a * B ≤ A → (A < 2 * nz (b + 1) * B ∨ b + 1 = 9218868437227405312) → a < 9218868437227405312 → a ≤ b := by
    intro a b h1 h2 h3
    rcases h2 with h2 | h2
    · apply Nat.le_of_not_lt
      intro hlt
      have := nz_le (show b + 1 ≤ a by omega)
      have h4 : 2 * nz (b + 1) * B ≤ 2 * nz a * B := Nat.mul_le_mul_right _ (by omega)
      omega
    · omega
  have e : k = l := Nat.le_antisymm (key k l k2 l3 k1) (key l k l2 k3 l1)
  subst e; rfl
theorem le_scale {a b u v S T : Nat} (hS : 0 < S) (hT : 0 < T) (ha : a * S = u * T) (hb : b * S = v * T) : (a ≤ b ↔ u ≤ v) ∧ (b ≤ a ↔ v ≤ u) := by
  have key : ∀ {a b u v : Nat}, a * S = u * T → b * S = v * T → (a ≤ b ↔ u ≤ v) := by
    intro a b u v ha hb
    constructor
    · intro h
      have h1 := Nat.mul_le_mul_right S h
      rw [ha, hb] at h1
      exact Nat.le_of_mul_le_mul_right h1 hT
    · intro h
      have h1 := Nat.mul_le_mul_right T h
      rw [← ha, ← hb] at h1
      exact Nat.le_of_mul_le_mul_right h1 hS
  exact ⟨key ha hb, key hb ha⟩
/-- A value that is told in two ways is rounded alike. -/
theorem IsNear.congr {A B A' B' : Nat} {neg : Bool} {mode : Int} {r : Nat} (hB : 0 < B) (hB' : 0 < B') (hv : A * B' = A' * B) (h : IsNear A B neg mode r) : IsNear A' B' neg mode r := by
  have cmp : ∀ c, (c * B ≤ A ↔ c * B' ≤ A') ∧ (A ≤ c * B ↔ A' ≤ c * B') := fun c =>
    le_scale (S := B') (T := B) hB' hB (by rw [Nat.mul_right_comm]) hv
  obtain ⟨k, h1, h2, h3, rfl⟩ := h
  have c1 := cmp (2 * nz k)
  have c2 := cmp (2 * nz (k + 1))
  have c3 := cmp (nz k + nz (k + 1))
  have q1 : 2 * nz k * B = A ↔ 2 * nz k * B' = A' := by omega
  have u : upM mode neg k A ((nz k + nz (k + 1)) * B) = upM mode neg k A' ((nz k + nz (k + 1)) * B') := by
    unfold upM
    generalize (nz k + nz (k + 1)) * B = M at *
    generalize (nz k + nz (k + 1)) * B' = M' at *
    have d1 : decide (M < A) = decide (M' < A') := decide_eq_decide.2 (by omega)
    have d2 : decide (M = A) = decide (M' = A') := decide_eq_decide.2 (by omega)
    have d3 : decide (M ≤ A) = decide (M' ≤ A') := decide_eq_decide.2 (by omega)
    rw [d1, d2, d3]
  refine ⟨k, h1, c1.1.1 h2, h3.imp (fun h => by omega) id, ?_⟩
  rw [u]
  by_cases hq : 2 * nz k * B = A
  · rw [if_pos hq, if_pos (q1.1 hq)]
  · rw [if_neg hq, if_neg (fun hh => hq (q1.2 hh))]
/-- A dyad's value in units of 2^-1075. -/
def dyA (m : Nat) (e : Int) : Nat := m * 2 ^ (e + 1075).toNat
def dyB (e : Int) : Nat := 2 ^ (-(e + 1075)).toNat
theorem dyB_pos (e : Int) : 0 < dyB e := Nat.two_pow_pos _
theorem dy_scale {m : Nat} {e : Int} {cut t : Nat} (h : e + 1075 = (t : Int) - (cut : Int)) : dyA m e * 2 ^ cut = m * 2 ^ t * dyB e := by
  unfold dyA dyB
  by_cases hc : cut ≤ t
  · rw [show (e + 1075).toNat = t - cut by omega, show (-(e + 1075)).toNat = 0 by omega, Nat.mul_assoc, ← Nat.pow_add, show t - cut + cut = t by omega, Nat.pow_zero, Nat.mul_one]
  · rw [show (e + 1075).toNat = 0 by omega, show (-(e + 1075)).toNat = cut - t by omega, Nat.pow_zero, Nat.mul_one, Nat.mul_assoc, ← Nat.pow_add, show t + (cut - t) = cut by omega]
/-- Of no bits. -/
theorem near_zero {B : Nat} (hB : 0 < B) (neg : Bool) (mode : Int) : IsNear 0 B neg mode 0 := by
  refine ⟨0, by omega, by simp [nz], .inl ?_, by simp [nz]⟩
  have : nz (0 + 1) = 1 := by decide
  rw [this]; omega
/-- A value that is a number. -/
theorem near_exact {m n x : Nat} {e : Int} {neg : Bool} {mode : Int} (h : n < 9007199254740992) (hx : x = 0 ∨ 4503599627370496 ≤ n) (hk : n + x * 4503599627370496 < 9218868437227405312) {c : Nat} (hn : n = m * 2 ^ c) (he : e + 1075 = (x : Int) + 1 + (c : Int)) : IsNear (dyA m e) (dyB e) neg mode (n + x * 4503599627370496) := by
  have hA : dyA m e = 2 * (n * 2 ^ x) * dyB e := by
    unfold dyA dyB
    rw [show (e + 1075).toNat = c + (x + 1) by omega, show (-(e + 1075)).toNat = 0 by omega, hn, Nat.pow_add, Nat.pow_succ, Nat.pow_zero, Nat.mul_one]
    simp only [Nat.mul_comm, Nat.mul_left_comm, Nat.mul_assoc]
  have h1 := nz_form (n := n) (x := x) (by omega) hx
  refine ⟨n + x * 4503599627370496, hk, by rw [h1, hA]; exact Nat.le_refl _, .inl ?_, ?_⟩
  · rw [nz_succ h hx, hA]
    have hp := Nat.mul_pos (Nat.two_pow_pos x) (dyB_pos e)
    have : 2 * ((n + 1) * 2 ^ x) * dyB e = 2 * (n * 2 ^ x) * dyB e + 2 * (2 ^ x * dyB e) := by
      rw [Nat.add_mul n 1, Nat.one_mul, Nat.mul_add, Nat.add_mul, Nat.mul_assoc 2 (2 ^ x)]
    omega
  · rw [h1, if_pos hA.symm]
/-- A value between two numbers. -/
theorem near_cut {m n x cut : Nat} {e : Int} {neg half : Bool} {mode : Int} {up : Bool} (h : n < 9007199254740992) (hx : x = 0 ∨ 4503599627370496 ≤ n) (hk : n + x * 4503599627370496 < 9218868437227405312) (hc : 0 < cut) (hm : m % 2 = 1) (hn : n = m / 2 ^ cut) (he : e + 1075 = (x : Int) + 1 - (cut : Int))
    (hh : half = m.testBit (cut - 1))
    (hup : up = if mode = 0 then (half && (!decide (cut = 1) || decide (n % 2 = 1))) else if mode = 4 then half else if mode = 2 then !neg else if mode = 3 then neg else false) :
    IsNear (dyA m e) (dyB e) neg mode (if up then n + 1 + x * 4503599627370496 else n + x * 4503599627370496) := by
  have hs := dy_scale (m := m) (e := e) (cut := cut) (t := x + 1) (by omega)
  have hB := dyB_pos e
  generalize hA : dyA m e = A at *
  generalize dyB e = B at *
  have hp2 := Nat.two_pow_pos cut
  have hp1 := Nat.two_pow_pos x
  have hcut : 2 ^ cut = 2 * 2 ^ (cut - 1) := by rw [show cut = cut - 1 + 1 by omega, Nat.pow_succ, Nat.mul_comm]; simp
  have hpc := Nat.two_pow_pos (cut - 1)
  -- the value by its quotient and what is left
  have hr : m = 2 ^ cut * n + m % 2 ^ cut := by rw [hn]; exact (Nat.div_add_mod m (2 ^ cut)).symm
  have hrl := Nat.mod_lt m hp2
  have hrodd : m % 2 ^ cut % 2 = 1 := by
    rw [hcut] at *
    rw [Nat.mod_mul_right_mod]; exact hm
  generalize hrr : m % 2 ^ cut = r at *
  have hbit : half = decide (2 ^ (cut - 1) ≤ r) := by
    rw [hh, Nat.testBit_eq_decide_div_mod_eq]
    refine decide_eq_decide.2 ?_
    have e1 : m / 2 ^ (cut - 1) = 2 * n + r / 2 ^ (cut - 1) := by
      conv => lhs; rw [hr, hcut, Nat.mul_comm 2, Nat.mul_assoc, Nat.mul_add_div hpc]
    rw [e1]
    have e2 : r / 2 ^ (cut - 1) < 2 := by rw [Nat.div_lt_iff_lt_mul hpc, ← hcut]; exact hrl
    have e3 := Nat.div_add_mod r (2 ^ (cut - 1))
    have e4 := Nat.mod_lt r hpc
    clear e1 hr hs hcut
    generalize r / 2 ^ (cut - 1) = d at *
    generalize r % 2 ^ (cut - 1) = f at *
    generalize 2 ^ (cut - 1) = C1 at *
    rcases (by omega : d = 0 ∨ d = 1) with q | q
    · subst q; rw [Nat.mul_zero] at e3; omega
    · subst q; rw [Nat.mul_one] at e3; omega
  have honly : (r = 2 ^ (cut - 1)) ↔ (2 ^ (cut - 1) ≤ r ∧ cut = 1) := by
    constructor
    · intro h1
      refine ⟨by omega, ?_⟩
      apply Classical.byContradiction
      intro h2
      have : 2 ^ (cut - 1) = 2 * 2 ^ (cut - 2) := by rw [show cut - 1 = cut - 2 + 1 by omega, Nat.pow_succ, Nat.mul_comm]
      rw [this] at h1
      generalize 2 ^ (cut - 2) = z at h1
      omega
    · rintro ⟨h1, rfl⟩
      simp at hrl h1 ⊢
      omega
  -- comparisons by the scale
  have f1 := nz_form (n := n) (x := x) (by omega) hx
  have f2 := nz_succ h hx
  have hpb := Nat.mul_pos hp1 hB
  have hq2 : A * 2 ^ cut = 2 * m * (2 ^ x * B) := by rw [hs, Nat.pow_succ]; simp only [Nat.mul_comm, Nat.mul_left_comm, Nat.mul_assoc]
  have g1 : 2 * nz (n + x * 4503599627370496) * B * 2 ^ cut = 2 * (2 ^ cut * n) * (2 ^ x * B) := by rw [f1]; simp only [Nat.mul_comm, Nat.mul_left_comm, Nat.mul_assoc]
  have g2 : 2 * nz (n + x * 4503599627370496 + 1) * B * 2 ^ cut = (2 * (2 ^ cut * n) + 2 * 2 ^ cut) * (2 ^ x * B) := by
    rw [f2, show 2 * (2 ^ cut * n) + 2 * 2 ^ cut = 2 * (2 ^ cut * (n + 1)) by rw [Nat.mul_add, Nat.mul_add, Nat.mul_one]]
    simp only [Nat.mul_comm, Nat.mul_left_comm, Nat.mul_assoc]
  have g3 : (nz (n + x * 4503599627370496) + nz (n + x * 4503599627370496 + 1)) * B * 2 ^ cut = (2 * (2 ^ cut * n) + 2 ^ cut) * (2 ^ x * B) := by
    rw [f1, f2, ← Nat.add_mul, show n + (n + 1) = 2 * n + 1 by omega, show 2 * (2 ^ cut * n) + 2 ^ cut = 2 ^ cut * (2 * n + 1) by rw [Nat.mul_add, Nat.mul_one, Nat.mul_left_comm]]
    simp only [Nat.mul_comm, Nat.mul_left_comm, Nat.mul_assoc]
  have c1 := le_scale hp2 hpb g1 hq2
  have c2 := le_scale hp2 hpb g2 hq2
  have c3 := le_scale hp2 hpb g3 hq2
  generalize hP : 2 * nz (n + x * 4503599627370496) * B = P at *
  generalize hQ : 2 * nz (n + x * 4503599627370496 + 1) * B = Q at *
  generalize hM : (nz (n + x * 4503599627370496) + nz (n + x * 4503599627370496 + 1)) * B = M at *
  generalize 2 ^ cut * n = y at *
  have hone : cut = 1 → r = 2 ^ (cut - 1) := fun e => by subst e; simp at hrl ⊢; omega
  generalize 2 ^ (cut - 1) = C1 at *
  generalize 2 ^ cut = C at *
  clear hh hn hs g1 g2 g3 f1 f2 hq2 hpb hp1
  have k1 : P < A := by omega
  have k2 : A < Q := by omega
  have k3 : M < A ↔ C1 < r := by omega
  have k4 : M = A ↔ C1 = r := by omega
  have k5 : M ≤ A ↔ C1 ≤ r := by omega
  refine ⟨n + x * 4503599627370496, hk, by rw [hP]; omega, .inl (by rw [hQ]; exact k2), ?_⟩
  rw [hP, hM, if_neg (show ¬ P = A by omega)]
  have hu : up = upM mode neg (n + x * 4503599627370496) A M := by
    rw [hup]
    unfold upM
    rw [decide_eq_decide.2 k3, decide_eq_decide.2 k4, decide_eq_decide.2 k5, hbit]
    by_cases m0 : mode = 0
    · rw [if_pos m0, if_pos m0]
      have e4 : (n + x * 4503599627370496) % 2 = n % 2 := by omega
      rw [e4]
      by_cases a1 : C1 < r
      · have a2 : ¬ cut = 1 := fun e => by have := hone e; omega
        rw [decide_eq_true (Nat.le_of_lt a1), decide_eq_true a1, decide_eq_false a2]; simp
      · by_cases a2 : C1 = r
        · have a3 := (honly.1 a2.symm).2
          rw [decide_eq_true (Nat.le_of_eq a2), decide_eq_false a1, decide_eq_true a2, decide_eq_true a3]; simp
        · rw [decide_eq_false (show ¬ C1 ≤ r by omega), decide_eq_false a1, decide_eq_false a2]; simp
    · rw [if_neg m0, if_neg m0]
      by_cases m4 : mode = 4
      · rw [if_pos m4, if_neg (by omega), if_neg (by omega), if_pos m4]
      · rw [if_neg m4, if_neg m4]
  rw [hu]
  split <;> omega
/-- A value that is too great. -/
theorem near_beyond {m : Nat} {e : Int} {neg : Bool} {mode : Int} (h0 : m ≠ 0) (hb : 1024 < (bl m : Int) + e) (hm : 0 ≤ mode ∧ mode ≤ 4) :
    IsNear (dyA m e) (dyB e) neg mode (if mode = 1 ∨ (mode = 2 ∧ neg = true) ∨ (mode = 3 ∧ neg = false) then 9218868437227405311 else 9218868437227405312) := by
  have hbp := bl_pos h0
  obtain ⟨t, ht⟩ : ∃ t : Nat, e + 1075 = (t : Int) - ((bl m - 1 : Nat) : Int) := ⟨(e + 1075 + ((bl m - 1 : Nat) : Int)).toNat, by omega⟩
  have hs := dy_scale (m := m) ht
  have hB := dyB_pos e
  obtain ⟨T, hT⟩ : ∃ T : Nat, T = 2046 := ⟨_, rfl⟩
  have hE : nz 9218868437227405312 = 4503599627370496 * 2 ^ T := by
    have := nz_form (n := 4503599627370496) (x := T) (by omega) (.inr (by omega))
    rwa [show 4503599627370496 + T * 4503599627370496 = 9218868437227405312 by omega] at this
  have hk : 9218868437227405311 + 1 = 9218868437227405312 := by omega
  have hlt : nz 9218868437227405311 < nz 9218868437227405312 := nz_mono (by omega)
  have hA : 2 * nz 9218868437227405312 * dyB e ≤ dyA m e := by
    have h1 : 2 ^ (bl m - 1) * 2 ^ (52 + T + 1) ≤ m * 2 ^ t := Nat.mul_le_mul (bl_low h0) (Nat.pow_le_pow_right (by decide) (by omega))
    have h2 := Nat.mul_le_mul_right (dyB e) h1
    rw [← hs] at h2
    have h3 : 2 * nz 9218868437227405312 = 2 ^ (52 + T + 1) := by
      rw [hE, show (4503599627370496 : Nat) = 2 ^ 52 by decide, ← Nat.pow_add, Nat.pow_succ' (n := 52 + T)]
    rw [h3]
    have h4 : 2 ^ (52 + T + 1) * dyB e * 2 ^ (bl m - 1) ≤ dyA m e * 2 ^ (bl m - 1) := by
      rw [Nat.mul_assoc, Nat.mul_comm (dyB e), ← Nat.mul_assoc, Nat.mul_comm (2 ^ (52 + T + 1))]; exact h2
    exact Nat.le_of_mul_le_mul_right h4 (Nat.two_pow_pos _)
  generalize dyA m e = A at *
  generalize dyB e = B at *
  have h1 : 2 * nz 9218868437227405311 * B < A := Nat.lt_of_lt_of_le (Nat.mul_lt_mul_of_pos_right (by omega) hB) hA
  have h2 : (nz 9218868437227405311 + nz (9218868437227405311 + 1)) * B < A := Nat.lt_of_lt_of_le (Nat.mul_lt_mul_of_pos_right (by rw [hk]; omega) hB) hA
  refine ⟨9218868437227405311, by omega, Nat.le_of_lt h1, .inr hk, ?_⟩
  rw [if_neg (Nat.ne_of_lt h1)]
  generalize (nz 9218868437227405311 + nz (9218868437227405311 + 1)) * B = M at *
  unfold upM
  rcases (by omega : mode = 0 ∨ mode = 1 ∨ mode = 2 ∨ mode = 3 ∨ mode = 4) with rfl | rfl | rfl | rfl | rfl
  · simp [h2]
  · simp
  · cases neg <;> simp
  · cases neg <;> simp
  · simp [Nat.le_of_lt h2]
end Wd

/- Ratios: their digits, and that a sticky bit rounds them. No condition. -/
namespace Wd
set_option exponentiation.threshold 5000

/-- A sum of neighbours, or twice a number: few digits. -/
def Few (c : Nat) : Prop := ∃ n x, c = n * 2 ^ x ∧ n ≤ 2 ^ 55
theorem few_twice (k : Nat) : Few (2 * nz k) := by
  obtain ⟨n, x, rfl, h1, h2⟩ := nz_split k
  rw [nz_form (by omega) h2]
  exact ⟨2 * n, x, by rw [Nat.mul_assoc], by omega⟩
theorem few_mid (k : Nat) : Few (nz k + nz (k + 1)) := by
  obtain ⟨n, x, rfl, h1, h2⟩ := nz_split k
  rw [nz_form (by omega) h2, nz_succ h1 h2]
  exact ⟨n + (n + 1), x, by rw [← Nat.add_mul], by omega⟩
theorem few_grid {c sz : Nat} {e : Int} (h : Few c) (hs : 2 ^ 60 ≤ sz) : c * dyB e < 2 * sz * 2 ^ (e + 1075).toNat ∨ ∃ t, c * dyB e = 2 * t * 2 ^ (e + 1075).toNat := by
  obtain ⟨n, x, rfl, hn⟩ := h
  unfold dyB
  by_cases he : e + 1075 ≤ 0
  · rw [show (e + 1075).toNat = 0 by omega]
    generalize (-(e + 1075)).toNat = h
    rw [Nat.mul_assoc, ← Nat.pow_add]
    by_cases hx : x + h = 0
    · rw [hx]; left; simp; omega
    · right
      refine ⟨n * 2 ^ (x + h - 1), ?_⟩
      obtain ⟨y, hy⟩ : ∃ y, x + h = y + 1 := ⟨x + h - 1, by omega⟩
      rw [hy, Nat.add_sub_cancel, Nat.pow_succ]
      simp only [Nat.pow_zero, Nat.mul_one]
      ac_rfl
  · rw [show (-(e + 1075)).toNat = 0 by omega]
    generalize (e + 1075).toNat = h
    rw [Nat.pow_zero, Nat.mul_one]
    by_cases hx : h + 1 ≤ x
    · right
      obtain ⟨y, rfl⟩ : ∃ y, x = y + 1 + h := ⟨x - 1 - h, by omega⟩
      refine ⟨n * 2 ^ y, ?_⟩
      rw [Nat.pow_add, Nat.pow_succ]
      ac_rfl
    · left
      have h1 : 2 ^ x ≤ 2 ^ h := Nat.pow_le_pow_right (by decide) (by omega)
      have h2 := Nat.two_pow_pos h
      calc n * 2 ^ x ≤ 2 ^ 55 * 2 ^ h := Nat.mul_le_mul hn h1
        _ < 2 * sz * 2 ^ h := Nat.mul_lt_mul_of_pos_right (by omega) h2
/-- The comparisons that rounding asks come out alike with a sticky bit. -/
theorem sticky_cmp {c sz rem q s : Nat} {e : Int} (h : Few c) (hs : 2 ^ 60 ≤ sz) (hr : rem < q) (hst : s = if rem = 0 then 0 else 1) :
    (c * (q * dyB e) ≤ dyA (2 * (sz * q + rem)) e ↔ c * dyB e ≤ dyA (2 * sz + s) e) ∧ (dyA (2 * (sz * q + rem)) e ≤ c * (q * dyB e) ↔ dyA (2 * sz + s) e ≤ c * dyB e) := by
  have hg := few_grid (e := e) h hs
  have hH := Nat.two_pow_pos (e + 1075).toNat
  unfold dyA
  have e1 : c * (q * dyB e) = c * dyB e * q := by ac_rfl
  rw [e1]
  generalize c * dyB e = X at hg ⊢
  generalize 2 ^ (e + 1075).toNat = H at hg hH ⊢
  rcases hg with hg | ⟨t, rfl⟩
  · have h1 : X * q < 2 * sz * H * q := Nat.mul_lt_mul_of_pos_right hg (by omega)
    have h2 : 2 * (sz * q + rem) * H = 2 * sz * H * q + 2 * rem * H := by
      rw [Nat.mul_add, Nat.add_mul]; congr 1; ac_rfl
    have h3 : (2 * sz + s) * H = 2 * sz * H + s * H := Nat.add_mul ..
    rw [h2, h3]
    constructor <;> constructor <;> intro h <;> omega
  · have key : ∀ a b : Nat, (2 * a * H ≤ 2 * b * H ↔ a ≤ b) := fun a b => by
      constructor
      · intro h
        have := Nat.le_of_mul_le_mul_right h hH
        omega
      · intro h; exact Nat.mul_le_mul_right _ (by omega)
    have e2 : 2 * t * H * q = 2 * (t * q) * H := by ac_rfl
    rw [e2, key, key]
    have h4 : t * q ≤ sz * q + rem ↔ t ≤ sz := by
      constructor
      · intro h
        apply Nat.le_of_not_lt
        intro hlt
        have := Nat.mul_le_mul_right q (show sz + 1 ≤ t from hlt)
        rw [Nat.add_mul, Nat.one_mul] at this
        omega
      · intro h
        have := Nat.mul_le_mul_right q h
        omega
    have h5 : sz * q + rem ≤ t * q ↔ (sz < t ∨ (sz = t ∧ rem = 0)) := by
      constructor
      · intro h
        rcases Nat.lt_trichotomy sz t with h6 | h6 | h6
        · exact .inl h6
        · subst h6; exact .inr ⟨rfl, by omega⟩
        · have := Nat.mul_le_mul_right q (show t + 1 ≤ sz from h6)
          rw [Nat.add_mul, Nat.one_mul] at this
          omega
      · rintro (h6 | ⟨rfl, h6⟩)
        · have := Nat.mul_le_mul_right q (show sz + 1 ≤ t from h6)
          rw [Nat.add_mul, Nat.one_mul] at this
          omega
        · omega
    rw [h4, h5]
    have h6 : 2 * t * H ≤ (2 * sz + s) * H ↔ 2 * t ≤ 2 * sz + s := ⟨fun h => Nat.le_of_mul_le_mul_right h hH, fun h => Nat.mul_le_mul_right _ h⟩
    have h7 : (2 * sz + s) * H ≤ 2 * t * H ↔ 2 * sz + s ≤ 2 * t := ⟨fun h => Nat.le_of_mul_le_mul_right h hH, fun h => Nat.mul_le_mul_right _ h⟩
    rw [h6, h7, hst]
    split <;> omega
/-- Values that rounding cannot tell apart. -/
theorem IsNear.alike {A B A' B' : Nat} {neg : Bool} {mode : Int} {r : Nat} (cmp : ∀ c, Few c → (c * B ≤ A ↔ c * B' ≤ A') ∧ (A ≤ c * B ↔ A' ≤ c * B')) (h : IsNear A B neg mode r) : IsNear A' B' neg mode r := by
  obtain ⟨k, h1, h2, h3, rfl⟩ := h
  have c1 := cmp _ (few_twice k)
  have c2 := cmp _ (few_twice (k + 1))
  have c3 := cmp _ (few_mid k)
  have q1 : 2 * nz k * B = A ↔ 2 * nz k * B' = A' := by omega
  have u : upM mode neg k A ((nz k + nz (k + 1)) * B) = upM mode neg k A' ((nz k + nz (k + 1)) * B') := by
    unfold upM
    generalize (nz k + nz (k + 1)) * B = M at *
    generalize (nz k + nz (k + 1)) * B' = M' at *
    have d1 : decide (M < A) = decide (M' < A') := decide_eq_decide.2 (by omega)
    have d2 : decide (M = A) = decide (M' = A') := decide_eq_decide.2 (by omega)
    have d3 : decide (M ≤ A) = decide (M' ≤ A') := decide_eq_decide.2 (by omega)
    rw [d1, d2, d3]
  refine ⟨k, h1, c1.1.1 h2, h3.imp (fun h => by omega) id, ?_⟩
  rw [u]
  by_cases hq : 2 * nz k * B = A
  · rw [if_pos hq, if_pos (q1.1 hq)]
  · rw [if_neg hq, if_neg (fun hh => hq (q1.2 hh))]
theorem near_sticky {sz rem q : Nat} {e : Int} {neg : Bool} {mode : Int} {r : Nat} (hs : 2 ^ 60 ≤ sz) (hr : rem < q) (h : IsNear (dyA (2 * sz + if rem = 0 then 0 else 1) e) (dyB e) neg mode r) :
    IsNear (dyA (2 * (sz * q + rem)) e) (q * dyB e) neg mode r :=
  h.alike fun c hc => by
    have := sticky_cmp (c := c) (e := e) hc hs hr rfl
    exact ⟨this.1.symm, this.2.symm⟩
/-- A value that is too great, told as any ratio. -/
theorem near_great {A B : Nat} {neg : Bool} {mode : Int} (hB : 0 < B) (hA : 2 * nz 9218868437227405312 * B ≤ A) (hm : 0 ≤ mode ∧ mode ≤ 4) :
    IsNear A B neg mode (if mode = 1 ∨ (mode = 2 ∧ neg = true) ∨ (mode = 3 ∧ neg = false) then 9218868437227405311 else 9218868437227405312) := by
  have hk : 9218868437227405311 + 1 = 9218868437227405312 := by omega
  have hlt : nz 9218868437227405311 < nz 9218868437227405312 := nz_mono (by omega)
  have h1 : 2 * nz 9218868437227405311 * B < A := Nat.lt_of_lt_of_le (Nat.mul_lt_mul_of_pos_right (by omega) hB) hA
  have h2 : (nz 9218868437227405311 + nz (9218868437227405311 + 1)) * B < A := Nat.lt_of_lt_of_le (Nat.mul_lt_mul_of_pos_right (by rw [hk]; omega) hB) hA
  refine ⟨9218868437227405311, by omega, Nat.le_of_lt h1, .inr hk, ?_⟩
  rw [if_neg (Nat.ne_of_lt h1)]
  generalize (nz 9218868437227405311 + nz (9218868437227405311 + 1)) * B = M at *
  unfold upM
  rcases (by omega : mode = 0 ∨ mode = 1 ∨ mode = 2 ∨ mode = 3 ∨ mode = 4) with rfl | rfl | rfl | rfl | rfl
  · simp [h2]
  · simp
  · cases neg <;> simp
  · cases neg <;> simp
  · simp [Nat.le_of_lt h2]
/-- Values that are less than half of the least number. -/
theorem near_tiny {A B A' B' : Nat} {neg : Bool} {mode : Int} {r : Nat} (hA : 0 < A) (h : A < B) (hA' : 0 < A') (h' : A' < B') (hn : IsNear A B neg mode r) : IsNear A' B' neg mode r := by
  have key : ∀ {A B : Nat}, 0 < A → A < B → IsNear A B neg mode (if mode = 2 ∧ neg = false ∨ mode = 3 ∧ neg = true then 1 else 0) := by
    intro A B hA h
    have z0 : nz 0 = 0 := by decide
    have z1 : nz (0 + 1) = 1 := by decide
    refine ⟨0, by omega, by rw [z0]; omega, .inl (by rw [z1]; omega), ?_⟩
    rw [z0, z1, if_neg (show ¬ 2 * 0 * B = A by omega)]
    unfold upM
    by_cases m0 : mode = 0
    · subst m0; simp; omega
    by_cases m2 : mode = 2
    · subst m2; cases neg <;> simp
    by_cases m3 : mode = 3
    · subst m3; cases neg <;> simp
    by_cases m4 : mode = 4
    · subst m4; simp; omega
    · rw [if_neg m0, if_neg m2, if_neg m3, if_neg m4, if_neg (by omega)]; simp
  rw [hn.unique (by omega) (key hA h)]
  exact key hA' h'
theorem nz_end : 2 * nz 9218868437227405312 = 2 ^ 2099 := by
  have := nz_form (n := 4503599627370496) (x := 2046) (by omega) (.inr (by omega))
  rw [show 4503599627370496 + 2046 * 4503599627370496 = 9218868437227405312 by omega] at this
  rw [this, show (4503599627370496 : Nat) = 2 ^ 52 by decide, ← Nat.pow_add, ← Nat.pow_succ']
/-- The size of a ratio's first digits, by their value. -/
structure DigI (A0 B i size a : Nat) : Prop where
  z : i = 0 → size = 0 ∧ a = A0
  s : 0 < i → A0 * 2 ^ (i - 1) = size * B + a ∧ a < B
  w : size < 2 ^ i
theorem DigI.zero (A0 B : Nat) : DigI A0 B 0 0 A0 := ⟨fun _ => ⟨rfl, rfl⟩, fun h => absurd h (by omega), by simp⟩
theorem DigI.step {A0 B i size a a' : Nat} (h : DigI A0 B i size a) (h2 : A0 < 2 * B) (ha : a' = if 0 < i then a * 2 ^ 1 else a) : (B ≤ a' → DigI A0 B (i + 1) (size * 2 ^ 1 + 1) (a' - B)) ∧ (a' < B → DigI A0 B (i + 1) (size * 2 ^ 1) a') := by
  obtain ⟨hz, hs, hw⟩ := h
  have hlin : A0 * 2 ^ (i + 1 - 1) = size * 2 ^ 1 * B + a' ∧ a' < 2 * B := by
    by_cases h0 : i = 0
    · subst h0
      obtain ⟨rfl, rfl⟩ := hz rfl
      rw [if_neg (by omega)] at ha
      subst ha
      simp
      omega
    · obtain ⟨h3, h4⟩ := hs (by omega)
      rw [if_pos (by omega)] at ha
      obtain ⟨j, rfl⟩ : ∃ j, i = j + 1 := ⟨i - 1, by omega⟩
      simp only [Nat.add_sub_cancel] at h3 ⊢
      rw [Nat.pow_succ, ← Nat.mul_assoc, h3, ha, Nat.add_mul]
      refine ⟨by simp only [Nat.pow_one]; rw [Nat.mul_right_comm], by omega⟩
  have hp : 2 ^ (i + 1) = 2 ^ i * 2 := Nat.pow_succ ..
  refine ⟨fun hb => ⟨fun h => by omega, fun _ => ⟨?_, by omega⟩, by omega⟩, fun hb => ⟨fun h => by omega, fun _ => ⟨hlin.1, hb⟩, by omega⟩⟩
  rw [hlin.1, Nat.add_mul, Nat.one_mul]
  omega
/-- A ratio's value: m through q, times two to the power of e. -/
theorem digits_low {m q : Nat} (hm : m ≠ 0) (hq : q ≠ 0) {by_ : Int} (hb : by_ = (bl m : Int) - (bl q : Int)) :
    m * 2 ^ (max 0 (-by_)).toNat < 2 * (q * 2 ^ (max 0 by_).toNat) ∧ q * 2 ^ (max 0 by_).toNat < 2 * (m * 2 ^ (max 0 (-by_)).toNat) := by
  have h1 := bl_mul_pow hm (max 0 (-by_)).toNat
  have h2 := bl_mul_pow hq (max 0 by_).toNat
  have h3 : bl (m * 2 ^ (max 0 (-by_)).toNat) = bl (q * 2 ^ (max 0 by_).toNat) := by
    rw [h1, h2]
    have := bl_pos hm; have := bl_pos hq
    omega
  have n1 : m * 2 ^ (max 0 (-by_)).toNat ≠ 0 := Nat.pos_iff_ne_zero.1 (Nat.mul_pos (by omega) (Nat.two_pow_pos _))
  have n2 : q * 2 ^ (max 0 by_).toNat ≠ 0 := Nat.pos_iff_ne_zero.1 (Nat.mul_pos (by omega) (Nat.two_pow_pos _))
  generalize m * 2 ^ (max 0 (-by_)).toNat = x at *
  generalize q * 2 ^ (max 0 by_).toNat = y at *
  have l1 := bl_low n1
  have l2 := bl_low n2
  have u1 := bl_lt x
  have u2 := bl_lt y
  have p1 := bl_pos n1
  rw [← h3] at u2 l2
  have : 2 ^ bl x = 2 ^ (bl x - 1) * 2 := by rw [← Nat.pow_succ]; congr 1; omega
  omega
theorem toNat_max_sub (b : Int) : ((max 0 b).toNat : Int) - ((max 0 (-b)).toNat : Int) = b := by omega
theorem dig_size {A0 B i size a : Nat} (h : DigI A0 B i size a) (hi : 2 ≤ i) (hl : B < 2 * A0) : 2 ^ (i - 2) ≤ size := by
  obtain ⟨h3, h4⟩ := h.s (by omega)
  apply Nat.le_of_not_lt
  intro hlt
  obtain ⟨j, rfl⟩ : ∃ j, i = j + 2 := ⟨i - 2, by omega⟩
  simp only [Nat.add_sub_cancel] at hlt
  rw [show j + 2 - 1 = j + 1 by omega, Nat.pow_succ] at h3
  have h5 : (size + 1) * B ≤ 2 ^ j * B := Nat.mul_le_mul_right _ hlt
  rw [Nat.add_mul, Nat.one_mul] at h5
  have h6 : B * 2 ^ j < 2 * A0 * 2 ^ j := Nat.mul_lt_mul_of_pos_right hl (Nat.two_pow_pos j)
  have h7 : A0 * (2 ^ j * 2) = 2 * A0 * 2 ^ j := by ac_rfl
  have h8 : 2 ^ j * B = B * 2 ^ j := Nat.mul_comm ..
  omega
/-- What Quot works out is the ratio, rounded. -/
theorem near_quot {m q size a : Nat} {E by_ e : Int} {neg : Bool} {mode : Int} {r : Nat} (hm : m ≠ 0) (hq : q ≠ 0) (hb : by_ = (bl m : Int) - (bl q : Int)) (hmode : 0 ≤ mode ∧ mode ≤ 4)
    (hd : DigI (m * 2 ^ (max 0 (-by_)).toNat) (q * 2 ^ (max 0 by_).toNat) 82 size a) (he : e = max (-3000) (min 3000 (by_ - 81 + E - 1)))
    (h : IsNear (dyA (2 * size + if a = 0 then 0 else 1) e) (dyB e) neg mode r) : IsNear (dyA m E) (q * dyB E) neg mode r := by
  obtain ⟨l1, l2⟩ := digits_low hm hq hb
  have hsz := dig_size hd (by omega) l2
  have hw := hd.w
  obtain ⟨h3, h4⟩ := hd.s (by omega)
  have hts := toNat_max_sub by_
  generalize hx : (max 0 (-by_)).toNat = x at *
  generalize hy : (max 0 by_).toNat = y at *
  rw [show 82 - 1 = 81 by omega] at h3
  have hqp : 0 < q := by omega
  -- the ratio, by its digits
  obtain ⟨e0, he0⟩ : ∃ e0 : Int, e0 = by_ - 81 + E - 1 := ⟨_, rfl⟩
  have hval : dyA m E * (q * 2 ^ y * dyB e0) = dyA (2 * (size * (q * 2 ^ y) + a)) e0 * (q * dyB E) := by
    rw [← h3]
    unfold dyA dyB
    have hexp : y + (E + 1075).toNat + (-(e0 + 1075)).toNat = x + 82 + (e0 + 1075).toNat + (-(E + 1075)).toNat := by omega
    calc m * 2 ^ (E + 1075).toNat * (q * 2 ^ y * 2 ^ (-(e0 + 1075)).toNat) = m * q * (2 ^ y * 2 ^ (E + 1075).toNat * 2 ^ (-(e0 + 1075)).toNat) := by ac_rfl
      _ = m * q * (2 ^ x * 2 ^ 82 * 2 ^ (e0 + 1075).toNat * 2 ^ (-(E + 1075)).toNat) := by rw [← Nat.pow_add, ← Nat.pow_add, hexp, Nat.pow_add, Nat.pow_add, Nat.pow_add]
      _ = _ := by rw [show (2 : Nat) ^ 82 = 2 * 2 ^ 81 by rw [← Nat.pow_succ']]; ac_rfl
  have hB0 : 0 < q * 2 ^ y * dyB e0 := Nat.mul_pos (Nat.mul_pos hqp (Nat.two_pow_pos _)) (dyB_pos _)
  have hBE : 0 < q * dyB E := Nat.mul_pos hqp (dyB_pos _)
  by_cases c1 : e = e0
  · subst c1
    have h5 := near_sticky (q := q * 2 ^ y) (rem := a) (Nat.le_trans (Nat.pow_le_pow_right (by decide) (by decide)) hsz) h4 h
    exact h5.congr hB0 hBE hval.symm
  by_cases c2 : 3000 < e0
  · -- too great, both
    have e3 : e = 3000 := by omega
    subst e3
    have hbig : ∀ {M : Nat}, 2 ^ 80 ≤ M → 2 * nz 9218868437227405312 * dyB 3000 ≤ dyA M 3000 := by
      intro M hM
      rw [nz_end]
      unfold dyA dyB
      rw [show ((3000 : Int) + 1075).toNat = 4075 by decide, show (-((3000 : Int) + 1075)).toNat = 0 by decide, Nat.pow_zero, Nat.mul_one]
      exact Nat.le_trans (Nat.pow_le_pow_right (by decide) (by omega : 2099 ≤ 80 + 4075)) (by rw [Nat.pow_add]; exact Nat.mul_le_mul_right _ hM)
    have h5 := near_great (neg := neg) (dyB_pos 3000) (hbig (M := 2 * size + if a = 0 then 0 else 1) (by omega)) hmode
    rw [h.unique (dyB_pos _) h5]
    refine near_great hBE ?_ hmode
    -- the ratio itself
    have h6 : 2 * nz 9218868437227405312 * (q * 2 ^ y * dyB e0) ≤ dyA (2 * (size * (q * 2 ^ y) + a)) e0 := by
      rw [nz_end]
      unfold dyA dyB
      rw [show (-(e0 + 1075)).toNat = 0 by omega, Nat.pow_zero, Nat.mul_one]
      have h7 : 2 ^ 2099 ≤ 2 * 2 ^ 80 * 2 ^ (e0 + 1075).toNat := by
        rw [← Nat.pow_succ', ← Nat.pow_add]; exact Nat.pow_le_pow_right (by decide) (by omega)
      calc 2 ^ 2099 * (q * 2 ^ y) ≤ 2 * 2 ^ 80 * 2 ^ (e0 + 1075).toNat * (q * 2 ^ y) := Nat.mul_le_mul_right _ h7
        _ = 2 * (2 ^ 80 * (q * 2 ^ y)) * 2 ^ (e0 + 1075).toNat := by ac_rfl
        _ ≤ 2 * (size * (q * 2 ^ y) + a) * 2 ^ (e0 + 1075).toNat := by
          refine Nat.mul_le_mul_right _ (Nat.mul_le_mul_left _ ?_)
          exact Nat.le_trans (Nat.mul_le_mul_right _ hsz) (Nat.le_add_right _ _)
    have h8 := Nat.mul_le_mul_right (q * dyB E) h6
    rw [← hval] at h8
    have h9 : 2 * nz 9218868437227405312 * (q * dyB E) * (q * 2 ^ y * dyB e0) ≤ dyA m E * (q * 2 ^ y * dyB e0) := by
      refine Nat.le_trans (Nat.le_of_eq ?_) h8
      ac_rfl
    exact Nat.le_of_mul_le_mul_right h9 hB0
  · -- tiny, both
    have e3 : e = -3000 := by omega
    subst e3
    have hb1 : (dyB (-3000)) = 2 ^ 1925 := by unfold dyB; rw [show (-((-3000 : Int) + 1075)).toNat = 1925 by decide]
    have ha1 : ∀ M, dyA M (-3000) = M := fun M => by unfold dyA; rw [show ((-3000 : Int) + 1075).toNat = 0 by decide]; simp
    rw [ha1] at h
    have hlt : 2 * size + (if a = 0 then 0 else 1) < 2 ^ 84 := by split <;> omega
    refine near_tiny (by omega) (Nat.lt_of_lt_of_le hlt (by rw [hb1]; exact Nat.pow_le_pow_right (by decide) (by decide))) (Nat.mul_pos (by omega) (Nat.two_pow_pos _)) ?_ h
    have h6 : dyA (2 * (size * (q * 2 ^ y) + a)) e0 < q * 2 ^ y * dyB e0 := by
      unfold dyA dyB
      rw [show (e0 + 1075).toNat = 0 by omega, Nat.pow_zero, Nat.mul_one]
      have h7 : 2 ^ 84 ≤ 2 ^ (-(e0 + 1075)).toNat := Nat.pow_le_pow_right (by decide) (by omega)
      have hQ : 0 < q * 2 ^ y := Nat.mul_pos hqp (Nat.two_pow_pos _)
      generalize q * 2 ^ y = Q at *
      have h8 : (size + 1) * Q ≤ 2 ^ 82 * Q := Nat.mul_le_mul_right _ hw
      rw [Nat.add_mul, Nat.one_mul] at h8
      have h9 : Q * 2 ^ 84 ≤ Q * 2 ^ (-(e0 + 1075)).toNat := Nat.mul_le_mul_left _ h7
      have h10 : Q * 2 ^ 84 = 4 * (2 ^ 82 * Q) := by rw [show (2 : Nat) ^ 84 = 4 * 2 ^ 82 by rw [show (4 : Nat) = 2 ^ 2 from rfl, ← Nat.pow_add]]; ac_rfl
      omega
    have h8 := Nat.mul_lt_mul_of_pos_right h6 hBE
    rw [← hval] at h8
    have h9 : dyA m E * (q * 2 ^ y * dyB e0) < q * dyB E * (q * 2 ^ y * dyB e0) := by
      refine Nat.lt_of_lt_of_eq h8 ?_
      ac_rfl
    exact Nat.lt_of_mul_lt_mul_right h9
end Wd

/- Package dyad: forms. No condition. -/
section
open Go Sx Wd

theorem lower_spec (v : Value) (l : List Nat) (s : Nat) (w : World) (h : NU w v l) (hs : s < 32) (hp : 0 < l.length) (hlast : l.getD (l.length - 1) 0 ≠ 0) : Ret Tryz.prog 226 [v, .int .i64 (s : Int)] w fun u w' => NU w' u (wd (val l / 2 ^ s)) ∧ Chg [] w w' := by
  obtain ⟨⟨al, cl, rfl, hcapl, hrl⟩, hWl, hll⟩ := h;have hch : Chg [] w w := Chg.refl _ _;refine zE2 Tryz.func226 rfl ?_;refine Sr fun _ kh1 => za rfl (zz (kh1 (Sr fun _ kh3 => zm rfl (zn rfl ?_))));refine WL.makeU ((l).length) ((l).length) rfl rfl (by omega) (by omega) (by omega) (by omega) (by omega) rfl fun b11 wm11 hb11 hcm11 hge11 => ?_;have hgehch11 := Nat.le_trans hch.size hge11;have hch := hch.trans hcm11;refine za rfl (zz (kh3 (zc fun _ kh5 => Sr fun _ kh6 => zm rfl (zn rfl (zm rfl (zz (kh6 ?_)))))));refine CW.block ?_;refine CW.loop (S := fun g : Nat × List Nat => [(0, .slice al l.length cl), (1, .int .i64 (s : Int)), (5, .slice (some ⟨b11, 0, none⟩) l.length l.length), (12, .slice al l.length cl), (13, .int .i64 (l.length : Int)), (14, .int .i64 (g.1 : Int))]) (Inv := KD l s w b11) (mu := fun g => l.length - g.1) ((0, List.replicate l.length 0)) ?_ ?_ ?_
  · exact ⟨DownI.zero l _ s (by simp) (W_replicate _), hb11, hch⟩
  · exact SLp
  · rintro ⟨i, L⟩ wr ⟨hAd, hb11, hch⟩;dsimp only at hAd hb11 hch;have hiX := hAd.le;have hLl := hAd.len;have hWL := hAd.w;refine Sr fun _ kh8 => ?_;refine WL.ev (Ev.lss rfl rfl) rfl ?_;refine zz (kh8 (zc fun _ kh10 => ?_));refine zy rfl ?_ ?_<;>intro hc1<;>try simp only [qs] at hc1
    · refine zkk ?_
      refine kh10 (zc fun _ kh11 => ?_);refine CW.block ?_;refine Sr fun _ kh12 => zm rfl ?_;refine WL.ev (Ev.ixR (i) rfl rfl (hrl.keep0 hch) (by omega) (by omega) (by simp; omega)) rfl ?_;refine WL.ev (Ev.load rfl rfl ((hrl.keep0 hch).u32 (by first | omega | (simp; omega)))) rfl ?_;have hw18 := hWl.getD (i);refine za rfl (za rfl (zz (kh12 (Sr fun _ kh14 => zm rfl (zm rfl (zm rfl (zm rfl ?_)))))));refine WL.ev (Ev.shrU rfl rfl (by simp only [IntKind.bits]; omega)) rfl ?_;have hdl : l.getD i 0 / 2 ^ s ≤ l.getD i 0 := Nat.div_le_self _ _;refine WL.ev (Ev.ixB (i) rfl rfl (by omega) (by omega)) rfl ?_;refine WL.storeU rfl rfl hb11 (by first | omega | (simp; omega)) fun ws1 hb11_ hcs1 => ?_;have hch := hch.step hcs1 (fun y hy => .inr (by simp only [List.mem_singleton] at hy; subst hy; first | assumption | omega));have hb11 := hb11_;refine zz (kh14 ?_);refine CW.seqM 33 (decide (0 < s ∧ i + 1 < l.length)) ?_ ?_
      · refine zR fun _ kr16 => ?_;refine zm rfl ?_;refine WL.ev (Ev.gtr rfl rfl) rfl ?_;refine zm rfl ?_;refine zb ?_ ?_<;>intro hg2<;>try simp only [qs] at hg2
        · refine zw rfl (zm rfl (zw rfl ?_));(first | refine zi rfl rfl ?_ | refine zo rfl rfl ?_);refine zw rfl (zm rfl (zw rfl (zn rfl (zw rfl ?_))));refine WL.ev (Ev.lss rfl rfl) rfl ?_
          refine zt rfl rfl ?_;refine WL.nil (kr16 _ _ _ ?_);refine ⟨rfl, rfl, Subs.consB rfl ?_ ?_⟩
          · first | (simp; omega) | (refine decide_eq_decide.2 ?_; omega)
          · exact SMg
        · refine zv rfl (zv rfl (zv rfl (zv rfl (zv rfl (ze rfl rfl ?_)))));refine WL.nil (kr16 _ _ _ ?_);refine ⟨rfl, rfl, Subs.consB rfl ?_ ?_⟩
          · first | (simp; omega) | (refine decide_eq_decide.2 ?_; omega)
          · exact SMg
      · refine zy rfl ?_ ?_<;>intro hc3<;>try simp only [qs] at hc3
        · refine CW.regionKC 14 15 rfl hmix fun kR17 kr17 hS hdr => ?_
          have hch := hch.trans hdr;have hb11 := hb11.k0 hdr;have hch_r := hch;have hb11_r := hb11;refine wk 0 rfl hS (fun _ _ => Ev.move rfl) (wk 1 rfl hS (fun _ _ => Ev.move rfl) (wk 2 rfl hS (fun _ _ => Ev.ixB (i) rfl rfl (by omega) (by omega)) (wk 3 rfl hS (fun _ hw' => Ev.load rfl rfl ((hb11_r.keep0 hw').u32 (by simp; omega))) ?_)));rw [getD_set_self (by omega)];refine wk 4 rfl hS (fun _ _ => Ev.move rfl) (wk 5 rfl hS (fun _ _ => Ev.move rfl) (wk 6 rfl hS (fun _ _ => Ev.addIn rfl rfl (by omega)) (wk 7 rfl hS (fun _ hw' => Ev.ixR ((i + 1)) rfl rfl (hrl.keep0 (hch_r.trans hw')) (by omega) (by omega) (by simp; omega)) (wk 8 rfl hS (fun _ hw' => Ev.load rfl rfl ((hrl.keep0 (hch_r.trans hw')).u32 (by first | omega | (simp; omega)))) ?_))));have hw42 := hWl.getD ((i + 1));refine wk 9 rfl hS (fun _ _ => Ev.move rfl) (wk 10 rfl hS (fun _ _ => Ev.subIn rfl rfl (by omega)) ?_);rw [show (32 : Int) - (s : Int) = ((32 - s : Nat) : Int) by omega];refine wk 11 rfl hS (fun _ _ => Ev.shlU32 rfl rfl) (wk 12 rfl hS (fun _ _ => Ev.orU rfl rfl rfl (by simp only [IntKind.bits]; omega) (by simp only [IntKind.bits]; omega)) ?_);rw [low_or (hWl.getD i) hs];refine wk 13 rfl hS (fun _ _ => Ev.ixB (i) rfl rfl (by omega) (by omega)) ?_;refine WK.storeU 14 rfl (by kernel_rfl) (by kernel_rfl) rfl rfl hb11 (by first | omega | (simp; omega)) fun ws2 hb11_ hcs2 => ?_;have hch := hch.step hcs2 (fun y hy => .inr (by simp only [List.mem_singleton] at hy; subst hy; first | assumption | omega));have hb11 := hb11_;refine WK.done (by kernel_rfl) (kr17 _ _ _ ?_);refine kh11 ?_;refine zR fun _ kr18 => ?_;(first | refine zi rfl rfl ?_ | refine zo rfl rfl ?_);refine zm rfl ?_;refine WL.nil (kr18 _ _ _ ?_);refine ⟨rfl, (i + 1, L.set i ((l.getD i 0 + l.getD (i + 1) 0 * 4294967296) / 2 ^ s % 4294967296)), ?_, ?_, ?_⟩
          · exact SLp
          · rw [List.set_set] at hb11;exact ⟨hAd.step hs hWl (by omega) rfl, hb11, hch⟩
          · show l.length - (i + 1) < l.length - i; omega
        · have hfin : l.getD i 0 / 2 ^ s = (l.getD i 0 + l.getD (i + 1) 0 * 4294967296) / 2 ^ s % 4294967296 := by
            by_cases q0 : i + 1 < l.length
            · have : s = 0 := by omega
              subst this; rw [Nat.pow_zero, Nat.div_one, Nat.div_one]; omega
            · rw [getD_out (i := i + 1) (by omega), Nat.zero_mul, Nat.add_zero, Nat.mod_eq_of_lt (by omega)]
          refine zkk ?_;refine kh11 ?_;refine zR fun _ kr19 => ?_;(first | refine zi rfl rfl ?_ | refine zo rfl rfl ?_);refine zm rfl ?_;refine WL.nil (kr19 _ _ _ ?_);refine ⟨rfl, (i + 1, L.set i ((l.getD i 0 + l.getD (i + 1) 0 * 4294967296) / 2 ^ s % 4294967296)), ?_, ?_, ?_⟩
          · exact SLp
          · rw [hfin] at hb11;exact ⟨hAd.step hs hWl (by omega) rfl, hb11, hch⟩
          · show l.length - (i + 1) < l.length - i; omega
    · refine CW.exit ?_
      refine kh5 (zc fun _ kh20 => zc fun _ kh21 => ?_);have hiX2 : i = l.length := by omega
      subst hiX2;have hvL := hAd.done hWl;have hlw := lower_words hWl hWL hLl hp hlast hs hvL;refine zR fun _ kr22 => ?_;refine zm rfl (zn rfl ?_)
      first | refine WL.ev (Ev.subIn rfl rfl (by omega)) rfl ?_ | refine WL.ev (Ev.sub rfl rfl) rfl ?_
      refine za rfl ?_;refine WL.nil (kr22 _ _ _ (kh21 ?_));refine Sr fun _ kh23 => zm rfl (zm rfl ?_);refine WL.ev (Ev.ixB ((l.length - 1)) rfl rfl (by omega) (by omega)) rfl ?_;refine WL.ev (Ev.load rfl rfl (hb11.u32 (by first | omega | (simp; omega)))) rfl ?_;have hw55 := hWL.getD ((l.length - 1));refine zq rfl rfl (zz (kh23 ?_));refine zy rfl ?_ ?_<;>intro hc4<;>try simp only [qs] at hc4
      · refine zR fun _ kr25 => ?_
        refine zm rfl (zm rfl (zm rfl ?_));refine WL.ev (Ev.slice3n ((l.length - 1)) ((l.length - 1)) rfl rfl rfl (by omega) (by omega) (by omega) (by omega)) rfl ?_;refine za rfl ?_;refine WL.nil (kr25 _ _ _ (kh20 ?_));refine Sr fun _ kh26 => zm rfl (za rfl (zz (kh26 ?_)));refine zr (zr1 rfl rfl ?_);rw [← hlw.2 (by omega)];exact ⟨NU.part hb11.row hWL (by omega) (by omega) (Nat.le_refl _), hch⟩
      · refine zkk ?_
        refine kh20 (Sr fun _ kh28 => zm rfl (za rfl (zz (kh28 ?_))));refine zr (zr1 rfl rfl ?_);rw [← hlw.1 (by omega)];exact ⟨NU.of_block hb11 hWL (by omega) (by omega) (Nat.le_refl _), hch⟩

/-- A value that is the dyad d. -/
structure DY (w : World) (u : Value) (d : Dy) : Prop where
  ex : ∃ r, u = .agg [.bool d.neg, r, .int .i64 d.e].toArray ∧ NU w r (wd d.m)
/-- A dyad's answer, or none. -/
def DR (w : World) (u : Value) (x : Option Dy) : Prop := (∃ r d, x = some d ∧ u = .tuple [.agg [.bool d.neg, r, .int .i64 d.e].toArray, .int .i64 0].toArray ∧ NU w r (wd d.m)) ∨ (x = none ∧ u = .tuple [.agg [.bool false, .slice none 0 0, .int .i64 0].toArray, .int .i64 2].toArray)
theorem form_spec (neg : Bool) (v : Value) (l : List Nat) (e : Int) (w : World) (h : NU w v l) (hg : GW w) (he : -9223372036854775808 ≤ e ∧ e ≤ 9223372036854775807) : Ret Tryz.prog 144 [.bool neg, v, .int .i64 e] w fun u w' => DR w' u (formD neg (val l) e) ∧ Chg [] w w' := by
 obtain ⟨A, hA⟩ : ∃ A, A = wd (val l) := ⟨_, rfl⟩;have hvA : val A = val l := by rw [hA]; exact val_wd _
 have hch : Chg [] w w := Chg.refl _ _;refine zE3 Tryz.func144 rfl ?_;refine Sr fun _ kh1 => ?_;refine WL.allocB (l := [.bool false, .slice none 0 0, .int .i64 0]) rfl rfl fun b6 wm6 hb6 hcm6 hge6 => ?_;have hgehch6 := Nat.le_trans hch.size hge6;have hch := hch.trans hcm6;refine za rfl (zz (kh1 (Sr fun _ kh3 => zm rfl ?_)));refine WL.call hasF224 rfl rfl (Norm_spec _ _ _ (h.keep0 hch)) fun v w1 h' => ?_;obtain ⟨hN1, hC11⟩ := h';rw [← hA] at hN1;have hN1d := hN1;obtain ⟨⟨a1, c1, rfl, hcap1, hr1⟩, hW1, hl1⟩ := hN1d;have hch := hch.trans hC11;have hb6 := hb6.k0 hC11;refine za rfl (zz (kh3 (zc fun _ kh5 => Sr fun _ kh6 => zm rfl (zn rfl (zq rfl rfl (zz (kh6 ?_)))))));refine zy rfl ?_ ?_<;>intro hc1<;>try simp only [qs] at hc1
 ·refine Sr fun _ kh8 => ?_
  refine WL.ev (Ev.build (vs := _) (cs := [_, _, _]) rfl rfl) rfl ?_;refine zss rfl rfl ao hb6 rfl fun ws3 hb6_ hcs3 => ?_;(try simp only [Sx.splice, qt] at hb6_);have hch := hch.step hcs3 (fun y hy => .inr (by simp only [List.mem_singleton] at hy; subst hy; first | assumption | omega));have hb6 := hb6_;refine za rfl (zz (kh8 ?_));refine zr (bodyA.retR2 rfl (RVal.cell rfl (hb6.varA rfl rfl)) (RVal.tmp rfl) ?_);have hv0 : val l = 0 := by rw [← hvA, List.length_eq_zero_iff.1 (show A.length = 0 by omega)]; rfl
  rw [hv0, formD_zero];exact ⟨.inl ⟨_, _, rfl, rfl, by rw [show Dy.zero.m = 0 from rfl, wd_zero]; exact NU.nil⟩, hch⟩
 ·have hn0 : val l ≠ 0 := fun e0 => by rw [e0, wd_zero] at hA; rw [hA] at hc1; exact hc1 rfl
  have hAl : A.getD (A.length - 1) 0 ≠ 0 := by rw [hA]; exact wd_last hn0
  obtain ⟨q, hq⟩ : ∃ q, q = tz (val l) := ⟨_, rfl⟩;have hqb := tz_lt_bl hn0;have hbA : bl (val l) ≤ 32 * A.length := by rw [bl_words, ← hA]; exact Nat.le_refl _
  rw [← hq] at hqb;refine zkk ?_;refine kh5 (Sr fun _ kh10 => zm rfl ?_);refine WL.call hasF225 rfl rfl (Low_spec _ _ _ hN1 (hg.keep0 hch)) fun v w2 h' => ?_;obtain ⟨rfl, rfl⟩ := h';rw [hvA, ← hq];refine za rfl (zz (kh10 (Sr fun _ kh12 => zm rfl (zm rfl ?_))));refine WL.ev (Ev.quoU (b := 32) rfl rfl (by omega) (in_i64 (by omega)).2) rfl ?_;refine WL.ev (Ev.sliceLn ((q / 32)) rfl rfl (by omega) (by omega)) rfl ?_;refine zm rfl ?_;refine WL.ev (Ev.remU (b := 32) rfl rfl (by omega)) rfl ?_;refine WL.call hasF226 rfl rfl (lower_spec _ (A.drop (q / 32)) (q % 32) _ (NU.of_row (by rw [List.map_drop]; exact hr1.cut _ _ (by simp; omega) (by simpa using hcap1)) (hW1.drop _) (by simp; omega) (by simp) (by omega)) (by omega) (by simp; omega) (by rw [List.length_drop, List.getD_eq_getElem?_getD, List.getElem?_drop, ← List.getD_eq_getElem?_getD, show q / 32 + (A.length - q / 32 - 1) = A.length - 1 by omega]; exact hAl)) fun v w3 h' => ?_;obtain ⟨hN2, hC24⟩ := h';rw [val_drop hW1 _ (by omega), hvA, div_words] at hN2;obtain ⟨B, hB⟩ : ∃ B, B = wd (val l / 2 ^ q) := ⟨_, rfl⟩;rw [← hB] at hN2;have hN2d := hN2;obtain ⟨⟨a2, c2, rfl, hcap2, hr2⟩, hW2, hl2⟩ := hN2d;have hch := hch.trans hC24;have hb6 := hb6.k0 hC24;refine za rfl (zz (kh12 (zc fun _ kh14 => ?_)));refine CW.seqM 39 (decide ((1048576 - (q : Int) < e ∨ e < -1048576 - (q : Int)) ∨ 8192 < B.length)) ?_ ?_
  ·refine zR fun _ kr15 => ?_;refine zm rfl (zm rfl ?_);refine WL.ev (Ev.subIn rfl rfl (by omega)) rfl ?_;refine WL.ev (Ev.gtr rfl rfl) rfl ?_;refine zm rfl ?_;refine zb ?_ ?_<;>intro hg2<;>try simp only [qs] at hg2
   ·refine zv rfl (zv rfl (zv rfl (zv rfl (zt rfl rfl (zm rfl (zv rfl (zv rfl (zv rfl (zt rfl rfl ?_)))))))));refine WL.nil (kr15 _ _ _ ?_);refine ⟨rfl, rfl, Subs.consB rfl ?_ ?_⟩
    ·first | (simp; omega) | (refine decide_eq_decide.2 ?_; omega)
    ·exact SMg
   ·refine zw rfl (zm rfl (zw rfl (zm rfl (zw rfl ?_))))
    first | refine WL.ev (Ev.subIn rfl rfl (by omega)) rfl ?_ | refine WL.ev (Ev.sub rfl rfl) rfl ?_
    refine zw rfl ?_;refine WL.ev (Ev.lss rfl rfl) rfl ?_;refine ze rfl rfl (zm rfl ?_);refine zb ?_ ?_<;>intro hg3<;>try simp only [qs] at hg3
    ·refine zv rfl (zv rfl (zv rfl (zt rfl rfl ?_)));refine WL.nil (kr15 _ _ _ ?_);refine ⟨rfl, rfl, Subs.consB rfl ?_ ?_⟩
     ·first | (simp; omega) | (refine decide_eq_decide.2 ?_; omega)
     ·exact SMg
    ·refine zw rfl (zm rfl (zw rfl (zn rfl (zw rfl ?_))));refine WL.ev (Ev.gtr rfl rfl) rfl ?_
     refine ze rfl rfl ?_;refine WL.nil (kr15 _ _ _ ?_);refine ⟨rfl, rfl, Subs.consB rfl ?_ ?_⟩
     ·first | (simp; omega) | (refine decide_eq_decide.2 ?_; omega)
     ·exact SMg
  ·refine zy rfl ?_ ?_<;>intro hc4<;>try simp only [qs] at hc4
   ·refine Sr fun _ kh16 => ?_
    refine WL.ev (Ev.build (vs := _) (cs := [_, _, _]) rfl rfl) rfl ?_;refine zss rfl rfl ao hb6 rfl fun ws4 hb6_ hcs4 => ?_;(try simp only [Sx.splice, qt] at hb6_);have hch := hch.step hcs4 (fun y hy => .inr (by simp only [List.mem_singleton] at hy; subst hy; first | assumption | omega));have hb6 := hb6_;refine za rfl (zz (kh16 ?_));refine zr (bodyA.retR2 rfl (RVal.cell rfl (hb6.varA rfl rfl)) (RVal.tmp rfl) ?_);rw [formD_none hn0 (by rw [← hq, ← hB]; omega)];exact ⟨.inr ⟨rfl, rfl⟩, hch⟩
   ·refine zkk ?_
    refine kh14 (Sr fun _ kh18 => zm rfl (zm rfl (zm rfl (zm rfl ?_))));(first | refine zi rfl rfl ?_ | refine zo rfl rfl ?_);refine WL.ev (Ev.build (vs := _) (cs := [_, _, _]) rfl rfl) rfl ?_;refine zss rfl rfl ao hb6 rfl fun ws5 hb6_ hcs5 => ?_;(try simp only [Sx.splice, qt] at hb6_);have hch := hch.step hcs5 (fun y hy => .inr (by simp only [List.mem_singleton] at hy; subst hy; first | assumption | omega));have hN2 := hN2.keepBK hb6 hcs5 an;have hb6 := hb6_;refine za rfl (zz (kh18 ?_));refine zr (bodyA.retR2 rfl (RVal.cell rfl (hb6.varA rfl rfl)) (RVal.tmp rfl) ?_);rw [formD_some hn0 (by rw [← hq, ← hB]; omega), ← hq];refine ⟨.inl ⟨_, _, rfl, rfl, ?_⟩, hch⟩;simp only;rw [← hB];exact hN2

end

/- Package dyad: Make, Int, sums. No condition. -/
section
open Go Sx Wd

theorem Make_spec (na : Bool) (va : Value) (la : List Nat) (ea : Int) (w : World) (ha : NU w va la) (hg : GW w) (hea : -9223372036854775808 ≤ ea ∧ ea ≤ 9223372036854775807) : Ret Tryz.prog 71 [.bool na, va, .int .i64 ea] w fun u w' => DR w' u (formD na (val la) ea) ∧ Chg [] w w' := by
 have hch : Chg [] w w := Chg.refl _ _;refine zE3 Tryz.func71 rfl ?_;refine Sr fun _ kh1 => ?_;refine WL.allocB (l := [.bool false, .slice none 0 0, .int .i64 0]) rfl rfl fun b6 wm6 hb6 hcm6 hge6 => ?_;have hgehch6 := Nat.le_trans hch.size hge6;have hch := hch.trans hcm6;refine za rfl (zz (kh1 (Sr fun _ kh3 => zm rfl (zm rfl (zm rfl ?_)))));refine WL.call hasF144 rfl rfl (form_spec na va la ea _ (ha.keep0 hch) (hg.keep0 hch) hea) fun v w1 h' => ?_;obtain ⟨hD, hC11⟩ := h';have hch := hch.trans hC11;have hb6 := hb6.k0 hC11;rcases hD with ⟨r, d, hd, rfl, hNr⟩ | ⟨hd, rfl⟩
 ·refine zx rfl rfl (zx rfl rfl ?_);refine zss rfl rfl ao hb6 rfl fun ws6 hb6_ hcs6 => ?_;(try simp only [Sx.splice, qt] at hb6_);have hch := hch.step hcs6 (fun y hy => .inr (by simp only [List.mem_singleton] at hy; subst hy; first | assumption | omega));have hNr := hNr.keepBK hb6 hcs6 an;have hb6 := hb6_;refine za rfl (zz (kh3 ?_));refine zr (bodyA.retR2 rfl (RVal.cell rfl (hb6.varA rfl rfl)) (RVal.tmp rfl) ?_);exact ⟨.inl ⟨r, d, hd, rfl, hNr⟩, hch⟩
 ·refine zx rfl rfl (zx rfl rfl ?_);refine zss rfl rfl ao hb6 rfl fun ws7 hb6_ hcs7 => ?_;(try simp only [Sx.splice, qt] at hb6_);have hch := hch.step hcs7 (fun y hy => .inr (by simp only [List.mem_singleton] at hy; subst hy; first | assumption | omega));have hb6 := hb6_;refine za rfl (zz (kh3 ?_));refine zr (bodyA.retR2 rfl (RVal.cell rfl (hb6.varA rfl rfl)) (RVal.tmp rfl) ?_);exact ⟨.inr ⟨hd, rfl⟩, hch⟩

theorem formD_int {n : Nat} {neg : Bool} (h : n < 18446744073709551616) : ∃ d, formD neg n 0 = some d := by
  by_cases h0 : n = 0
  · exact ⟨_, by rw [h0]; exact formD_zero _ _⟩
  · have h1 := tz_lt_bl h0
    have h2 := bl_le (n := n) (k := 64)
    have h3 : n / 2 ^ tz n ≤ n := Nat.div_le_self _ _
    have h4 := wd_length_le (n := n / 2 ^ tz n) (k := 2)
    have h5 : (wd (n / 2 ^ tz n)).length ≤ 2 := h4.2 (Nat.lt_of_le_of_lt h3 h)
    have h6 : bl n ≤ 64 := h2.2 h
    exact ⟨_, formD_some h0 (by omega)⟩
/-- A whole number as a dyad. -/
def intD (n : Int) : Dy := ((formD (decide (n < 0)) n.natAbs 0).getD Dy.zero)
theorem intD_eq {n : Int} (h : n.natAbs < 18446744073709551616) : formD (decide (n < 0)) n.natAbs 0 = some (intD n) := by
  obtain ⟨d, hd⟩ := formD_int (neg := decide (n < 0)) h
  unfold intD; rw [hd]; rfl

theorem Int_spec (n : Int) (w : World) (hg : GW w) (hn : -9223372036854775808 ≤ n ∧ n ≤ 9223372036854775807) : Ret Tryz.prog 180 [.int .i64 n] w fun u w' => DY w' u (intD n) ∧ Chg [] w w' := by
 have hch : Chg [] w w := Chg.refl _ _;refine zE1 Tryz.func180 rfl ?_;refine Sr fun _ kh1 => ?_;refine WL.allocB (l := [.bool false, .slice none 0 0, .int .i64 0]) rfl rfl fun b2 wm2 hb2 hcm2 hge2 => ?_;have hgehch2 := Nat.le_trans hch.size hge2;have hch := hch.trans hcm2;refine zz (kh1 (Sr fun _ kh3 => zm rfl ?_));refine WL.ev (Ev.conv rfl rfl) rfl ?_;rw [wrap_u64i];refine za rfl (zz (kh3 (zc fun _ kh5 => Sr fun _ kh6 => zm rfl ?_)));refine WL.ev (Ev.lss rfl rfl) rfl ?_;refine zz (kh6 ?_);refine zy rfl ?_ ?_<;>intro hc1<;>try simp only [qs] at hc1
 ·refine zR fun _ kr8 => ?_
  refine zm rfl ?_;refine WL.ev (Ev.neg rfl) rfl ?_;rw [wrap_u64i, show (0 - n % 18446744073709551616) % 18446744073709551616 = ((n.natAbs : Nat) : Int) by omega];have hab : n.natAbs = n.natAbs := rfl;refine za rfl ?_;refine WL.nil (kr8 _ _ _ (kh5 ?_));refine Sr fun _ kh9 => zm rfl ?_;refine WL.ev (Ev.lss rfl rfl) rfl ?_;refine zm rfl ?_;refine WL.call hasF145 rfl rfl (Of_spec n.natAbs _ (by omega)) fun v w1 h' => ?_;obtain ⟨hN16, hC16⟩ := h';have hch := hch.trans hC16;have hb2 := hb2.k0 hC16;refine WL.call hasF144 rfl rfl (form_spec _ _ _ 0 _ hN16 (hg.keep0 hch) (by omega)) fun v w2 h' => ?_;obtain ⟨hD, hC17⟩ := h';rw [val_wd, hab, intD_eq (by omega)] at hD;rcases hD with ⟨r, d, hd, rfl, hNr⟩ | ⟨hd, rfl⟩
  rotate_left
  · cases hd
  cases hd;have hch := hch.trans hC17;have hb2 := hb2.k0 hC17;refine zm rfl (zx rfl rfl (zx rfl rfl ?_));refine WL.allocB (l := [.bool false, .slice none 0 0, .int .i64 0]) rfl rfl fun b4 wm4 hb4 hcm4 hge4 => ?_;have hgehch4 := Nat.le_trans hch.size hge4;have hch := hch.trans hcm4;have hNr := hNr.keep0 hcm4;have hneb24 := zdd hb2.lt hge4;have hb2 := hb2.k0 hcm4;refine zss rfl rfl ao hb4 rfl fun ws8 hb4_ hcs8 => ?_;(try simp only [Sx.splice, qt] at hb4_);have hch := hch.step hcs8 (fun y hy => .inr (by simp only [List.mem_singleton] at hy; subst hy; first | assumption | omega));have hb2 := hb2.kq hcs8;have hNr := hNr.keepBK hb4 hcs8 an;have hb4 := hb4_;refine za rfl (zz (kh9 (Sr fun _ kh11 => zg hb4 rfl ?_)));refine zss rfl rfl ao hb2 rfl fun ws9 hb2_ hcs9 => ?_;(try simp only [Sx.splice, qt] at hb2_);have hch := hch.step hcs9 (fun y hy => .inr (by simp only [List.mem_singleton] at hy; subst hy; first | assumption | omega));have hNr := hNr.keepBK hb2 hcs9 an;have hb2 := hb2_;refine zz (kh11 ?_);refine zr (bodyA.retR1 rfl (RVal.cell rfl (hb2.varA rfl rfl)) ?_);exact ⟨⟨⟨_, rfl, hNr⟩⟩, hch⟩
 ·rw [show n % 18446744073709551616 = ((n.natAbs : Nat) : Int) by omega]
  have hab : n.natAbs = n.natAbs := rfl;refine zkk ?_;refine kh5 (Sr fun _ kh13 => zm rfl ?_);refine WL.ev (Ev.lss rfl rfl) rfl ?_;refine zm rfl ?_;refine WL.call hasF145 rfl rfl (Of_spec n.natAbs _ (by omega)) fun v w3 h' => ?_;obtain ⟨hN16, hC16⟩ := h';have hch := hch.trans hC16;have hb2 := hb2.k0 hC16;refine WL.call hasF144 rfl rfl (form_spec _ _ _ 0 _ hN16 (hg.keep0 hch) (by omega)) fun v w4 h' => ?_;obtain ⟨hD, hC17⟩ := h';rw [val_wd, hab, intD_eq (by omega)] at hD;rcases hD with ⟨r, d, hd, rfl, hNr⟩ | ⟨hd, rfl⟩
  rotate_left
  · cases hd
  cases hd;have hch := hch.trans hC17;have hb2 := hb2.k0 hC17;refine zm rfl (zx rfl rfl (zx rfl rfl ?_));refine WL.allocB (l := [.bool false, .slice none 0 0, .int .i64 0]) rfl rfl fun b4 wm4 hb4 hcm4 hge4 => ?_;have hgehch4 := Nat.le_trans hch.size hge4;have hch := hch.trans hcm4;have hNr := hNr.keep0 hcm4;have hneb24 := zdd hb2.lt hge4;have hb2 := hb2.k0 hcm4;refine zss rfl rfl ao hb4 rfl fun ws10 hb4_ hcs10 => ?_;(try simp only [Sx.splice, qt] at hb4_);have hch := hch.step hcs10 (fun y hy => .inr (by simp only [List.mem_singleton] at hy; subst hy; first | assumption | omega));have hb2 := hb2.kq hcs10;have hNr := hNr.keepBK hb4 hcs10 an;have hb4 := hb4_;refine za rfl (zz (kh13 (Sr fun _ kh15 => zg hb4 rfl ?_)));refine zss rfl rfl ao hb2 rfl fun ws11 hb2_ hcs11 => ?_;(try simp only [Sx.splice, qt] at hb2_);have hch := hch.step hcs11 (fun y hy => .inr (by simp only [List.mem_singleton] at hy; subst hy; first | assumption | omega));have hNr := hNr.keepBK hb2 hcs11 an;have hb2 := hb2_;refine zz (kh15 ?_);refine zr (bodyA.retR1 rfl (RVal.cell rfl (hb2.varA rfl rfl)) ?_);exact ⟨⟨⟨_, rfl, hNr⟩⟩, hch⟩

end

/- Package dyad: sums, products. No condition. -/
section
open Go Sx Wd

/-- The forms of two, or an error beside whatever. -/
def BR (w : World) (u : Value) (a b : Option Dy) : Prop :=
  (∃ x y rx ry, a = some x ∧ b = some y ∧ u = .tuple [.agg [.bool x.neg, rx, .int .i64 x.e].toArray, .agg [.bool y.neg, ry, .int .i64 y.e].toArray, .int .i64 0].toArray ∧ NU w rx (wd x.m) ∧ NU w ry (wd y.m)) ∨
  ((a = none ∨ b = none) ∧ ∃ n1 v1 e1 n2 v2 e2, u = .tuple [.agg [.bool n1, v1, .int .i64 e1].toArray, .agg [.bool n2, v2, .int .i64 e2].toArray, .int .i64 2].toArray ∧ v1.oneCell' = true ∧ v2.oneCell' = true)

theorem dboth_spec (na nb : Bool) (va vb : Value) (la lb : List Nat) (ea eb : Int) (w : World) (ha : NU w va la) (hb : NU w vb lb) (hg : GW w) (hea : -9223372036854775808 ≤ ea ∧ ea ≤ 9223372036854775807) (heb : -9223372036854775808 ≤ eb ∧ eb ≤ 9223372036854775807) : Ret Tryz.prog 146 [.agg [.bool na, va, .int .i64 ea].toArray, .agg [.bool nb, vb, .int .i64 eb].toArray] w fun u w' => BR w' u (formD na (val la) ea) (formD nb (val lb) eb) ∧ Chg [] w w' := by
 have hch : Chg [] w w := Chg.refl _ _;have hoa := ha.one;have hob := hb.one;refine zE2 Tryz.func146 rfl ?_;refine Sr fun _ kh1 => ?_;refine WL.boxB rfl rfl rfl fun b2 wm2 hb2 hcm2 hge2 => ?_;have hgehch2 := Nat.le_trans hch.size hge2;have hch := hch.trans hcm2;have ha := ha.keep0 hcm2;have hb := hb.keep0 hcm2;refine WL.boxB rfl rfl rfl fun b3 wm3 hb3 hcm3 hge3 => ?_;have hgehch3 := Nat.le_trans hch.size hge3;have hch := hch.trans hcm3;have ha := ha.keep0 hcm3;have hb := hb.keep0 hcm3;have hneb23 := zdd hb2.lt hge3;have hb2 := hb2.k0 hcm3;refine WL.allocB (l := [.bool false, .slice none 0 0, .int .i64 0]) rfl rfl fun b4 wm4 hb4 hcm4 hge4 => ?_;have hgehch4 := Nat.le_trans hch.size hge4;have hch := hch.trans hcm4;have ha := ha.keep0 hcm4;have hb := hb.keep0 hcm4;have hneb24 := zdd hb2.lt hge4;have hb2 := hb2.k0 hcm4;have hneb34 := zdd hb3.lt hge4;have hb3 := hb3.k0 hcm4;refine WL.allocB (l := [.bool false, .slice none 0 0, .int .i64 0]) rfl rfl fun b5 wm5 hb5 hcm5 hge5 => ?_;have hgehch5 := Nat.le_trans hch.size hge5;have hch := hch.trans hcm5;have ha := ha.keep0 hcm5;have hb := hb.keep0 hcm5;have hneb25 := zdd hb2.lt hge5;have hb2 := hb2.k0 hcm5;have hneb35 := zdd hb3.lt hge5;have hb3 := hb3.k0 hcm5;have hneb45 := zdd hb4.lt hge5;have hb4 := hb4.k0 hcm5;refine za rfl (zz (kh1 (Sr fun _ kh3 => zf rfl (zl hb2 rfl rfl (zf rfl (zl hb2 rfl rfl (zf rfl (zl hb2 rfl rfl ?_))))))));refine WL.call hasF144 rfl rfl (form_spec na va la ea _ ha (hg.keep0 hch) hea) fun v w1 h' => ?_;obtain ⟨hD1, hC1⟩ := h';have hch := hch.trans hC1;have hb3 := hb3.k0 hC1;have hb4 := hb4.k0 hC1;have hb5 := hb5.k0 hC1;have hb := hb.keep0 hC1;rcases hD1 with ⟨r1, d1, hd1, rfl, hNr1⟩ | ⟨hd1, rfl⟩
 ·refine zm rfl (zx rfl rfl (zx rfl rfl ?_));refine zss rfl rfl ao hb4 rfl fun ws12 hb4_ hcs12 => ?_;(try simp only [Sx.splice, qt] at hb4_);have hch := hch.step hcs12 (fun y hy => .inr (by simp only [List.mem_singleton] at hy; subst hy; first | assumption | omega));have hb3 := hb3.kq hcs12;have hb5 := hb5.kq hcs12;have hb := hb.keepBK hb4 hcs12 an;have hNr1 := hNr1.keepBK hb4 hcs12 an;have hb4 := hb4_;refine za rfl (zz (kh3 (zc fun _ kh5 => Sr fun _ kh6 => zm rfl (zq rfl rfl (zz (kh6 ?_))))));refine CW.condT rfl ?_;refine zR fun _ kr8 => ?_;refine zf rfl (zl hb3 rfl rfl (zf rfl (zl hb3 rfl rfl (zf rfl (zl hb3 rfl rfl ?_)))));refine WL.call hasF144 rfl rfl (form_spec nb vb lb eb _ hb (hg.keep0 hch) heb) fun v w2 h' => ?_;obtain ⟨hD2, hC2⟩ := h';have hch := hch.trans hC2;have hb4 := hb4.k0 hC2;have hb5 := hb5.k0 hC2;have hNr1 := hNr1.keep0 hC2;rcases hD2 with ⟨r2, d2, hd2, rfl, hNr2⟩ | ⟨hd2, rfl⟩
  ·refine zm rfl (zx rfl rfl (zx rfl rfl ?_));refine zss rfl rfl ao hb5 rfl fun ws13 hb5_ hcs13 => ?_;(try simp only [Sx.splice, qt] at hb5_);have hch := hch.step hcs13 (fun y hy => .inr (by simp only [List.mem_singleton] at hy; subst hy; first | assumption | omega));have hb4 := hb4.kq hcs13;have hNr1 := hNr1.keepBK hb5 hcs13 an;have hNr2 := hNr2.keepBK hb5 hcs13 an;have hb5 := hb5_;refine za rfl ?_;refine WL.nil (kr8 _ _ _ (kh5 ?_));refine zc fun _ kh9 => ?_;refine CW.regionS2 6 hb4 hb5 rfl hmix fun kR10 kr10 hS hdr => ?_;have hch := hch.trans hdr;have hb4 := hb4.k0 hdr;have hb5 := hb5.k0 hdr;have hNr1 := hNr1.keep0 hdr;have hNr2 := hNr2.keep0 hdr;refine wh 0 rfl hS (fun _ hw' => Ev.loadA rfl rfl hw'.1 rfl) (wh 1 rfl hS (fun _ hw' => Ev.loadA rfl rfl hw'.2 rfl) (wh 2 rfl hS (fun _ _ => Ev.move rfl) ?_));refine WH.same1 3 rfl (by kernel_rfl) rfl rfl rfl ao (by omega) hS fun ws14 hS hcs14 => ?_;have hch := hch.step hcs14 (fun y hy => .inr (by simp only [List.mem_singleton] at hy; subst hy; first | assumption | omega));have hNr1 := hNr1.keepBK hb4 hcs14 an;have hNr2 := hNr2.keepBK hb4 hcs14 an;have hb4 := hS.1;have hb5 := hS.2;refine WH.same2 4 rfl (by kernel_rfl) rfl rfl rfl ao (by omega) hS fun ws15 hS hcs15 => ?_;have hch := hch.step hcs15 (fun y hy => .inr (by simp only [List.mem_singleton] at hy; subst hy; first | assumption | omega));have hNr1 := hNr1.keepBK hb5 hcs15 an;have hNr2 := hNr2.keepBK hb5 hcs15 an;have hb4 := hS.1;have hb5 := hS.2;refine wh 5 rfl hS (fun _ _ => Ev.assign rfl) ?_;refine WH.done (by kernel_rfl) (kr10 _ _ _ ?_);refine kh9 ?_;refine zr (bodyA.retR3 rfl (RVal.cell rfl (hb4.varA rfl rfl)) (RVal.cell rfl (hb5.varA rfl rfl)) (RVal.tmp rfl) ?_);exact ⟨.inl ⟨d1, d2, r1, r2, hd1, hd2, rfl, hNr1, hNr2⟩, hch⟩
  ·refine zm rfl (zx rfl rfl (zx rfl rfl ?_));refine zss rfl rfl ao hb5 rfl fun ws16 hb5_ hcs16 => ?_;(try simp only [Sx.splice, qt] at hb5_);have hch := hch.step hcs16 (fun y hy => .inr (by simp only [List.mem_singleton] at hy; subst hy; first | assumption | omega));have hb4 := hb4.kq hcs16;have hNr1 := hNr1.keepBK hb5 hcs16 an;have hb5 := hb5_;refine za rfl ?_;refine WL.nil (kr8 _ _ _ (kh5 ?_));refine zc fun _ kh11 => ?_;refine CW.regionS2 6 hb4 hb5 rfl hmix fun kR12 kr12 hS hdr => ?_;have hch := hch.trans hdr;have hb4 := hb4.k0 hdr;have hb5 := hb5.k0 hdr;have hNr1 := hNr1.keep0 hdr;refine wh 0 rfl hS (fun _ hw' => Ev.loadA rfl rfl hw'.1 rfl) (wh 1 rfl hS (fun _ hw' => Ev.loadA rfl rfl hw'.2 rfl) (wh 2 rfl hS (fun _ _ => Ev.move rfl) ?_));refine WH.same1 3 rfl (by kernel_rfl) rfl rfl rfl ao (by omega) hS fun ws17 hS hcs17 => ?_;have hch := hch.step hcs17 (fun y hy => .inr (by simp only [List.mem_singleton] at hy; subst hy; first | assumption | omega));have hNr1 := hNr1.keepBK hb4 hcs17 an;have hb4 := hS.1;have hb5 := hS.2;refine WH.same2 4 rfl (by kernel_rfl) rfl rfl rfl ao (by omega) hS fun ws18 hS hcs18 => ?_;have hch := hch.step hcs18 (fun y hy => .inr (by simp only [List.mem_singleton] at hy; subst hy; first | assumption | omega));have hNr1 := hNr1.keepBK hb5 hcs18 an;have hb4 := hS.1;have hb5 := hS.2;refine wh 5 rfl hS (fun _ _ => Ev.assign rfl) ?_;refine WH.done (by kernel_rfl) (kr12 _ _ _ ?_);refine kh11 ?_;refine zr (bodyA.retR3 rfl (RVal.cell rfl (hb4.varA rfl rfl)) (RVal.cell rfl (hb5.varA rfl rfl)) (RVal.tmp rfl) ?_);exact ⟨.inr ⟨.inr hd2, _, _, _, _, _, _, rfl, hNr1.one, rfl⟩, hch⟩
 ·refine zm rfl (zx rfl rfl (zx rfl rfl ?_));refine zss rfl rfl ao hb4 rfl fun ws19 hb4_ hcs19 => ?_;(try simp only [Sx.splice, qt] at hb4_);have hch := hch.step hcs19 (fun y hy => .inr (by simp only [List.mem_singleton] at hy; subst hy; first | assumption | omega));have hb5 := hb5.kq hcs19;have hb4 := hb4_;refine za rfl (zz (kh3 (zc fun _ kh13 => Sr fun _ kh14 => zm rfl (zq rfl rfl (zz (kh14 ?_))))));refine CW.condF rfl ?_;refine zkk ?_;refine kh13 (zc fun _ kh16 => ?_);refine CW.regionS2 6 hb4 hb5 rfl hmix fun kR17 kr17 hS hdr => ?_;have hch := hch.trans hdr;have hb4 := hb4.k0 hdr;have hb5 := hb5.k0 hdr;refine wh 0 rfl hS (fun _ hw' => Ev.loadA rfl rfl hw'.1 rfl) (wh 1 rfl hS (fun _ hw' => Ev.loadA rfl rfl hw'.2 rfl) (wh 2 rfl hS (fun _ _ => Ev.move rfl) ?_));refine WH.same1 3 rfl (by kernel_rfl) rfl rfl rfl ao (by omega) hS fun ws20 hS hcs20 => ?_;have hch := hch.step hcs20 (fun y hy => .inr (by simp only [List.mem_singleton] at hy; subst hy; first | assumption | omega));have hb4 := hS.1;have hb5 := hS.2;refine WH.same2 4 rfl (by kernel_rfl) rfl rfl rfl ao (by omega) hS fun ws21 hS hcs21 => ?_;have hch := hch.step hcs21 (fun y hy => .inr (by simp only [List.mem_singleton] at hy; subst hy; first | assumption | omega));have hb4 := hS.1;have hb5 := hS.2;refine wh 5 rfl hS (fun _ _ => Ev.assign rfl) ?_;refine WH.done (by kernel_rfl) (kr17 _ _ _ ?_);refine kh16 ?_;refine zr (bodyA.retR3 rfl (RVal.cell rfl (hb4.varA rfl rfl)) (RVal.cell rfl (hb5.varA rfl rfl)) (RVal.tmp rfl) ?_);exact ⟨.inr ⟨.inl hd1, _, _, _, _, _, _, rfl, rfl, rfl⟩, hch⟩

structure KA2 (X Y : List Nat) (w : World) (b : Nat) (g : Nat × List Nat × Nat) (wr : World) : Prop where
  a : AddI X Y g.1 g.2.1 g.2.2
  ob : OB wr b 219 g.2.1
  chg : Chg [] w wr

theorem dsum_spec (va vb : Value) (la lb : List Nat) (w : World) (ha : NU w va la) (hb : NU w vb lb) (hla : la.length < 70368744177664) (hlb : lb.length < 70368744177664) : Ret Tryz.prog 148 [va, vb] w fun u w' => ∃ L, NU w' u L ∧ val L = val la + val lb ∧ Chg [] w w' := by
 obtain ⟨⟨a1, c1, rfl, hcap1, hr1⟩, hW1, hl1⟩ := ha;obtain ⟨⟨a2, c2, rfl, hcap2, hr2⟩, hW2, hl2⟩ := hb;have hch : Chg [] w w := Chg.refl _ _;refine zE2 Tryz.func148 rfl ?_;refine Sr fun _ kh1 => za rfl (zz (kh1 ?_));refine CW.seqJ (fun D s' w' => D = [] ∧ w = w' ∧ ∃ xa ca xb cb X Y, RW w xa (X.map u32v) ∧ W X ∧ RW w xb (Y.map u32v) ∧ W Y ∧ Y.length ≤ X.length ∧ X.length < 70368744177664 ∧ val X + val Y = val la + val lb ∧ Subs [(0, .slice xa X.length ca), (1, .slice xb Y.length cb)] s') ?_ ?_
 ·refine Sr fun _ kh4 => zm rfl (zn rfl (zm rfl (zn rfl ?_)));refine WL.ev (Ev.lss rfl rfl) rfl ?_;refine zz (kh4 ?_);refine zy rfl ?_ ?_<;>intro hc1<;>try simp only [qs] at hc1
  ·refine zR fun _ kr6 => ?_
   refine zm rfl (zm rfl (za rfl (za rfl ?_)));refine WL.nil (kr6 _ _ _ ?_);exact ⟨rfl, rfl, a2, c2, a1, c1, lb, la, hr2, hW2, hr1, hW1, by omega, by omega, by omega, (by repeat (first | exact Subs.nil | refine Subs.cons rfl ?_))⟩
  ·refine zkk ?_
   exact ⟨rfl, rfl, a1, c1, a2, c2, la, lb, hr1, hW1, hr2, hW2, by omega, by omega, rfl, (by repeat (first | exact Subs.nil | refine Subs.cons rfl ?_))⟩
 ·rintro _ s' _ ⟨rfl, rfl, xa, ca, xb, cb, X, Y, hrX, hWX, hrY, hWY, hYX, hXl, hXY, hsub⟩;refine CW.sub hsub ?_;refine Sr fun _ kh7 => zm rfl (zn rfl ?_);(first | refine zi rfl rfl ?_ | refine zo rfl rfl ?_);refine WL.makeU (((X).length + 1)) (((X).length + 1)) rfl rfl (by omega) (by omega) (by omega) (by omega) (by omega) rfl fun b19 wm19 hb19 hcm19 hge19 => ?_;have hgehch19 := Nat.le_trans hch.size hge19;have hch := hch.trans hcm19;refine za rfl (zz (kh7 (Sr fun _ kh9 => za rfl (zz (kh9 (zc fun _ kh11 => Sr fun _ kh12 => zm rfl (zn rfl (zm rfl (zz (kh12 ?_))))))))));refine CW.block ?_;refine CW.loop (S := fun g : Nat × List Nat × Nat => [(0, .slice xa X.length ca), (1, .slice xb Y.length cb), (5, .slice (some ⟨b19, 0, none⟩) (X.length + 1) (X.length + 1)), (6, .int .u32 (g.2.2 : Int)), (21, .int .i64 (X.length : Int)), (22, .int .i64 (g.1 : Int))]) (Inv := KA2 X Y w b19) (mu := fun g => X.length - g.1) ((0, List.replicate (X.length + 1) 0, 0)) ?_ ?_ ?_
  ·exact ⟨AddI.zero (by simp) (W_replicate _), hb19, hch⟩
  ·exact SLp
  ·rintro ⟨i, L, c⟩ wr ⟨hAd, hb19, hch⟩;dsimp only at hAd hb19 hch;have hiX := hAd.le;have hLl := hAd.len;have hcc := hAd.c1;refine Sr fun _ kh14 => ?_;refine WL.ev (Ev.lss rfl rfl) rfl ?_;refine zz (kh14 (zc fun _ kh16 => ?_));refine zy rfl ?_ ?_<;>intro hc2<;>try simp only [qs] at hc2
   ·refine zkk ?_
    refine kh16 (zc fun _ kh17 => ?_);refine CW.block ?_;refine Sr fun _ kh18 => zm rfl (za rfl (zz (kh18 (Sr fun _ kh20 => za rfl (zz (kh20 (zc fun _ kh22 => Sr fun _ kh23 => zm rfl (zm rfl (zn rfl ?_)))))))));refine WL.ev (Ev.lss rfl rfl) rfl ?_;refine zz (kh23 ?_);refine zy rfl ?_ ?_<;>intro hc3<;>try simp only [qs] at hc3
    ·refine zR fun _ kr25 => ?_
     refine zm rfl (zm rfl ?_);refine WL.ev (Ev.ixR (i) rfl rfl (hrY.keep0 hch) (by omega) (by omega) (by simp; omega)) rfl ?_;refine WL.ev (Ev.load rfl rfl ((hrY.keep0 hch).u32 (by first | omega | (simp; omega)))) rfl ?_;have hw32 := hWY.getD (i);refine za rfl ?_;refine WL.nil (kr25 _ _ _ (kh22 ?_));refine zR fun _ kr26 => ?_;refine zm rfl (zm rfl (zm rfl (zm rfl ?_)));refine WL.ev (Ev.ixR (i) rfl rfl (hrX.keep0 hch) (by omega) (by omega) (by simp; omega)) rfl ?_;refine WL.ev (Ev.load rfl rfl ((hrX.keep0 hch).u32 (by first | omega | (simp; omega)))) rfl ?_;have hw39 := hWX.getD (i);refine zm rfl (zm rfl ?_);refine WL.call hasF231 rfl rfl (Add32_spec (X.getD i 0) (Y.getD i 0) c _ (hWX.getD i) (hWY.getD i) (by omega)) fun v w1 h' => ?_;obtain ⟨rfl, rfl⟩ := h';refine zm rfl (zx rfl rfl (zx rfl rfl ?_));refine WL.ev (Ev.ixB (i) rfl rfl (by omega) (by omega)) rfl ?_;refine WL.storeU rfl rfl hb19 (by first | omega | (simp; omega)) fun ws22 hb19_ hcs22 => ?_;have hch := hch.step hcs22 (fun y hy => .inr (by simp only [List.mem_singleton] at hy; subst hy; first | assumption | omega));have hb19 := hb19_;refine za rfl ?_;refine WL.nil (kr26 _ _ _ (kh17 ?_));refine zR fun _ kr27 => ?_;(first | refine zi rfl rfl ?_ | refine zo rfl rfl ?_);refine zm rfl ?_;refine WL.nil (kr27 _ _ _ ?_);refine ⟨rfl, (i + 1, L.set i ((X.getD i 0 + Y.getD i 0 + c) % 4294967296), (X.getD i 0 + Y.getD i 0 + c) / 4294967296), ?_, ?_, ?_⟩
     ·exact SLp
     ·exact ⟨hAd.step hWX hWY (by omega), hb19, hch⟩
     ·show X.length - (i + 1) < X.length - i; omega
    ·have e0 : Value.int IntKind.u32 0 = Value.int IntKind.u32 ((Y.getD i 0 : Nat) : Int) := by rw [getD_out (by omega)]; rfl
     rw [e0];refine zkk ?_;refine kh22 ?_;refine zR fun _ kr28 => ?_;refine zm rfl (zm rfl (zm rfl (zm rfl ?_)));refine WL.ev (Ev.ixR (i) rfl rfl (hrX.keep0 hch) (by omega) (by omega) (by simp; omega)) rfl ?_;refine WL.ev (Ev.load rfl rfl ((hrX.keep0 hch).u32 (by first | omega | (simp; omega)))) rfl ?_;have hw39 := hWX.getD (i);refine zm rfl (zm rfl ?_);refine WL.call hasF231 rfl rfl (Add32_spec (X.getD i 0) (Y.getD i 0) c _ (hWX.getD i) (hWY.getD i) (by omega)) fun v w2 h' => ?_;obtain ⟨rfl, rfl⟩ := h';refine zm rfl (zx rfl rfl (zx rfl rfl ?_));refine WL.ev (Ev.ixB (i) rfl rfl (by omega) (by omega)) rfl ?_;refine WL.storeU rfl rfl hb19 (by first | omega | (simp; omega)) fun ws23 hb19_ hcs23 => ?_;have hch := hch.step hcs23 (fun y hy => .inr (by simp only [List.mem_singleton] at hy; subst hy; first | assumption | omega));have hb19 := hb19_;refine za rfl ?_;refine WL.nil (kr28 _ _ _ (kh17 ?_));refine zR fun _ kr29 => ?_;(first | refine zi rfl rfl ?_ | refine zo rfl rfl ?_);refine zm rfl ?_;refine WL.nil (kr29 _ _ _ ?_);refine ⟨rfl, (i + 1, L.set i ((X.getD i 0 + Y.getD i 0 + c) % 4294967296), (X.getD i 0 + Y.getD i 0 + c) / 4294967296), ?_, ?_, ?_⟩
     ·exact SLp
     ·exact ⟨hAd.step hWX hWY (by omega), hb19, hch⟩
     ·show X.length - (i + 1) < X.length - i; omega
   ·refine CW.exit ?_
    refine kh11 (zc fun _ kh30 => ?_);have hiX2 : i = X.length := by omega
    subst hiX2;obtain ⟨hv9, hW9, hl9⟩ := hAd.done hYX;rw [hXY] at hv9;refine zR fun _ kr31 => ?_;refine zm rfl (zm rfl (zn rfl (zm rfl ?_)));refine WL.ev (Ev.ixB (X.length) rfl rfl (by omega) (by omega)) rfl ?_;refine WL.storeU rfl rfl hb19 (by first | omega | (simp; omega)) fun ws24 hb19_ hcs24 => ?_;have hch := hch.step hcs24 (fun y hy => .inr (by simp only [List.mem_singleton] at hy; subst hy; first | assumption | omega));have hb19 := hb19_;refine WL.nil (kr31 _ _ _ (kh30 ?_));refine Sr fun _ kh32 => zm rfl (za rfl (zz (kh32 ?_)));refine zr (zr1 rfl rfl ?_);exact ⟨_, NU.of_block hb19 hW9 (by rw [hl9]; omega) (by rw [hl9]) (Nat.le_refl _), hv9, hch⟩

end

end Go.Proofs.YtknahdghcfdmgaaGreatDoor