/- Part 2 of what the proof rests on. No condition. -/
import Derived.Test.YtnbipejaidbihaaGreatDoorZl1
import GoSem.Core.Float
set_option linter.unusedVariables false
set_option linter.unusedSimpArgs false
set_option maxRecDepth 100000
set_option maxHeartbeats 4000000
namespace Go.Proofs.YtnbipejaidbihaaGreatDoor
/- What the loops over words reckon: plain laws. No condition. -/
namespace Wd

theorem getD_set_self {l : List Nat} {i x : Nat} (h : i < l.length) : (l.set i x).getD i 0 = x := by
  rw [List.getD_eq_getElem?_getD, List.getElem?_set, if_pos rfl, if_pos h]; rfl
theorem getD_set_ne {l : List Nat} {i j x : Nat} (h : i ≠ j) : (l.set i x).getD j 0 = l.getD j 0 := by
  rw [List.getD_eq_getElem?_getD, List.getElem?_set, if_neg h, ← List.getD_eq_getElem?_getD]
theorem val_set {l : List Nat} {i : Nat} (h : i < l.length) (x : Nat) : val (l.set i x) + 2 ^ (32 * i) * l.getD i 0 = val l + 2 ^ (32 * i) * x := by
  induction l generalizing i with
  | nil => simp at h
  | cons y l ih =>
    cases i with
    | zero => simp [val]; omega
    | succ i =>
      have := ih (i := i) (by simpa using h)
      simp only [List.set_cons_succ, val, List.getD_cons_succ]
      rw [show 32 * (i + 1) = 32 + 32 * i by omega, Nat.pow_add, Nat.mul_assoc, Nat.mul_assoc]
      have e : (2 : Nat) ^ 32 = 4294967296 := by decide
      rw [e]; omega
theorem take_set_le {l : List Nat} {i k x : Nat} (h : k ≤ i) : (l.set i x).take k = l.take k := by
  rw [List.take_set_of_le h]
theorem val_take_succ' (l : List Nat) (i : Nat) : val (l.take (i + 1)) = val (l.take i) + 2 ^ (32 * i) * l.getD i 0 := by
  by_cases h : i < l.length
  · exact val_take_succ h
  · rw [getD_out (by omega), List.take_of_length_le (by omega), List.take_of_length_le (by omega)]; simp
theorem getD_replicate (k j : Nat) : (List.replicate k 0).getD j 0 = 0 := by
  rw [List.getD_eq_getElem?_getD, List.getElem?_replicate]; split <;> rfl
theorem two32 (i : Nat) : 2 ^ (32 * (i + 1)) = 2 ^ (32 * i) * 4294967296 := by
  rw [show 32 * (i + 1) = 32 * i + 32 by omega, Nat.pow_add]
structure AddI (la lb : List Nat) (i : Nat) (L : List Nat) (c : Nat) : Prop where
  le : i ≤ la.length
  len : L.length = la.length + 1
  w : W L
  c1 : c ≤ 1
  v : val (L.take i) + 2 ^ (32 * i) * c = val (la.take i) + val (lb.take i)
theorem AddI.zero {la lb L : List Nat} (hl : L.length = la.length + 1) (hw : W L) : AddI la lb 0 L 0 := ⟨Nat.zero_le _, hl, hw, by omega, by simp [val]⟩
theorem AddI.step {la lb L : List Nat} {i c : Nat} (h : AddI la lb i L c) (ha : W la) (hb : W lb) (hi : i < la.length) : AddI la lb (i + 1) (L.set i ((la.getD i 0 + lb.getD i 0 + c) % 4294967296)) ((la.getD i 0 + lb.getD i 0 + c) / 4294967296) := by
  have h1 := ha.getD i
  have h2 := hb.getD i
  have hc := h.c1
  have hl := h.len
  refine ⟨by omega, by simp [h.len], h.w.set _ (by omega), by omega, ?_⟩
  rw [val_take_succ' (L.set _ _), val_take_succ' la, val_take_succ' lb, take_set_le (Nat.le_refl _), getD_set_self (by omega), two32]
  have hv := h.v
  generalize la.getD i 0 = x at *
  generalize lb.getD i 0 = y at *
  generalize 2 ^ (32 * i) = p at *
  have e : p * ((x + y + c) % 4294967296) + p * 4294967296 * ((x + y + c) / 4294967296) = p * x + p * y + p * c := by
    rw [Nat.mul_assoc, ← Nat.mul_add, Nat.mod_add_div, Nat.mul_add, Nat.mul_add]
  omega
theorem AddI.done {la lb L : List Nat} {c : Nat} (h : AddI la lb la.length L c) (hle : lb.length ≤ la.length) : val (L.set la.length c) = val la + val lb ∧ W (L.set la.length c) ∧ (L.set la.length c).length = la.length + 1 := by
  have hl := h.len
  have hv := h.v
  rw [List.take_length, List.take_of_length_le hle] at hv
  refine ⟨?_, h.w.set _ (by have := h.c1; omega), by simp [hl]⟩
  have e : L.set la.length c = (L.set la.length c).take (la.length + 1) := by rw [List.take_of_length_le (by simp [hl])]
  rw [e, val_take_succ', take_set_le (Nat.le_refl _), getD_set_self (by omega)]
  exact hv
structure SubI (la lb : List Nat) (i : Nat) (L : List Nat) (c : Nat) : Prop where
  le : i ≤ la.length
  len : L.length = la.length
  w : W L
  c1 : c ≤ 1
  v : val (L.take i) + val (lb.take i) = val (la.take i) + 2 ^ (32 * i) * c
theorem SubI.zero {la lb L : List Nat} (hl : L.length = la.length) (hw : W L) : SubI la lb 0 L 0 := ⟨Nat.zero_le _, hl, hw, by omega, by simp [val]⟩
theorem SubI.step {la lb L : List Nat} {i c : Nat} (h : SubI la lb i L c) (ha : W la) (hb : W lb) (hi : i < la.length) : SubI la lb (i + 1) (L.set i ((la.getD i 0 + 8589934592 - lb.getD i 0 - c) % 4294967296)) (if la.getD i 0 < lb.getD i 0 + c then 1 else 0) := by
  have h1 := ha.getD i
  have h2 := hb.getD i
  have hc := h.c1
  have hl := h.len
  refine ⟨by omega, by simp [h.len], h.w.set _ (by omega), by split <;> omega, ?_⟩
  rw [val_take_succ' (L.set _ _), val_take_succ' la, val_take_succ' lb, take_set_le (Nat.le_refl _), getD_set_self (by omega), two32]
  have hv := h.v
  generalize la.getD i 0 = x at *
  generalize lb.getD i 0 = y at *
  generalize 2 ^ (32 * i) = p at *
  split
  · rename_i hlt
    have e : (x + 8589934592 - y - c) % 4294967296 = x + 4294967296 - y - c := by omega
    have e2 : p * (x + 4294967296 - y - c) + p * y + p * c = p * x + p * 4294967296 := by
      rw [← Nat.mul_add, ← Nat.mul_add, ← Nat.mul_add]; congr 1; omega
    rw [e]; omega
  · rename_i hlt
    have e : (x + 8589934592 - y - c) % 4294967296 = x - y - c := by omega
    have e2 : p * (x - y - c) + p * y + p * c = p * x := by
      rw [← Nat.mul_add, ← Nat.mul_add]; congr 1; omega
    rw [e]; omega
theorem SubI.done {la lb L : List Nat} {c : Nat} (h : SubI la lb la.length L c) (ha : W la) (hb : W lb) (hle : val lb ≤ val la) : val L = val la - val lb := by
  have hv := h.v
  rw [List.take_length, List.take_of_length_le (by rw [h.len]; exact Nat.le_refl _)] at hv
  have h1 : val (lb.take la.length) ≤ val lb := by
    by_cases q : la.length ≤ lb.length
    · rw [val_take hb _ q]; exact Nat.mod_le _ _
    · rw [List.take_of_length_le (by omega)]; exact Nat.le_refl _
  have h2 := val_lt h.w
  rw [h.len] at h2
  have h3 := val_lt ha
  have h4 : val (lb.take la.length) = val lb := by
    by_cases q : la.length ≤ lb.length
    · rw [val_take hb _ q, Nat.mod_eq_of_lt (by omega)]
    · rw [List.take_of_length_le (by omega)]
  have hc := h.c1
  have : c = 0 := by
    rcases (by omega : c = 0 ∨ c = 1) with rfl | rfl
    · rfl
    · omega
  subst this
  omega
structure UpI (l : List Nat) (s : Nat) (i : Nat) (L : List Nat) : Prop where
  le : i ≤ l.length
  len : L.length = l.length + 1
  w : W L
  lo : L.getD i 0 < 2 ^ s
  hi : ∀ j, i < j → L.getD j 0 = 0
  v : val L = val (l.take i) * 2 ^ s
theorem UpI.zero (l : List Nat) (s : Nat) : UpI l s 0 (List.replicate (l.length + 1) 0) := ⟨Nat.zero_le _, by simp, W_replicate _, by rw [getD_replicate]; exact Nat.two_pow_pos _, fun j _ => getD_replicate _ _, by rw [val_replicate]; simp [val]⟩
theorem or_of_mul {x y s : Nat} (hx : x < 2 ^ s) : x ||| (y * 2 ^ s) = x + y * 2 ^ s := by
  have := Nat.two_pow_add_eq_or_of_lt hx y
  rw [Nat.or_comm, Nat.mul_comm y, ← this, Nat.add_comm]
theorem UpI.step {l L : List Nat} {s i : Nat} (h : UpI l s i L) (hs : s < 32) (hl : W l) (hi : i < l.length) :
    L.getD i 0 ||| (l.getD i 0 * 2 ^ s % 18446744073709551616 % 4294967296) < 4294967296 ∧
    UpI l s (i + 1) ((L.set i (L.getD i 0 ||| (l.getD i 0 * 2 ^ s % 18446744073709551616 % 4294967296))).set (i + 1) (l.getD i 0 * 2 ^ s % 18446744073709551616 / 2 ^ 32 % 4294967296)) := by
  have hx := hl.getD i
  have hlen := h.len
  have hlo := h.lo
  have hp : 2 ^ s ≤ 2147483648 := by
    have := Nat.pow_le_pow_right (n := 2) (by decide) (show s ≤ 31 by omega)
    rwa [show (2 : Nat) ^ 31 = 2147483648 by decide] at this
  have hp0 := Nat.two_pow_pos s
  have hm : l.getD i 0 * 2 ^ s ≤ 4294967295 * 2 ^ s := Nat.mul_le_mul_right _ (by omega)
  have e1 : l.getD i 0 * 2 ^ s % 18446744073709551616 = l.getD i 0 * 2 ^ s := Nat.mod_eq_of_lt (by omega)
  have e5 : l.getD i 0 * 2 ^ s % 4294967296 = (l.getD i 0 % 2 ^ (32 - s)) * 2 ^ s := by
    have : (4294967296 : Nat) = 2 ^ (32 - s) * 2 ^ s := by rw [← Nat.pow_add, show 32 - s + s = 32 by omega]
    rw [this, Nat.mul_mod_mul_right]
  have e2 : L.getD i 0 ||| (l.getD i 0 * 2 ^ s % 4294967296) = L.getD i 0 + l.getD i 0 * 2 ^ s % 4294967296 := by
    rw [e5, or_of_mul hlo]
  have e3 : L.getD i 0 + l.getD i 0 * 2 ^ s % 4294967296 < 4294967296 := by
    have h1 : l.getD i 0 % 2 ^ (32 - s) + 1 ≤ 2 ^ (32 - s) := Nat.mod_lt _ (Nat.two_pow_pos _)
    have h2 := Nat.mul_le_mul_right (2 ^ s) h1
    rw [← Nat.pow_add, show 32 - s + s = 32 by omega, Nat.add_mul, Nat.one_mul] at h2
    rw [e5]
    have : (2 : Nat) ^ 32 = 4294967296 := by decide
    omega
  have e4 : l.getD i 0 * 2 ^ s / 2 ^ 32 % 4294967296 = l.getD i 0 * 2 ^ s / 4294967296 := by
    have : (2 : Nat) ^ 32 = 4294967296 := by decide
    rw [this]; omega
  rw [e1, e2, e4]
  refine ⟨e3, by omega, by simp [hlen], (h.w.set _ e3).set _ (by omega), ?_, fun j hj => ?_, ?_⟩
  · rw [getD_set_self (by simp; omega), Nat.div_lt_iff_lt_mul (by decide)]
    calc l.getD i 0 * 2 ^ s < 4294967296 * 2 ^ s := by omega
      _ = 2 ^ s * 4294967296 := Nat.mul_comm _ _
  · rw [getD_set_ne (by omega), getD_set_ne (by omega)]; exact h.hi j (by omega)
  · have v1 := val_set (l := L.set i (L.getD i 0 + l.getD i 0 * 2 ^ s % 4294967296)) (i := i + 1) (by simp; omega) (l.getD i 0 * 2 ^ s / 4294967296)
    have v2 := val_set (l := L) (i := i) (by omega) (L.getD i 0 + l.getD i 0 * 2 ^ s % 4294967296)
    rw [getD_set_ne (by omega), h.hi (i + 1) (by omega), Nat.mul_zero, Nat.add_zero] at v1
    have hv := h.v
    rw [val_take_succ' l i, Nat.add_mul, v1, two32, Nat.mul_assoc]
    rw [Nat.mul_add] at v2
    rw [Nat.mul_assoc (2 ^ (32 * i)) (l.getD i 0)]
    generalize l.getD i 0 * 2 ^ s = t at *
    generalize 2 ^ (32 * i) = p at *
    have e6 : p * (t % 4294967296) + p * (4294967296 * (t / 4294967296)) = p * t := by rw [← Nat.mul_add, Nat.mod_add_div]
    omega
theorem UpI.done {l L : List Nat} {s : Nat} (h : UpI l s l.length L) : val L = val l * 2 ^ s := by
  have := h.v
  rwa [List.take_length] at this
structure DownI (l : List Nat) (s : Nat) (i : Nat) (L : List Nat) : Prop where
  le : i ≤ l.length
  len : L.length = l.length
  w : W L
  v : val (L.take i) = val l / 2 ^ s % 2 ^ (32 * i)
theorem DownI.zero (l L : List Nat) (s : Nat) (hl : L.length = l.length) (hw : W L) : DownI l s 0 L := ⟨Nat.zero_le _, hl, hw, by simp [val, Nat.mod_one]⟩
theorem getD_val {l : List Nat} (h : W l) (i : Nat) : l.getD i 0 = val l / 2 ^ (32 * i) % 4294967296 := by
  by_cases hi : i < l.length
  · rw [← val_drop h i (by omega), val_drop_succ hi]
    have := h.getD i
    omega
  · rw [getD_out (by omega), Nat.div_eq_of_lt, Nat.zero_mod]
    exact Nat.lt_of_lt_of_le (val_lt h) (Nat.pow_le_pow_right (by decide) (by omega))
theorem two_words {l : List Nat} (h : W l) (i : Nat) : l.getD i 0 + l.getD (i + 1) 0 * 4294967296 = val l / 2 ^ (32 * i) % 18446744073709551616 := by
  rw [getD_val h i, getD_val h (i + 1), two32, ← Nat.div_div_eq_div_mul]
  generalize val l / 2 ^ (32 * i) = q
  omega
theorem DownI.step {l L : List Nat} {s i x : Nat} (h : DownI l s i L) (hs : s < 32) (hl : W l) (hi : i < l.length) (hx : x = (l.getD i 0 + l.getD (i + 1) 0 * 4294967296) / 2 ^ s % 4294967296) : DownI l s (i + 1) (L.set i x) := by
  have hlen := h.len
  refine ⟨by omega, by simp [hlen], h.w.set _ (by omega), ?_⟩
  rw [val_take_succ', take_set_le (Nat.le_refl _), getD_set_self (by omega), h.v, hx, two_words hl]
  have e1 : val l / 2 ^ (32 * i) % 18446744073709551616 / 2 ^ s % 4294967296 = val l / 2 ^ s / 2 ^ (32 * i) % 4294967296 := by
    rw [Nat.div_div_eq_div_mul (val l) (2 ^ s), Nat.mul_comm (2 ^ s), ← Nat.div_div_eq_div_mul]
    generalize val l / 2 ^ (32 * i) = q
    have e64 : (18446744073709551616 : Nat) = 2 ^ s * (4294967296 * 2 ^ (32 - s)) := by
      rw [Nat.mul_left_comm, ← Nat.pow_add, show s + (32 - s) = 32 by omega]
    rw [e64, Nat.mod_mul_right_div_self, Nat.mod_mul_right_mod]
  rw [e1, two32, Nat.mod_mul]
theorem DownI.done {l L : List Nat} {s : Nat} (h : DownI l s l.length L) (hl : W l) : val L = val l / 2 ^ s := by
  have := h.v
  rw [List.take_of_length_le (by rw [h.len]; exact Nat.le_refl _)] at this
  rw [this, Nat.mod_eq_of_lt (Nat.lt_of_le_of_lt (Nat.div_le_self _ _) (val_lt hl))]
structure MulJ (x : Nat) (lb : List Nat) (i : Nat) (L0 : List Nat) (j : Nat) (L : List Nat) (c : Nat) : Prop where
  le : j ≤ lb.length
  len : L.length = L0.length
  w : W L
  c1 : c < 4294967296
  hi : ∀ k, i + j ≤ k → L.getD k 0 = L0.getD k 0
  v : val L + 2 ^ (32 * (i + j)) * c = val L0 + 2 ^ (32 * i) * (x * val (lb.take j))
theorem MulJ.zero {x : Nat} {lb L0 : List Nat} {i : Nat} (hw : W L0) : MulJ x lb i L0 0 L0 0 := ⟨Nat.zero_le _, rfl, hw, by omega, fun _ _ => rfl, by simp [val]⟩
theorem MulJ.fits {x y z c : Nat} (hx : x < 4294967296) (hy : y < 4294967296) (hz : z < 4294967296) (hc : c < 4294967296) : x * y + z + c < 18446744073709551616 ∧ x * y < 18446744073709551616 ∧ x * y + z < 18446744073709551616 := by
  have : x * y ≤ 4294967295 * 4294967295 := Nat.mul_le_mul (by omega) (by omega)
  omega
theorem MulJ.step {x : Nat} {lb L0 L : List Nat} {i j c : Nat} (h : MulJ x lb i L0 j L c) (hx : x < 4294967296) (hb : W lb) (hj : j < lb.length) (hlen : i + lb.length ≤ L0.length) :
    MulJ x lb i L0 (j + 1) (L.set (i + j) ((x * lb.getD j 0 + L.getD (i + j) 0 + c) % 4294967296)) ((x * lb.getD j 0 + L.getD (i + j) 0 + c) / 4294967296) := by
  have hl := h.len
  have hf := (MulJ.fits hx (hb.getD j) (h.w.getD (i + j)) h.c1).1
  refine ⟨by omega, by simp [hl], h.w.set _ (by omega), by omega, fun k hk => ?_, ?_⟩
  · rw [getD_set_ne (by omega)]; exact h.hi k (by omega)
  · have v1 := val_set (l := L) (i := i + j) (by omega) ((x * lb.getD j 0 + L.getD (i + j) 0 + c) % 4294967296)
    have hv := h.v
    rw [show i + (j + 1) = i + j + 1 by omega, two32 (i + j), val_take_succ' lb j, Nat.mul_add x, Nat.mul_add (2 ^ (32 * i))]
    have e1 : 2 ^ (32 * i) * (x * (2 ^ (32 * j) * lb.getD j 0)) = 2 ^ (32 * (i + j)) * (x * lb.getD j 0) := by
      rw [show 32 * (i + j) = 32 * i + 32 * j by omega, Nat.pow_add, Nat.mul_assoc, Nat.mul_left_comm x]
    rw [e1]
    generalize x * lb.getD j 0 = t at *
    generalize L.getD (i + j) 0 = z at *
    generalize 2 ^ (32 * (i + j)) = p at *
    have e2 : p * ((t + z + c) % 4294967296) + p * 4294967296 * ((t + z + c) / 4294967296) = p * t + p * z + p * c := by
      rw [Nat.mul_assoc, ← Nat.mul_add, Nat.mod_add_div, Nat.mul_add, Nat.mul_add]
    omega
structure MulI (la lb : List Nat) (i : Nat) (L : List Nat) : Prop where
  le : i ≤ la.length
  len : L.length = la.length + lb.length
  w : W L
  hi : ∀ k, i + lb.length ≤ k → L.getD k 0 = 0
  v : val L = val (la.take i) * val lb
theorem MulI.zero (la lb : List Nat) : MulI la lb 0 (List.replicate (la.length + lb.length) 0) := ⟨Nat.zero_le _, by simp, W_replicate _, fun _ _ => getD_replicate _ _, by rw [val_replicate]; simp [val]⟩
theorem MulI.step {la lb L0 L : List Nat} {i c : Nat} (h : MulI la lb i L0) (hi : i < la.length) (k : MulJ (la.getD i 0) lb i L0 lb.length L c) : MulI la lb (i + 1) (L.set (i + lb.length) c) := by
  have hl := h.len
  have hl2 := k.len
  refine ⟨by omega, by simp [hl2, hl], k.w.set _ k.c1, fun q hq => ?_, ?_⟩
  · rw [getD_set_ne (by omega), k.hi q (by omega)]; exact h.hi q (by omega)
  · have v1 := val_set (l := L) (i := i + lb.length) (by omega) c
    rw [k.hi _ (Nat.le_refl _), h.hi _ (Nat.le_refl _), Nat.mul_zero, Nat.add_zero] at v1
    have v2 := k.v
    rw [List.take_length] at v2
    rw [val_take_succ' la i, Nat.add_mul, v1, v2, h.v, Nat.mul_assoc]
theorem MulI.done {la lb L : List Nat} (h : MulI la lb la.length L) : val L = val la * val lb := by
  have := h.v
  rwa [List.take_length] at this
def sgn (a b : Nat) : Int := if a < b then -1 else if b < a then 1 else 0
theorem sgn_drop {la lb : List Nat} {k : Nat} (ha : W la) (hb : W lb) (hl : la.length = lb.length) (hk : k < la.length) (he : la.drop (k + 1) = lb.drop (k + 1)) : (la.getD k 0 < lb.getD k 0 → sgn (val la) (val lb) = -1) ∧ (lb.getD k 0 < la.getD k 0 → sgn (val la) (val lb) = 1) ∧ (la.getD k 0 = lb.getD k 0 → la.drop k = lb.drop k) := by
  have h1 := val_take_drop la k (by omega)
  have h2 := val_take_drop lb k (by omega)
  have h3 := val_lt (ha.take k)
  have h4 := val_lt (hb.take k)
  rw [List.length_take, Nat.min_eq_left (by omega)] at h3 h4
  rw [val_drop_succ hk] at h1
  rw [val_drop_succ (by omega), ← he] at h2
  generalize val (la.drop (k + 1)) = r at *
  have hp := Nat.two_pow_pos (32 * k)
  refine ⟨fun h => ?_, fun h => ?_, fun h => by rw [drop_getD hk, drop_getD (l := lb) (i := k) (by omega), h, he]⟩
  · have : 2 ^ (32 * k) * (la.getD k 0 + 4294967296 * r + 1) ≤ 2 ^ (32 * k) * (lb.getD k 0 + 4294967296 * r) := Nat.mul_le_mul_left _ (by omega)
    rw [Nat.mul_add, Nat.mul_one] at this
    unfold sgn
    rw [if_pos (by omega)]
  · have : 2 ^ (32 * k) * (lb.getD k 0 + 4294967296 * r + 1) ≤ 2 ^ (32 * k) * (la.getD k 0 + 4294967296 * r) := Nat.mul_le_mul_left _ (by omega)
    rw [Nat.mul_add, Nat.mul_one] at this
    unfold sgn
    rw [if_neg (by omega), if_pos (by omega)]
theorem sgn_len {a b : Nat} : ((wd a).length < (wd b).length → sgn a b = -1) ∧ ((wd b).length < (wd a).length → sgn a b = 1) := by
  constructor
  · intro h
    have : a < b := Nat.lt_of_not_le fun hle => by have := wd_length_mono hle; omega
    unfold sgn; rw [if_pos this]
  · intro h
    have : b < a := Nat.lt_of_not_le fun hle => by have := wd_length_mono hle; omega
    unfold sgn; rw [if_neg (by omega), if_pos this]
theorem sgn_self (a : Nat) : sgn a a = 0 := by simp [sgn]
theorem tz_words {l : List Nat} {i : Nat} (hw : W l) (hi : i < l.length) (hz : val (l.take i) = 0) (hx : l.getD i 0 ≠ 0) : tz (val l) = 32 * i + tz (l.getD i 0) := by
  have h1 := val_take_drop l i (by omega)
  rw [hz, Nat.zero_add, val_drop_succ hi] at h1
  have hlt := hw.getD i
  generalize l.getD i 0 = x at *
  generalize val (l.drop (i + 1)) = r at *
  obtain ⟨a, b⟩ := tz_spec hx
  have ht : tz x < 32 := Nat.lt_of_lt_of_le (tz_lt_bl hx) (bl_le.2 (by omega))
  generalize tz x = t at *
  generalize x / 2 ^ t = q at *
  have e : val l = (q + 2 ^ (32 - t) * r) * 2 ^ (32 * i + t) := by
    rw [h1, b, Nat.pow_add, Nat.add_mul, Nat.mul_add]
    have e32 : (4294967296 : Nat) = 2 ^ (32 - t) * 2 ^ t := by rw [← Nat.pow_add, show 32 - t + t = 32 by omega]
    rw [e32]
    simp only [Nat.mul_comm, Nat.mul_left_comm, Nat.mul_assoc]
  refine tz_unique e ?_
  have : 2 ^ (32 - t) = 2 * 2 ^ (31 - t) := by rw [show 32 - t = (31 - t) + 1 by omega, Nat.pow_succ, Nat.mul_comm]
  rw [this, Nat.mul_assoc]
  omega
theorem val_one {l : List Nat} (h : l.length = 1) : val l = l.getD 0 0 := by
  match l, h with
  | [x], _ => simp [val]
theorem val_two {l : List Nat} (h : l.length = 2) : val l = l.getD 0 0 + 4294967296 * l.getD 1 0 := by
  match l, h with
  | [x, y], _ => simp [val]
end Wd

/- Package wide: numbers of many words. No condition. -/
section
open Go Sx Wd

structure K0 (l : List Nat) (w : World) (k : Nat) (wr : World) : Prop where
  le : k ≤ l.length
  vl : val (l.take k) = val l
  eq : w = wr

theorem cut_spec (v : Value) (l : List Nat) (w : World) (h : NU w v l) : Ret Tryz.prog 255 [v] w fun u w' => NU w u (wd (val l)) ∧ w = w' := by
 obtain ⟨⟨al, cl, rfl, hcapl, hrl⟩, hWl, hll⟩ := h;have hch := crf w;refine zE1 Tryz.func255 rfl ?_;refine Sr fun _ kh1 => za rfl (zz (kh1 (zc fun _ kh3 => CW.block ?_)));refine CW.loop (S := fun k : Nat => [(0, .slice al k cl)]) (Inv := K0 l w) (mu := fun k => k) (l.length) ?_ ?_ ?_
 ·exact ⟨Nat.le_refl _, by rw [List.take_length], rfl⟩
 ·exact SLp
 rintro k _ ⟨hkl, hvl, rfl⟩;refine zc fun _ kh4 => ?_;refine CW.seqM 14 (decide (0 < k ∧ l.getD (k - 1) 0 = 0)) ?_ ?_
 ·refine zS fun _ kr5 => zm rfl (zn rfl (zG rfl rfl (zm rfl ?_)));refine zb ?_ ?_<;>intro hg1<;>try simp only [qs] at hg1
  ·refine zw rfl (zm rfl (zw rfl (zm rfl (zw rfl (zn rfl (zw rfl ?_))))))
   first | refine WL.ev (Ev.subIn rfl rfl (by omega)) rfl ?_ | refine WL.ev (Ev.sub rfl rfl) rfl ?_
   refine zw rfl ?_;refine WL.ev (Ev.ixR ((k - 1)) rfl rfl (hrl.keep0 hch) (by omega) (by omega) (by simp; omega)) rfl ?_;refine zw rfl ?_;refine WL.ev (Ev.load rfl rfl ((hrl.keep0 hch).u32 (by first | omega | (simp; omega)))) rfl ?_;have hw12 := hWl.getD ((k - 1));refine zw rfl (zq rfl rfl (zt rfl rfl (zz (kr5 ?_))));refine ⟨rfl, rfl, Subs.consB rfl ?_ ?_⟩
   ·first | (simp; omega) | (refine decide_eq_decide.2 ?_; omega)
   exact SMg
  refine zv rfl (zv rfl (zv rfl (zv rfl (zv rfl (zv rfl (zv rfl (ze rfl rfl (zz (kr5 ?_)))))))));refine ⟨rfl, rfl, Subs.consB rfl ?_ ?_⟩
  ·first | (simp; omega) | (refine decide_eq_decide.2 ?_; omega)
  exact SMg
 refine zy rfl ?_ ?_<;>intro hc2<;>try simp only [qs] at hc2
 ·refine zkk (kh4 (CW.block (zS fun _ kr6 => zm rfl (zm rfl (zn rfl ?_)))))
  first | refine WL.ev (Ev.subIn rfl rfl (by omega)) rfl ?_ | refine WL.ev (Ev.sub rfl rfl) rfl ?_
  refine WL.ev (Ev.sliceHn ((k - 1)) rfl rfl (by omega) (by omega)) rfl ?_;refine za rfl (zz (kr6 ?_));refine ⟨rfl, k - 1, ?_, ?_, ?_⟩
  ·exact SLp
  ·exact ⟨by omega, by rw [take_pred hkl (by omega) (by omega)]; exact hvl, rfl⟩
  omega
 refine CW.exit ?_;refine kh3 (Sr fun _ kh7 => zm rfl (za rfl (zz (kh7 ?_))));refine zr (zr1 rfl rfl ?_);rw [cut_wd hWl hkl hvl (by omega)];exact ⟨NU.part hrl hWl hll hkl (by omega), rfl⟩

theorem Norm_spec (v : Value) (l : List Nat) (w : World) (h : NU w v l) : Ret Tryz.prog 256 [v] w fun u w' => NU w' u (wd (val l)) ∧ Chg [] w w' := by
 obtain ⟨⟨al, cl, rfl, hcapl, hrl⟩, hWl, hll⟩ := h;have hch := crf w;refine zE1 Tryz.func256 rfl ?_;refine Sr fun _ kh1 => za rfl (zz (kh1 (Sr fun _ kh3 => zm rfl (zn rfl (za rfl (zz (kh3 (zc fun _ kh5 => CW.block ?_))))))));refine CW.loop (S := fun k : Nat => [(0, .slice al l.length cl), (3, .int .i64 (k : Int))]) (Inv := K0 l w) (mu := fun k => k) (l.length) ?_ ?_ ?_
 ·exact ⟨Nat.le_refl _, by rw [List.take_length], rfl⟩
 ·exact SLp
 rintro k _ ⟨hkl, hvl, rfl⟩;refine zc fun _ kh6 => ?_;refine CW.seqM 16 (decide (0 < k ∧ l.getD (k - 1) 0 = 0)) ?_ ?_
 ·refine zS fun _ kr7 => zm rfl (zG rfl rfl (zm rfl ?_));refine zb ?_ ?_<;>intro hg1<;>try simp only [qs] at hg1
  ·refine zw rfl (zm rfl (zw rfl (zm rfl (zw rfl ?_))))
   first | refine WL.ev (Ev.subIn rfl rfl (by omega)) rfl ?_ | refine WL.ev (Ev.sub rfl rfl) rfl ?_
   refine zw rfl ?_;refine WL.ev (Ev.ixR ((k - 1)) rfl rfl (hrl.keep0 hch) (by omega) (by omega) (by simp; omega)) rfl ?_;refine zw rfl ?_;refine WL.ev (Ev.load rfl rfl ((hrl.keep0 hch).u32 (by first | omega | (simp; omega)))) rfl ?_;have hw14 := hWl.getD ((k - 1));refine zw rfl (zq rfl rfl (zt rfl rfl (zz (kr7 ?_))));refine ⟨rfl, rfl, Subs.consB rfl ?_ ?_⟩
   ·first | (simp; omega) | (refine decide_eq_decide.2 ?_; omega)
   exact SMg
  refine zv rfl (zv rfl (zv rfl (zv rfl (zv rfl (zv rfl (ze rfl rfl (zz (kr7 ?_))))))));refine ⟨rfl, rfl, Subs.consB rfl ?_ ?_⟩
  ·first | (simp; omega) | (refine decide_eq_decide.2 ?_; omega)
  exact SMg
 refine zy rfl ?_ ?_<;>intro hc2<;>try simp only [qs] at hc2
 ·refine zkk (kh6 (CW.block (zS fun _ kr8 => zm rfl ?_)))
  first | refine WL.ev (Ev.subIn rfl rfl (by omega)) rfl ?_ | refine WL.ev (Ev.sub rfl rfl) rfl ?_
  refine za rfl (zz (kr8 ?_));refine ⟨rfl, k - 1, ?_, ?_, ?_⟩
  ·exact SLp
  ·exact ⟨by omega, by rw [take_pred hkl (by omega) (by omega)]; exact hvl, rfl⟩
  omega
 refine CW.exit ?_;refine kh5 (Sr fun _ kh9 => zm rfl ?_);refine WL.makeU (k) (k) rfl rfl (by omega) (by omega) (by omega) (by omega) (by omega) rfl fun b20 wm20 hb20 hcm20 hge20 => ?_;have hgehch20 := Nat.le_trans hch.size hge20;have hch := hch.ta hcm20;refine za rfl (zz (kh9 (Sr fun _ kh11 => zm rfl (zm rfl ?_))));refine WL.copyU rfl rfl hb20 (hrl.keep0 hch) (by simp; try omega) (by simp; try omega) rfl fun ws1 hb20_ hcs1 => ?_;have hch := hch.s1 hcs1;have hb20 := hb20_;rw [show ((l).take (min ((l).length) (k)) ++ (List.replicate (k) 0).drop (min ((l).length) (k))) = l.take k from by rw [show min l.length k = k by omega, List.drop_eq_nil_of_le (by simp), List.append_nil]] at hb20;refine zz (kh11 (Sr fun _ kh13 => zm rfl (za rfl (zz (kh13 ?_)))));refine zr (zr1 rfl rfl ?_);rw [cut_wd hWl hkl hvl (by omega)];exact ⟨NU.of_block hb20 (hWl.take k) (by simp; omega) (by simp; omega) (Nat.le_refl _), hch⟩

theorem Of_spec (n : Nat) (w : World) (hn : n < 18446744073709551616) : Ret Tryz.prog 213 [.int .u64 (n : Int)] w fun u w' => NU w' u (wd n) ∧ Chg [] w w' := by
 refine zE1 Tryz.func213 rfl ?_;refine Sr fun _ kh1 => za rfl (zz (kh1 (Sr fun _ kh3 => zm rfl ?_)));refine WL.ev (Ev.conv32 rfl rfl) rfl ?_;refine zm rfl ?_;refine WL.ev (Ev.shrU (b := 32) rfl rfl (by simp only [IntKind.bits]; omega)) rfl ?_;refine WL.ev (Ev.conv32 rfl rfl) rfl ?_;refine WL.buildSlice (cs := [.int .u32 ((n % 4294967296 : Nat) : Int), .int .u32 ((n / 2 ^ 32 % 4294967296 : Nat) : Int)]) (by decide) (by decide) rfl (by kernel_rfl) rfl fun b8 w8 n8 => ?_;have hN8 : NU w8 (.slice (some ⟨b8, 0, none⟩) 2 2) [n % 4294967296, n / 2 ^ 32 % 4294967296] := NU.of_block (E := 209) n8.at_ (W_cons.2 ⟨by omega, W_cons.2 ⟨by omega, W_nil⟩⟩) (by simp) rfl (by omega);have hv8 : val [n % 4294967296, n / 2 ^ 32 % 4294967296] = n := by simp only [val]; omega
 refine WL.call hasF256 rfl rfl (Norm_spec _ _ _ hN8) fun v w1 h' => ?_;obtain ⟨hN, hC⟩ := h';rw [hv8] at hN;refine za rfl (zz (kh3 ?_));refine zr (zr1 rfl rfl ?_);exact ⟨hN, n8.chg.trans hC⟩

theorem Small_spec (v : Value) (l : List Nat) (w : World) (h : NU w v l) : Ret Tryz.prog 269 [v] w fun u w' => u = .tuple [.int .u64 ((if val l < 18446744073709551616 then val l else 0 : Nat) : Int), .int .i64 (if val l < 18446744073709551616 then 0 else 2)].toArray ∧ w = w' := by
 have hlen2 : (wd (val l)).length ≤ 2 ↔ val l < 18446744073709551616 := wd_length_le (n := val l) (k := 2);have hvw := val_wd (val l);obtain ⟨L, hL⟩ : ∃ L, L = wd (val l) := ⟨_, rfl⟩;rw [← hL] at hlen2 hvw;refine zE1 Tryz.func269 rfl ?_;refine Sr fun _ kh1 => za rfl (za rfl (zz (kh1 (Sr fun _ kh3 => za rfl (zz (kh3 (zc fun _ kh5 => Sr fun _ kh6 => zm rfl ?_)))))));refine WL.call hasF255 rfl rfl (cut_spec _ _ _ h) fun v w1 h' => ?_;obtain ⟨hN, rfl⟩ := h';rw [← hL] at hN;obtain ⟨⟨a1, c1, rfl, hcap1, hr1⟩, hW1, hl1⟩ := hN;refine za rfl (zz (kh6 (CW.block (Sr fun _ kh8 => zm rfl (zn rfl (zG rfl rfl (za rfl (zz (kh8 ?_)))))))));refine zy rfl ?_ ?_<;>intro hc1<;>try simp only [qs] at hc1
 ·refine Sr fun _ kh10 => za rfl (za rfl (zz (kh10 ?_)));refine zr (zr2 rfl rfl rfl ?_);rw [if_neg (by omega), if_neg (by omega)];exact ⟨rfl, rfl⟩
 refine Sr fun _ kh12 => zm rfl (zn rfl (zq rfl rfl (za rfl (zz (kh12 ?_)))));refine zy rfl ?_ ?_<;>intro hc2<;>try simp only [qs] at hc2
 ·have hv2 := val_two (l := L) (by omega);have hw0 := hW1.getD 0
  have hw1 := hW1.getD 1;refine zR fun _ kr14 => ?_;refine zm rfl ?_;refine WL.ev (Ev.ixR (1) rfl rfl hr1 (by omega) (by omega) (by simp; omega)) rfl ?_;refine WL.ev (Ev.load rfl rfl (hr1.u32 (by first | omega | (simp; omega)))) rfl ?_;have hw17 := hW1.getD (1);refine WL.ev (Ev.convIn rfl rfl (in_u64 (by omega))) rfl ?_;refine WL.ev (Ev.shlU64 (b := 32) rfl rfl) rfl ?_;refine za rfl ?_;refine WL.nil (kr14 _ _ _ (kh5 ?_));refine zc fun _ kh15 => Sr fun _ kh16 => zm rfl (zn rfl (zG rfl rfl (zz (kh16 ?_))));refine zy rfl ?_ ?_<;>intro hc3<;>try simp only [qs] at hc3
  ·refine zR fun _ kr18 => ?_
   refine zm rfl (zm rfl ?_);refine WL.ev (Ev.ixR (0) rfl rfl hr1 (by omega) (by omega) (by simp; omega)) rfl ?_;refine WL.ev (Ev.load rfl rfl (hr1.u32 (by first | omega | (simp; omega)))) rfl ?_;have hw26 := hW1.getD (0);refine WL.ev (Ev.convIn rfl rfl (in_u64 (by omega))) rfl ?_;refine WL.ev (Ev.orU rfl rfl rfl (by simp only [IntKind.bits]; omega) (by simp only [IntKind.bits]; omega)) rfl ?_;refine za rfl ?_;refine WL.nil (kr18 _ _ _ (kh15 ?_));refine Sr fun _ kh19 => zm rfl (za rfl (za rfl (zz (kh19 ?_))));refine zr (zr2 rfl rfl rfl ?_);have e : L.getD 1 0 * 2 ^ 32 % 18446744073709551616 ||| L.getD 0 0 = val l := by
    rw [Nat.mod_eq_of_lt (by omega), Nat.or_comm, or_of_mul (by omega)]; omega
   rw [e, if_pos (by omega), if_pos (by omega)];exact ⟨rfl, rfl⟩
  exfalso; omega
 refine zkk (kh5 (zc fun _ kh21 => Sr fun _ kh22 => zm rfl (zn rfl (zG rfl rfl (zz (kh22 ?_))))));refine zy rfl ?_ ?_<;>intro hc4<;>try simp only [qs] at hc4
 ·have hv1 := val_one (l := L) (by omega);refine zR fun _ kr24 => ?_
  refine zm rfl (zm rfl ?_);refine WL.ev (Ev.ixR (0) rfl rfl hr1 (by omega) (by omega) (by simp; omega)) rfl ?_;refine WL.ev (Ev.load rfl rfl (hr1.u32 (by first | omega | (simp; omega)))) rfl ?_;have hw26 := hW1.getD (0);refine WL.ev (Ev.convIn rfl rfl (in_u64 (by omega))) rfl ?_;refine WL.ev (Ev.orU rfl rfl rfl (by simp only [IntKind.bits]; omega) (by simp only [IntKind.bits]; omega)) rfl ?_;refine za rfl ?_;refine WL.nil (kr24 _ _ _ (kh21 ?_));refine Sr fun _ kh25 => zm rfl (za rfl (za rfl (zz (kh25 ?_))));refine zr (zr2 rfl rfl rfl ?_);rw [Nat.zero_or, if_pos (by omega), if_pos (by omega), ← hvw, hv1];exact ⟨rfl, rfl⟩
 have hv0 : L = [] := List.length_eq_zero_iff.1 (by omega);have hv1 : val l = 0 := by rw [← hvw, hv0]; rfl
 refine zkk (kh21 (Sr fun _ kh27 => zm rfl (za rfl (za rfl (zz (kh27 ?_))))));refine zr (zr2 rfl rfl rfl ?_);rw [if_pos (by omega), if_pos (by omega), hv1];exact ⟨rfl, rfl⟩

theorem Len_spec (v : Value) (l : List Nat) (w : World) (h : NU w v l) : Ret Tryz.prog 184 [v] w fun u w' => u = .int .i64 (bl (val l) : Int) ∧ w = w' := by
 have hvw := val_wd (val l);obtain ⟨L, hL⟩ : ∃ L, L = wd (val l) := ⟨_, rfl⟩;rw [← hL] at hvw;refine zE1 Tryz.func184 rfl ?_;refine Sr fun _ kh1 => za rfl (zz (kh1 (zc fun _ kh3 => Sr fun _ kh4 => zm rfl ?_)));refine WL.call hasF255 rfl rfl (cut_spec _ _ _ h) fun v w1 h' => ?_;obtain ⟨hN, rfl⟩ := h';rw [← hL] at hN;obtain ⟨⟨a1, c1, rfl, hcap1, hr1⟩, hW1, hl1⟩ := hN;refine za rfl (zz (kh4 (Sr fun _ kh6 => zm rfl (zn rfl (zq rfl rfl (zz (kh6 ?_)))))));refine zy rfl ?_ ?_<;>intro hc1<;>try simp only [qs] at hc1
 ·refine Sr fun _ kh8 => za rfl (zz (kh8 ?_));refine zr (zr1 rfl rfl ?_);have hv0 : L = [] := List.length_eq_zero_iff.1 (by omega);rw [← hvw, hv0];exact ⟨rfl, rfl⟩
 have hlast : L.getD (L.length - 1) 0 ≠ 0 := by rw [hL]; exact wd_last fun e => by rw [e, wd_zero] at hL; rw [hL] at hc1; exact hc1 rfl
 have hbl := bl_val hW1 (fun e => by rw [e] at hc1; exact hc1 rfl) hlast;rw [hvw] at hbl;have hb32 := bl_le.2 (show L.getD (L.length - 1) 0 < 2 ^ 32 from hW1.getD _);refine zkk (kh3 (Sr fun _ kh10 => zm rfl (zn rfl ?_)))
 first | refine WL.ev (Ev.subIn rfl rfl (by omega)) rfl ?_ | refine WL.ev (Ev.sub rfl rfl) rfl ?_
 refine WL.ev (Ev.mulIn rfl rfl (by omega)) rfl ?_;refine zm rfl (zm rfl (zn rfl ?_))
 first | refine WL.ev (Ev.subIn rfl rfl (by omega)) rfl ?_ | refine WL.ev (Ev.sub rfl rfl) rfl ?_
 refine WL.ev (Ev.ixR (((L).length - 1)) rfl rfl hr1 (by omega) (by omega) (by simp; omega)) rfl ?_;refine WL.ev (Ev.load rfl rfl (hr1.u32 (by first | omega | (simp; omega)))) rfl ?_;have hw17 := hW1.getD (((L).length - 1));refine WL.call hasF267 rfl rfl (Len32_spec _ _ (hW1.getD _)) fun v w2 h' => ?_;obtain ⟨rfl, rfl⟩ := h';(first | refine zi rfl rfl ?_ | refine zo rfl rfl ?_);refine za rfl (zz (kh10 ?_));refine zr (zr1 rfl rfl ?_);refine ⟨?_, rfl⟩;rw [hbl]; first | rfl | (congr 1; omega)

structure KL (l : List Nat) (w : World) (i : Nat) (wr : World) : Prop where
  le : i ≤ l.length
  z : val (l.take i) = 0
  eq : w = wr

theorem Low_spec (v : Value) (l : List Nat) (w : World) (h : NU w v l) (hg : GW w) : Ret Tryz.prog 260 [v] w fun u w' => u = .int .i64 (tz (val l) : Int) ∧ w = w' := by
 obtain ⟨⟨al, cl, rfl, hcapl, hrl⟩, hWl, hll⟩ := h;have hch := crf w;refine zE1 Tryz.func260 rfl ?_;refine Sr fun _ kh1 => za rfl (zz (kh1 (zc fun _ kh3 => Sr fun _ kh4 => zm rfl (zn rfl (zm rfl (zz (kh4 (CW.block ?_))))))));refine CW.loop (S := fun i : Nat => [(5, .slice al l.length cl), (6, .int .i64 (l.length : Int)), (7, .int .i64 (i : Int))]) (Inv := KL l w) (mu := fun i => l.length - i) (0) ?_ ?_ ?_
 ·exact ⟨Nat.zero_le _, rfl, rfl⟩
 ·exact SLp
 rintro i _ ⟨hil, hz, rfl⟩;refine Sr fun _ kh6 => zL rfl rfl (zz (kh6 (zc fun _ kh8 => ?_)));refine zy rfl ?_ ?_<;>intro hc1<;>try simp only [qs] at hc1
 ·refine zkk (kh8 (zc fun _ kh9 => CW.block (Sr fun _ kh10 => zm rfl ?_)));refine WL.ev (Ev.ixR (i) rfl rfl (hrl.keep0 hch) (by omega) (by omega) (by simp; omega)) rfl ?_
  refine WL.ev (Ev.load rfl rfl ((hrl.keep0 hch).u32 (by first | omega | (simp; omega)))) rfl ?_;have hw11 := hWl.getD (i);refine za rfl (za rfl (zz (kh10 (Sr fun _ kh12 => zm rfl (zN rfl rfl (zz (kh12 ?_)))))));refine zy rfl ?_ ?_<;>intro hc2<;>try simp only [qs] at hc2
  ·have htz := tz_words hWl (by omega) hz (by omega);have htl := tz_lt_bl (n := l.getD i 0) (by omega);have hb32 := bl_le.2 (show l.getD i 0 < 2 ^ 32 from hWl.getD _);refine Sr fun _ kh14 => zm rfl ?_
   refine WL.ev (Ev.mulIn rfl rfl (by omega)) rfl ?_;refine zm rfl ?_;refine WL.call hasF312 rfl rfl (TrailingZeros32_spec _ _ hg (by omega) (hWl.getD _)) fun v w1 h' => ?_;obtain ⟨rfl, rfl⟩ := h';(first | refine zi rfl rfl ?_ | refine zo rfl rfl ?_);refine za rfl (zz (kh14 ?_));refine zr (zr1 rfl rfl ?_);refine ⟨?_, rfl⟩;rw [htz]; first | rfl | (congr 1; omega)
  refine zkk (kh9 (zS fun _ kr16 => ?_));(first | refine zi rfl rfl ?_ | refine zo rfl rfl ?_);refine zm rfl (zz (kr16 ?_));refine ⟨rfl, i + 1, ?_, ?_, ?_⟩
  ·exact SLp
  ·exact ⟨by omega, by rw [val_take_succ' l i, hz, (by omega : l.getD i 0 = 0)]; simp, rfl⟩
  show l.length - (i + 1) < l.length - i; omega
 refine CW.exit ?_;refine kh3 (Sr fun _ kh17 => za rfl (zz (kh17 ?_)));refine zr (zr1 rfl rfl ?_);have e : i = l.length := by omega
 subst e;rw [List.take_length] at hz;rw [hz, tz_zero];exact ⟨rfl, rfl⟩

end

/- Package wide: sums, differences, products, moves. No condition. -/
section
open Go Sx Wd

theorem testBit_words {l : List Nat} (h : W l) (n : Nat) : (val l).testBit n = decide (l.getD (n / 32) 0 / 2 ^ (n % 32) % 2 = 1) := by
  rw [getD_val h, Nat.testBit_eq_decide_div_mod_eq]
  refine decide_eq_decide.2 ?_
  have e : val l / 2 ^ n = val l / 2 ^ (32 * (n / 32)) / 2 ^ (n % 32) := by
    rw [Nat.div_div_eq_div_mul, ← Nat.pow_add, show 32 * (n / 32) + n % 32 = n by omega]
  rw [e]
  generalize val l / 2 ^ (32 * (n / 32)) = q
  have hn : n % 32 < 32 := Nat.mod_lt _ (by decide)
  generalize n % 32 = r at *
  have e32 : (4294967296 : Nat) = 2 ^ r * (2 * 2 ^ (31 - r)) := by
    rw [show 2 * 2 ^ (31 - r) = 2 ^ (32 - r) by rw [Nat.mul_comm, ← Nat.pow_succ, show (31 - r).succ = 32 - r by omega], ← Nat.pow_add, show r + (32 - r) = 32 by omega]
  rw [e32, Nat.mod_mul_right_div_self, Nat.mod_mul_right_mod]

theorem Bit_spec (v : Value) (l : List Nat) (i : Int) (w : World) (h : NU w v l) (hi : -9223372036854775808 ≤ i ∧ i ≤ 9223372036854775807) : Ret Tryz.prog 271 [v, .int .i64 i] w fun u w' => u = .bool (decide (0 ≤ i) && (val l).testBit i.toNat) ∧ w = w' := by
 obtain ⟨⟨al, cl, rfl, hcapl, hrl⟩, hWl, hll⟩ := h;have hch := crf w;refine zE2 Tryz.func271 rfl ?_;refine Sr fun _ kh1 => za rfl (zz (kh1 (Sr fun _ kh3 => zm rfl ?_)));refine WL.ev (Ev.geq rfl rfl) rfl ?_;refine zm rfl ?_;refine zb ?_ ?_<;>intro hg1<;>try simp only [qs] at hg1
 ·obtain ⟨n, rfl⟩ : ∃ n : Nat, i = (n : Int) := ⟨i.toNat, by omega⟩
  have htb := testBit_words hWl n;refine zw rfl (zm rfl (zw rfl ?_));refine WL.ev (Ev.quoU (b := 32) rfl rfl (by omega) (in_i64 (by omega)).2) rfl ?_;refine zw rfl (zm rfl (zw rfl (zn rfl (zw rfl (zL rfl rfl (zt rfl rfl (zm rfl ?_)))))));refine zb ?_ ?_<;>intro hg2<;>try simp only [qs] at hg2
  ·refine zw rfl (zm rfl (zw rfl (zm rfl (zw rfl ?_))));refine WL.ev (Ev.quoU (b := 32) rfl rfl (by omega) (in_i64 (by omega)).2) rfl ?_
   refine zw rfl ?_;refine WL.ev (Ev.ixR ((n / 32)) rfl rfl (hrl.keep0 hch) (by omega) (by omega) (by simp; omega)) rfl ?_;refine zw rfl ?_;refine WL.ev (Ev.load rfl rfl ((hrl.keep0 hch).u32 (by first | omega | (simp; omega)))) rfl ?_;have hw19 := hWl.getD ((n / 32));refine zw rfl (zm rfl (zw rfl ?_));refine WL.ev (Ev.remU (b := 32) rfl rfl (by omega)) rfl ?_;refine zw rfl ?_;refine WL.ev (Ev.shrU rfl rfl (by simp only [IntKind.bits]; omega)) rfl ?_;have hq2 : l.getD (n / 32) 0 / 2 ^ (n % 32) ≤ l.getD (n / 32) 0 := Nat.div_le_self _ _;refine zw rfl ?_;refine WL.ev (Ev.andU (b := 1) rfl rfl rfl (by simp only [IntKind.bits]; omega) (by simp only [IntKind.bits]; omega)) rfl ?_;rw [Nat.and_one_is_mod];refine zw rfl (zq rfl rfl (zt rfl rfl (za rfl (zz (kh3 ?_)))));refine zr (zr1 rfl rfl ?_);refine ⟨?_, rfl⟩;rw [show (n : Int).toNat = n by omega, htb, decide_eq_true (show (0 : Int) ≤ (n : Int) by omega), Bool.true_and]
   congr 1
   refine decide_eq_decide.2 ?_;omega
  refine zv rfl (zv rfl (zv rfl (zv rfl (zv rfl (zv rfl (zv rfl (zv rfl (zv rfl (zv rfl (ze rfl rfl (za rfl (zz (kh3 ?_)))))))))))));refine zr (zr1 rfl rfl ?_);refine ⟨?_, rfl⟩;rw [show (n : Int).toNat = n by omega, htb, getD_out (by omega)];simp
 refine zv rfl (zv rfl (zv rfl (zv rfl (zv rfl (ze rfl rfl (zm rfl (zv rfl (zv rfl (zv rfl (zv rfl (zv rfl (zv rfl (zv rfl (zv rfl (zv rfl (zv rfl (ze rfl rfl (za rfl (zz (kh3 ?_))))))))))))))))))));refine zr (zr1 rfl rfl ?_);refine ⟨?_, rfl⟩;rw [decide_eq_false (by omega), Bool.false_and]

theorem both_spec (va vb : Value) (la lb : List Nat) (w : World) (ha : NU w va la) (hb : NU w vb lb) : Ret Tryz.prog 263 [va, vb] w fun u w' => ((((wd (val la)).length ≤ 8192 ∧ (wd (val lb)).length ≤ 8192) ∧ ∃ x y, u = .tuple [x, y, .int .i64 0].toArray ∧ NU w x (wd (val la)) ∧ NU w y (wd (val lb))) ∨ (¬ ((wd (val la)).length ≤ 8192 ∧ (wd (val lb)).length ≤ 8192) ∧ u = .tuple [.slice none 0 0, .slice none 0 0, .int .i64 2].toArray)) ∧ w = w' := by
 obtain ⟨A, hA⟩ : ∃ A, A = wd (val la) := ⟨_, rfl⟩;have hvA : val A = val la := by rw [hA]; exact val_wd _
 obtain ⟨B, hB⟩ : ∃ B, B = wd (val lb) := ⟨_, rfl⟩;have hvB : val B = val lb := by rw [hB]; exact val_wd _
 have hch := crf w;refine zE2 Tryz.func263 rfl ?_;refine Sr fun _ kh1 => za rfl (za rfl (za rfl (zz (kh1 (Sr fun _ kh3 => zm rfl ?_)))));refine WL.call hasF255 rfl rfl (cut_spec _ _ _ ha) fun v w1 h' => ?_;obtain ⟨hN1, rfl⟩ := h';rw [← hA] at hN1;obtain ⟨⟨a1, c1, rfl, hcap1, hr1⟩, hW1, hl1⟩ := hN1;refine zm rfl ?_;refine WL.call hasF255 rfl rfl (cut_spec _ _ _ hb) fun v w2 h' => ?_;obtain ⟨hN2, rfl⟩ := h';rw [← hB] at hN2;obtain ⟨⟨a2, c2, rfl, hcap2, hr2⟩, hW2, hl2⟩ := hN2;refine za rfl (za rfl (zz (kh3 (zc fun _ kh5 => Sr fun _ kh6 => zm rfl (zn rfl (zm rfl (zn rfl ?_)))))));refine WL.ev (Ev.maxI rfl rfl) rfl ?_;refine zG rfl rfl (zz (kh6 ?_));refine zy rfl ?_ ?_<;>intro hc1<;>try simp only [qs] at hc1
 ·refine Sr fun _ kh8 => za rfl (za rfl (za rfl (zz (kh8 ?_))));refine zr ?_
  refine bodyA.ret3 rfl rfl rfl rfl ?_;rw [← hA, ← hB];exact ⟨.inr ⟨by omega, rfl⟩, rfl⟩
 refine zkk (kh5 (Sr fun _ kh10 => zm rfl (zm rfl (za rfl (za rfl (za rfl (zz (kh10 ?_))))))));refine zr ?_;refine bodyA.ret3 rfl rfl rfl rfl ?_;rw [← hA, ← hB];exact ⟨.inl ⟨by omega, _, _, rfl, NU.of_row hr1 hW1 hl1 rfl hcap1, NU.of_row hr2 hW2 hl2 rfl hcap2⟩, rfl⟩

theorem fits_spec (v : Value) (l : List Nat) (w : World) (h : NU w v l) : Ret Tryz.prog 258 [v] w fun u w' => (((wd (val l)).length ≤ 8192 ∧ ∃ r, u = .tuple [r, .int .i64 0].toArray ∧ NU w r (wd (val l))) ∨ (8192 < (wd (val l)).length ∧ u = .tuple [.slice none 0 0, .int .i64 2].toArray)) ∧ w = w' := by
 obtain ⟨A, hA⟩ : ∃ A, A = wd (val l) := ⟨_, rfl⟩;have hvA : val A = val l := by rw [hA]; exact val_wd _
 have hch := crf w;refine zE1 Tryz.func258 rfl ?_;refine Sr fun _ kh1 => za rfl (za rfl (zz (kh1 (zc fun _ kh3 => Sr fun _ kh4 => zm rfl ?_))));refine WL.call hasF255 rfl rfl (cut_spec _ _ _ h) fun v w1 h' => ?_;obtain ⟨hN1, rfl⟩ := h';rw [← hA] at hN1;obtain ⟨⟨a1, c1, rfl, hcap1, hr1⟩, hW1, hl1⟩ := hN1;refine za rfl (zz (kh4 (Sr fun _ kh6 => zm rfl (zn rfl (zG rfl rfl (zz (kh6 ?_)))))));refine zy rfl ?_ ?_<;>intro hc1<;>try simp only [qs] at hc1
 ·refine Sr fun _ kh8 => za rfl (za rfl (zz (kh8 ?_)));refine zr (zr2 rfl rfl rfl ?_);rw [← hA];exact ⟨.inr ⟨by omega, rfl⟩, rfl⟩
 refine zkk (kh3 (Sr fun _ kh10 => zm rfl (zm rfl (zn rfl (zm rfl (zn rfl ?_))))));refine WL.ev (Ev.slice3n ((A).length) ((A).length) rfl rfl rfl (by omega) (by omega) (by omega) (by omega)) rfl ?_;refine za rfl (za rfl (zz (kh10 ?_)));refine zr (zr2 rfl rfl rfl ?_);rw [← hA];exact ⟨.inl ⟨by omega, _, rfl, NU.of_row hr1 hW1 hl1 rfl (Nat.le_refl _)⟩, rfl⟩

structure KA (X Y : List Nat) (w : World) (b : Nat) (g : Nat × List Nat × Nat) (wr : World) : Prop where
  a : AddI X Y g.1 g.2.1 g.2.2
  ob : OB wr b 209 g.2.1
  chg : Chg [] w wr

theorem Add_spec (va vb : Value) (la lb : List Nat) (w : World) (ha : NU w va la) (hb : NU w vb lb) : Ret Tryz.prog 346 [va, vb] w fun u w' => (((wd (val la)).length ≤ 8192 ∧ (wd (val lb)).length ≤ 8192 ∧ (wd (val la + val lb)).length ≤ 8192 ∧ ∃ r, u = .tuple [r, .int .i64 0].toArray ∧ NU w' r (wd (val la + val lb))) ∨ (¬ ((wd (val la)).length ≤ 8192 ∧ (wd (val lb)).length ≤ 8192 ∧ (wd (val la + val lb)).length ≤ 8192) ∧ u = .tuple [.slice none 0 0, .int .i64 2].toArray)) ∧ Chg [] w w' := by
 have hch := crf w;refine zE2 Tryz.func346 rfl ?_;refine Sr fun _ kh1 => za rfl (za rfl (zz (kh1 (Sr fun _ kh3 => zm rfl (zm rfl ?_)))));refine WL.call hasF263 rfl rfl (both_spec _ _ _ _ _ ha hb) fun v w14 h' => ?_;obtain ⟨h', rfl⟩ := h';rcases h' with ⟨hfit, x, y, rfl, hNx, hNy⟩ | ⟨hno, rfl⟩
 ·obtain ⟨A, hA⟩ : ∃ A, A = wd (val la) := ⟨_, rfl⟩;have hvA : val A = val la := by rw [hA]; exact val_wd _
  obtain ⟨B, hB⟩ : ∃ B, B = wd (val lb) := ⟨_, rfl⟩;have hvB : val B = val lb := by rw [hB]; exact val_wd _
  have hfit0 := hfit;rw [← hA, ← hB] at hfit;rw [← hA] at hNx;rw [← hB] at hNy;obtain ⟨⟨a1, c1, rfl, hcap1, hr1⟩, hW1, hl1⟩ := hNx;obtain ⟨⟨a2, c2, rfl, hcap2, hr2⟩, hW2, hl2⟩ := hNy;refine zm rfl (zx rfl rfl (zx rfl rfl (zx rfl rfl (za rfl (za rfl (za rfl (zz (kh3 (zc fun _ kh5 => Sr fun _ kh6 => zm rfl (zN rfl rfl (zz (kh6 ?_))))))))))));refine CW.condF rfl ?_;refine zkk (kh5 ?_);refine CW.seqJ (fun D s' w' => D = [] ∧ w = w' ∧ ∃ xa ca xb cb X Y, RW w xa (X.map u32v) ∧ W X ∧ RW w xb (Y.map u32v) ∧ W Y ∧ Y.length ≤ X.length ∧ X.length ≤ 8192 ∧ val X + val Y = val la + val lb ∧ Subs [(0, .slice xa X.length ca), (1, .slice xb Y.length cb)] s') ?_ ?_
  ·refine Sr fun _ kh9 => zm rfl (zn rfl (zm rfl (zn rfl (zL rfl rfl (zz (kh9 ?_))))));refine zy rfl ?_ ?_<;>intro hc1<;>try simp only [qs] at hc1
   ·refine zS fun _ kr11 => zm rfl (zm rfl (za rfl (za rfl (zz (kr11 ?_)))));exact ⟨rfl, rfl, a2, c2, a1, c1, B, A, hr2, hW2, hr1, hW1, by omega, by omega, by omega, (by repeat (first | exact Subs.nil | refine Subs.cons rfl ?_))⟩
   refine zkk ?_;exact ⟨rfl, rfl, a1, c1, a2, c2, A, B, hr1, hW1, hr2, hW2, by omega, by omega, by omega, (by repeat (first | exact Subs.nil | refine Subs.cons rfl ?_))⟩
  rintro _ s' _ ⟨rfl, rfl, xa, ca, xb, cb, X, Y, hrX, hWX, hrY, hWY, hYX, hX81, hXY, hsub⟩;refine CW.sub hsub ?_;refine Sr fun _ kh12 => zm rfl (zn rfl ?_);(first | refine zi rfl rfl ?_ | refine zo rfl rfl ?_);refine WL.makeU (((X).length + 1)) (((X).length + 1)) rfl rfl (by omega) (by omega) (by omega) (by omega) (by omega) rfl fun b31 wm31 hb31 hcm31 hge31 => ?_;have hgehch31 := Nat.le_trans hch.size hge31;have hch := hch.ta hcm31;refine za rfl (zz (kh12 (Sr fun _ kh14 => zm rfl (zm rfl ?_))));refine WL.copyU rfl rfl hb31 (hrX.keep0 hch) (by simp; try omega) (by simp; try omega) rfl fun ws2 hb31_ hcs2 => ?_;have hch := hch.s1 hcs2;have hb31 := hb31_;rw [show ((X).take (min ((X).length) (((X).length + 1))) ++ (List.replicate (((X).length + 1)) 0).drop (min ((X).length) (((X).length + 1)))) = (X ++ [0]) from by rw [show min X.length (X.length + 1) = X.length by omega, List.take_length, List.drop_replicate, show X.length + 1 - X.length = 1 by omega]; rfl] at hb31;refine zz (kh14 (Sr fun _ kh16 => za rfl (zz (kh16 (zc fun _ kh18 => Sr fun _ kh19 => zm rfl (zn rfl (zm rfl (zz (kh19 (CW.block ?_))))))))));refine CW.loop (S := fun g : Nat × List Nat × Nat => [(0, .slice xa X.length ca), (1, .slice xb Y.length cb), (7, .slice (some ⟨b31, 0, none⟩) (X.length + 1) (X.length + 1)), (8, .int .u32 (g.2.2 : Int)), (36, .int .i64 (X.length : Int)), (37, .int .i64 (g.1 : Int))]) (Inv := KA X Y w b31) (mu := fun g => X.length - g.1) ((0, X ++ [0], 0)) ?_ ?_ ?_
  ·exact ⟨AddI.zero (by simp) (W_append.2 ⟨hWX, W_cons.2 ⟨by omega, W_nil⟩⟩), hb31, hch⟩
  ·exact SLp
  rintro ⟨i, L, c⟩ wr ⟨hA, hb31, hch⟩;dsimp only at hA hb31 hch;have hiX := hA.le;have hLl := hA.len;have hc1 := hA.c1;refine Sr fun _ kh21 => zL rfl rfl (zz (kh21 (zc fun _ kh23 => ?_)));refine zy rfl ?_ ?_<;>intro hc2<;>try simp only [qs] at hc2
  ·refine zkk (kh23 (zc fun _ kh24 => CW.block (Sr fun _ kh25 => zm rfl (za rfl (zz (kh25 (Sr fun _ kh27 => za rfl (zz (kh27 (zc fun _ kh29 => Sr fun _ kh30 => zm rfl (zm rfl (zn rfl (zL rfl rfl (zz (kh30 ?_)))))))))))))));refine zy rfl ?_ ?_<;>intro hc3<;>try simp only [qs] at hc3
   ·refine zR fun _ kr32 => ?_
    refine zm rfl (zm rfl ?_);refine WL.ev (Ev.ixR (i) rfl rfl (hrY.keep0 hch) (by omega) (by omega) (by simp; omega)) rfl ?_;refine WL.ev (Ev.load rfl rfl ((hrY.keep0 hch).u32 (by first | omega | (simp; omega)))) rfl ?_;have hw47 := hWY.getD (i);refine za rfl ?_;refine WL.nil (kr32 _ _ _ (kh29 ?_));refine zR fun _ kr33 => ?_;refine zm rfl (zm rfl (zm rfl (zm rfl ?_)));refine WL.ev (Ev.ixR (i) rfl rfl (hrX.keep0 hch) (by omega) (by omega) (by simp; omega)) rfl ?_;refine WL.ev (Ev.load rfl rfl ((hrX.keep0 hch).u32 (by first | omega | (simp; omega)))) rfl ?_;have hw54 := hWX.getD (i);refine zm rfl (zm rfl ?_);refine WL.call hasF262 rfl rfl (Add32_spec (X.getD i 0) (Y.getD i 0) c _ (hWX.getD i) (hWY.getD i) (by omega)) fun v w1 h' => ?_;obtain ⟨rfl, rfl⟩ := h';refine zm rfl (zx rfl rfl (zx rfl rfl ?_));refine WL.ev (Ev.ixB (i) rfl rfl (by omega) (by omega)) rfl ?_;refine WL.storeU rfl rfl hb31 (by first | omega | (simp; omega)) fun ws3 hb31_ hcs3 => ?_;have hch := hch.s1 hcs3;have hb31 := hb31_;refine za rfl ?_;refine WL.nil (kr33 _ _ _ (kh24 ?_));refine zS fun _ kr34 => ?_;(first | refine zi rfl rfl ?_ | refine zo rfl rfl ?_);refine zm rfl (zz (kr34 ?_));refine ⟨rfl, (i + 1, L.set i ((X.getD i 0 + Y.getD i 0 + c) % 4294967296), (X.getD i 0 + Y.getD i 0 + c) / 4294967296), ?_, ?_, ?_⟩
    ·exact SLp
    ·exact ⟨hA.step hWX hWY (by omega), hb31, hch⟩
    show X.length - (i + 1) < X.length - i; omega
   have hy0 : Y.getD i 0 = 0 := getD_out (by omega);refine zkk (kh29 ?_);refine zR fun _ kr35 => ?_;refine zm rfl (zm rfl (zm rfl (zm rfl ?_)));refine WL.ev (Ev.ixR (i) rfl rfl (hrX.keep0 hch) (by omega) (by omega) (by simp; omega)) rfl ?_;refine WL.ev (Ev.load rfl rfl ((hrX.keep0 hch).u32 (by first | omega | (simp; omega)))) rfl ?_;have hw54 := hWX.getD (i);refine zm rfl (zm rfl ?_);refine WL.call hasF262 rfl rfl (Add32_spec (X.getD i 0) 0 c _ (hWX.getD i) (by omega) (by omega)) fun v w2 h' => ?_;obtain ⟨rfl, rfl⟩ := h';rw [show X.getD i 0 + 0 + c = X.getD i 0 + Y.getD i 0 + c by omega];refine zm rfl (zx rfl rfl (zx rfl rfl ?_));refine WL.ev (Ev.ixB (i) rfl rfl (by omega) (by omega)) rfl ?_;refine WL.storeU rfl rfl hb31 (by first | omega | (simp; omega)) fun ws4 hb31_ hcs4 => ?_;have hch := hch.s1 hcs4;have hb31 := hb31_;refine za rfl ?_;refine WL.nil (kr35 _ _ _ (kh24 ?_));refine zS fun _ kr36 => ?_;(first | refine zi rfl rfl ?_ | refine zo rfl rfl ?_);refine zm rfl (zz (kr36 ?_));refine ⟨rfl, (i + 1, L.set i ((X.getD i 0 + Y.getD i 0 + c) % 4294967296), (X.getD i 0 + Y.getD i 0 + c) / 4294967296), ?_, ?_, ?_⟩
   ·exact SLp
   ·exact ⟨hA.step hWX hWY (by omega), hb31, hch⟩
   show X.length - (i + 1) < X.length - i; omega
  refine CW.exit ?_;refine kh18 (zc fun _ kh37 => ?_);have hiX2 : i = X.length := by omega
  subst hiX2;obtain ⟨hv9, hW9, hl9⟩ := hA.done hYX;rw [hXY] at hv9;refine zR fun _ kr38 => ?_;refine zm rfl (zm rfl (zn rfl (zm rfl ?_)));refine WL.ev (Ev.ixB (X.length) rfl rfl (by omega) (by omega)) rfl ?_;refine WL.storeU rfl rfl hb31 (by first | omega | (simp; omega)) fun ws5 hb31_ hcs5 => ?_;have hch := hch.s1 hcs5;have hb31 := hb31_;refine WL.nil (kr38 _ _ _ (kh37 ?_));refine Sr fun _ kh39 => zm rfl ?_;refine WL.call hasF258 rfl rfl (fits_spec _ _ _ (NU.of_block hb31 hW9 (by rw [hl9]; omega) (by rw [hl9]) (Nat.le_refl _))) fun v w68 h' => ?_;obtain ⟨h', rfl⟩ := h';rw [hv9] at h';rcases h' with ⟨hfs, r, rfl, hNr⟩ | ⟨hfs, rfl⟩
  ·refine zx rfl rfl (zx rfl rfl (za rfl (za rfl (zz (kh39 ?_)))));refine zr (zr2 rfl rfl rfl ?_);exact ⟨.inl ⟨hfit0.1, hfit0.2, hfs, r, rfl, hNr⟩, hch⟩
  refine zx rfl rfl (zx rfl rfl (za rfl (za rfl (zz (kh39 ?_)))));refine zr (zr2 rfl rfl rfl ?_);exact ⟨.inr ⟨by omega, rfl⟩, hch⟩
 refine zm rfl (zx rfl rfl (zx rfl rfl (zx rfl rfl (za rfl (za rfl (za rfl (zz (kh3 (zc fun _ kh41 => Sr fun _ kh42 => zm rfl (zN rfl rfl (zz (kh42 ?_))))))))))));refine CW.condT rfl ?_;refine Sr fun _ kh44 => zm rfl (za rfl (za rfl (zz (kh44 ?_))));refine zr (zr2 rfl rfl rfl ?_);exact ⟨.inr ⟨by omega, rfl⟩, Chg.refl _ _⟩

end

/- Package wide: less, Sub, Cmp. No condition. -/
section
open Go Sx Wd

structure KS (X Y : List Nat) (w : World) (b : Nat) (g : Nat × List Nat × Nat) (wr : World) : Prop where
  a : SubI X Y g.1 g.2.1 g.2.2
  ob : OB wr b 209 g.2.1
  chg : Chg [] w wr

theorem less_spec (va vb : Value) (la lb : List Nat) (w : World) (ha : NU w va la) (hb : NU w vb lb) (hle : val lb ≤ val la) : Ret Tryz.prog 264 [va, vb] w fun u w' => ∃ L, NU w' u L ∧ val L = val la - val lb ∧ Chg [] w w' := by
 obtain ⟨⟨ala, cla, rfl, hcapla, hrla⟩, hWla, hlla⟩ := ha;obtain ⟨⟨alb, clb, rfl, hcaplb, hrlb⟩, hWlb, hllb⟩ := hb;have hch := crf w;refine zE2 Tryz.func264 rfl ?_;refine Sr fun _ kh1 => za rfl (zz (kh1 (Sr fun _ kh3 => zm rfl (zn rfl ?_))));refine WL.makeU ((la).length) ((la).length) rfl rfl (by omega) (by omega) (by omega) (by omega) (by omega) rfl fun b11 wm11 hb11 hcm11 hge11 => ?_;have hgehch11 := Nat.le_trans hch.size hge11;have hch := hch.ta hcm11;refine za rfl (zz (kh3 (Sr fun _ kh5 => za rfl (zz (kh5 (zc fun _ kh7 => Sr fun _ kh8 => zm rfl (zn rfl (zm rfl (zz (kh8 (CW.block ?_)))))))))));refine CW.loop (S := fun g : Nat × List Nat × Nat => [(0, .slice ala la.length cla), (1, .slice alb lb.length clb), (5, .slice (some ⟨b11, 0, none⟩) la.length la.length), (6, .int .u32 (g.2.2 : Int)), (13, .int .i64 (la.length : Int)), (14, .int .i64 (g.1 : Int))]) (Inv := KS la lb w b11) (mu := fun g => la.length - g.1) ((0, List.replicate la.length 0, 0)) ?_ ?_ ?_
 ·exact ⟨SubI.zero (by simp) (W_replicate _), hb11, hch⟩
 ·exact SLp
 rintro ⟨i, L, c⟩ wr ⟨hAd, hb11, hch⟩;dsimp only at hAd hb11 hch;have hiX := hAd.le;have hLl := hAd.len;have hcc := hAd.c1;refine Sr fun _ kh10 => zL rfl rfl (zz (kh10 (zc fun _ kh12 => ?_)));refine zy rfl ?_ ?_<;>intro hc1<;>try simp only [qs] at hc1
 ·refine zkk (kh12 (zc fun _ kh13 => CW.block (Sr fun _ kh14 => zm rfl (za rfl (zz (kh14 (Sr fun _ kh16 => za rfl (zz (kh16 (zc fun _ kh18 => Sr fun _ kh19 => zm rfl (zm rfl (zn rfl (zL rfl rfl (zz (kh19 ?_)))))))))))))));refine zy rfl ?_ ?_<;>intro hc2<;>try simp only [qs] at hc2
  ·refine zR fun _ kr21 => ?_
   refine zm rfl (zm rfl ?_);refine WL.ev (Ev.ixR (i) rfl rfl (hrlb.keep0 hch) (by omega) (by omega) (by simp; omega)) rfl ?_;refine WL.ev (Ev.load rfl rfl ((hrlb.keep0 hch).u32 (by first | omega | (simp; omega)))) rfl ?_;have hw24 := hWlb.getD (i);refine za rfl ?_;refine WL.nil (kr21 _ _ _ (kh18 ?_));refine zR fun _ kr22 => ?_;refine zm rfl (zm rfl (zm rfl (zm rfl ?_)));refine WL.ev (Ev.ixR (i) rfl rfl (hrla.keep0 hch) (by omega) (by omega) (by simp; omega)) rfl ?_;refine WL.ev (Ev.load rfl rfl ((hrla.keep0 hch).u32 (by first | omega | (simp; omega)))) rfl ?_;have hw31 := hWla.getD (i);refine zm rfl (zm rfl ?_);refine WL.call hasF313 rfl rfl (Sub32_spec (la.getD i 0) (lb.getD i 0) c _ (hWla.getD i) (hWlb.getD i) (by omega)) fun v w1 h' => ?_;obtain ⟨rfl, rfl⟩ := h';refine zm rfl (zx rfl rfl (zx rfl rfl ?_));refine WL.ev (Ev.ixB (i) rfl rfl (by omega) (by omega)) rfl ?_;refine WL.storeU rfl rfl hb11 (by first | omega | (simp; omega)) fun ws6 hb11_ hcs6 => ?_;have hch := hch.s1 hcs6;have hb11 := hb11_;refine za rfl ?_;refine WL.nil (kr22 _ _ _ (kh13 ?_));refine zS fun _ kr23 => ?_;(first | refine zi rfl rfl ?_ | refine zo rfl rfl ?_);refine zm rfl (zz (kr23 ?_));refine ⟨rfl, (i + 1, L.set i ((la.getD i 0 + 8589934592 - lb.getD i 0 - c) % 4294967296), if la.getD i 0 < lb.getD i 0 + c then 1 else 0), ?_, ?_, ?_⟩
   ·exact SLp
   ·exact ⟨hAd.step hWla hWlb (by omega), hb11, hch⟩
   show la.length - (i + 1) < la.length - i; omega
  have e0 : Value.int IntKind.u32 0 = Value.int IntKind.u32 ((lb.getD i 0 : Nat) : Int) := by rw [getD_out (by omega)]; rfl
  rw [e0];refine zkk (kh18 ?_);refine zR fun _ kr24 => ?_;refine zm rfl (zm rfl (zm rfl (zm rfl ?_)));refine WL.ev (Ev.ixR (i) rfl rfl (hrla.keep0 hch) (by omega) (by omega) (by simp; omega)) rfl ?_;refine WL.ev (Ev.load rfl rfl ((hrla.keep0 hch).u32 (by first | omega | (simp; omega)))) rfl ?_;have hw31 := hWla.getD (i);refine zm rfl (zm rfl ?_);refine WL.call hasF313 rfl rfl (Sub32_spec (la.getD i 0) (lb.getD i 0) c _ (hWla.getD i) (hWlb.getD i) (by omega)) fun v w2 h' => ?_;obtain ⟨rfl, rfl⟩ := h';refine zm rfl (zx rfl rfl (zx rfl rfl ?_));refine WL.ev (Ev.ixB (i) rfl rfl (by omega) (by omega)) rfl ?_;refine WL.storeU rfl rfl hb11 (by first | omega | (simp; omega)) fun ws7 hb11_ hcs7 => ?_;have hch := hch.s1 hcs7;have hb11 := hb11_;refine za rfl ?_;refine WL.nil (kr24 _ _ _ (kh13 ?_));refine zS fun _ kr25 => ?_;(first | refine zi rfl rfl ?_ | refine zo rfl rfl ?_);refine zm rfl (zz (kr25 ?_));refine ⟨rfl, (i + 1, L.set i ((la.getD i 0 + 8589934592 - lb.getD i 0 - c) % 4294967296), if la.getD i 0 < lb.getD i 0 + c then 1 else 0), ?_, ?_, ?_⟩
  ·exact SLp
  ·exact ⟨hAd.step hWla hWlb (by omega), hb11, hch⟩
  show la.length - (i + 1) < la.length - i; omega
 refine CW.exit ?_;refine kh7 (Sr fun _ kh26 => zm rfl (za rfl (zz (kh26 ?_))));refine zr (zr1 rfl rfl ?_);have hiX2 : i = la.length := by omega
 subst hiX2;exact ⟨L, NU.of_block hb11 hAd.w (by omega) (by omega) (Nat.le_refl _), hAd.done hWla hWlb hle, hch⟩

structure KC (A B : List Nat) (w : World) (k : Nat) (wr : World) : Prop where
  le : k ≤ A.length
  eq : A.drop k = B.drop k
  chg : Chg [] w wr

theorem Cmp_spec (va vb : Value) (la lb : List Nat) (w : World) (ha : NU w va la) (hb : NU w vb lb) : Ret Tryz.prog 175 [va, vb] w fun u w' => u = .int .i64 (sgn (val la) (val lb)) ∧ Chg [] w w' := by
 obtain ⟨A, hA⟩ : ∃ A, A = wd (val la) := ⟨_, rfl⟩;have hvA : val A = val la := by rw [hA]; exact val_wd _
 obtain ⟨B, hB⟩ : ∃ B, B = wd (val lb) := ⟨_, rfl⟩;have hvB : val B = val lb := by rw [hB]; exact val_wd _
 have hch := crf w;refine zE2 Tryz.func175 rfl ?_;refine Sr fun _ kh1 => za rfl (zz (kh1 (Sr fun _ kh3 => zm rfl ?_)));refine WL.call hasF255 rfl rfl (cut_spec _ _ _ ha) fun v w1 h' => ?_;obtain ⟨hN1, rfl⟩ := h';rw [← hA] at hN1;obtain ⟨⟨a1, c1, rfl, hcap1, hr1⟩, hW1, hl1⟩ := hN1;refine zm rfl ?_;refine WL.call hasF255 rfl rfl (cut_spec _ _ _ hb) fun v w2 h' => ?_;obtain ⟨hN2, rfl⟩ := h';rw [← hB] at hN2;obtain ⟨⟨a2, c2, rfl, hcap2, hr2⟩, hW2, hl2⟩ := hN2;refine za rfl (za rfl (zz (kh3 (zc fun _ kh5 => CW.block (Sr fun _ kh6 => zm rfl (zn rfl (zm rfl (zn rfl (zL rfl rfl (za rfl (zz (kh6 ?_))))))))))));refine zy rfl ?_ ?_<;>intro hc1<;>try simp only [qs] at hc1
 ·refine Sr fun _ kh8 => za rfl (zz (kh8 ?_));refine zr (zr1 rfl rfl ?_);have hs := sgn_len (a := val la) (b := val lb);rw [← hA, ← hB] at hs;rw [hs.1 (by omega)];exact ⟨rfl, hch⟩
 refine Sr fun _ kh10 => zm rfl (zn rfl (zm rfl (zn rfl (zG rfl rfl (za rfl (zz (kh10 ?_)))))));refine zy rfl ?_ ?_<;>intro hc2<;>try simp only [qs] at hc2
 ·refine Sr fun _ kh12 => za rfl (zz (kh12 ?_));refine zr (zr1 rfl rfl ?_);have hs := sgn_len (a := val la) (b := val lb);rw [← hA, ← hB] at hs;rw [hs.2 (by omega)];exact ⟨rfl, hch⟩
 have hAB : A.length = B.length := by omega
 refine zkk (kh5 (zc fun _ kh14 => Sr fun _ kh15 => zm rfl (zn rfl ?_)))
 first | refine WL.ev (Ev.subIn rfl rfl (by omega)) rfl ?_ | refine WL.ev (Ev.sub rfl rfl) rfl ?_
 refine za rfl (zz (kh15 (CW.block ?_)));refine CW.loop (S := fun k : Nat => [(0, .slice a1 A.length c1), (1, .slice a2 B.length c2), (5, .int .i64 ((k : Int) - 1))]) (Inv := KC A B w) (mu := fun k => k) (A.length) ?_ ?_ ?_
 ·exact ⟨Nat.le_refl _, by rw [List.drop_length, hAB, List.drop_length], hch⟩
 ·exact SLp
 rintro k wr ⟨hkl, hkd, hch⟩;refine zc fun _ kh17 => Sr fun _ kh18 => zm rfl ?_;refine WL.ev (Ev.geq rfl rfl) rfl ?_;refine zz (kh18 ?_);refine zy rfl ?_ ?_<;>intro hc3<;>try simp only [qs] at hc3
 ·have hk1 : k - 1 + 1 = k := by omega
  have hsd := sgn_drop hW1 hW2 hAB (k := k - 1) (by omega) (by rw [hk1]; exact hkd);rw [hvA, hvB] at hsd;refine zkk (kh17 (zc fun _ kh20 => CW.block (CW.block (zc fun _ kh21 => ?_))));refine CW.regionSC hmix (by kernel_rfl) fun kR22 kr22 hdr => ?_;have hch := hch.ta hdr;refine ym rfl (ym rfl ?_);refine WS.ev (Ev.ixR ((k - 1)) rfl rfl (hr1.keep0 hch) (by omega) (by omega) (by simp; omega)) rfl ?_;refine WS.ev (Ev.load rfl rfl ((hr1.keep0 hch).u32 (by first | omega | (simp; omega)))) rfl ?_;have hw33 := hW1.getD ((k - 1));refine ym rfl (ym rfl ?_);refine WS.ev (Ev.ixR ((k - 1)) rfl rfl (hr2.keep0 hch) (by omega) (by omega) (by simp; omega)) rfl ?_;refine WS.ev (Ev.load rfl rfl ((hr2.keep0 hch).u32 (by first | omega | (simp; omega)))) rfl ?_;have hw37 := hW2.getD ((k - 1));refine WS.ev (Ev.lss rfl rfl) rfl ?_;refine ya rfl ?_;refine WS.nil (kr22 _ _ ?_);refine kh21 ?_;refine zy rfl ?_ ?_<;>intro hc4<;>try simp only [qs] at hc4
  ·refine Sr fun _ kh23 => za rfl (zz (kh23 ?_));refine zr (zr1 rfl rfl ?_);rw [hsd.1 (by omega)];exact ⟨rfl, hch⟩
  refine zc fun _ kh25 => ?_;refine CW.regionSC hmix (by kernel_rfl) fun kR26 kr26 hdr => ?_;have hch := hch.ta hdr;refine ym rfl (ym rfl ?_);refine WS.ev (Ev.ixR ((k - 1)) rfl rfl (hr1.keep0 hch) (by omega) (by omega) (by simp; omega)) rfl ?_;refine WS.ev (Ev.load rfl rfl ((hr1.keep0 hch).u32 (by first | omega | (simp; omega)))) rfl ?_;have hw43 := hW1.getD ((k - 1));refine ym rfl (ym rfl ?_);refine WS.ev (Ev.ixR ((k - 1)) rfl rfl (hr2.keep0 hch) (by omega) (by omega) (by simp; omega)) rfl ?_;refine WS.ev (Ev.load rfl rfl ((hr2.keep0 hch).u32 (by first | omega | (simp; omega)))) rfl ?_;have hw47 := hW2.getD ((k - 1));refine WS.ev (Ev.gtr rfl rfl) rfl ?_;refine ya rfl ?_;refine WS.nil (kr26 _ _ ?_);refine kh25 ?_;refine zy rfl ?_ ?_<;>intro hc5<;>try simp only [qs] at hc5
  ·refine Sr fun _ kh27 => za rfl (zz (kh27 ?_));refine zr (zr1 rfl rfl ?_);rw [hsd.2.1 (by omega)];exact ⟨rfl, hch⟩
  refine zkk (kh20 (zS fun _ kr29 => zm rfl ?_))
  first | refine WL.ev (Ev.subIn rfl rfl (by omega)) rfl ?_ | refine WL.ev (Ev.sub rfl rfl) rfl ?_
  refine za rfl (zz (kr29 ?_));refine ⟨rfl, k - 1, ?_, ?_, ?_⟩
  ·exact SLp
  ·exact ⟨by omega, hsd.2.2 (by omega), hch⟩
  omega
 refine CW.exit ?_;refine kh14 (Sr fun _ kh30 => za rfl (zz (kh30 ?_)));refine zr (zr1 rfl rfl ?_);have hk0 : k = 0 := by omega
 subst hk0;rw [List.drop_zero, List.drop_zero] at hkd;rw [← hvA, ← hvB, hkd, sgn_self];exact ⟨rfl, hch⟩

theorem Sub_spec (va vb : Value) (la lb : List Nat) (w : World) (ha : NU w va la) (hb : NU w vb lb) : Ret Tryz.prog 176 [va, vb] w fun u w' => (((wd (val la)).length ≤ 8192 ∧ (wd (val lb)).length ≤ 8192 ∧ val lb ≤ val la ∧ ∃ r, u = .tuple [r, .int .i64 0].toArray ∧ NU w' r (wd (val la - val lb))) ∨ (¬ ((wd (val la)).length ≤ 8192 ∧ (wd (val lb)).length ≤ 8192) ∧ u = .tuple [.slice none 0 0, .int .i64 2].toArray) ∨ (((wd (val la)).length ≤ 8192 ∧ (wd (val lb)).length ≤ 8192) ∧ val la < val lb ∧ u = .tuple [.slice none 0 0, .int .i64 20].toArray)) ∧ Chg [] w w' := by
 have hch := crf w;refine zE2 Tryz.func176 rfl ?_;refine Sr fun _ kh1 => za rfl (za rfl (zz (kh1 (Sr fun _ kh3 => zm rfl (zm rfl ?_)))));refine WL.call hasF263 rfl rfl (both_spec _ _ _ _ _ ha hb) fun v w10 h' => ?_;obtain ⟨h', rfl⟩ := h';rcases h' with ⟨hfit, x, y, rfl, hNx, hNy⟩ | ⟨hno, rfl⟩
 ·have hlm := wd_length_val_le (NU.hw hNx);refine zm rfl (zx rfl rfl (zx rfl rfl (zx rfl rfl (za rfl (za rfl (za rfl (zz (kh3 (zc fun _ kh5 => CW.block (Sr fun _ kh6 => zm rfl (zN rfl rfl (za rfl (zz (kh6 ?_))))))))))))));refine CW.condF rfl ?_;refine Sr fun _ kh8 => zm rfl (zm rfl ?_);refine WL.call hasF175 rfl rfl (Cmp_spec _ _ _ _ _ hNx hNy) fun v w1 h' => ?_;obtain ⟨rfl, hC21⟩ := h';have hch := hch.trans hC21;have hNx := hNx.keep0 hC21;have hNy := hNy.keep0 hC21;rw [val_wd, val_wd];refine zL rfl rfl (za rfl (zz (kh8 ?_)));refine zy rfl ?_ ?_<;>intro hc1<;>try simp only [qs] at hc1
  ·have hlt : val la < val lb := Nat.lt_of_not_le fun hle => by unfold sgn at hc1; split at hc1 <;> (try split at hc1) <;> omega
   refine Sr fun _ kh10 => za rfl (za rfl (zz (kh10 ?_)));refine zr (zr2 rfl rfl rfl ?_);exact ⟨.inr (.inr ⟨hfit, hlt, rfl⟩), hch⟩
  have hle : val lb ≤ val la := Nat.le_of_not_lt fun hlt => by unfold sgn at hc1; rw [if_pos hlt] at hc1; omega
  refine zkk (kh5 (Sr fun _ kh12 => zm rfl (zm rfl ?_)));refine WL.call hasF264 rfl rfl (less_spec _ _ _ _ _ hNx hNy (by rw [val_wd, val_wd]; exact hle)) fun v w2 h' => ?_;obtain ⟨L, hNL, hvL, hC25⟩ := h';have hch := hch.trans hC25;rw [val_wd, val_wd] at hvL;refine WL.call hasF258 rfl rfl (fits_spec _ _ _ hNL) fun v w3 h' => ?_;obtain ⟨h', rfl⟩ := h';rw [hvL] at h';obtain ⟨hfs, r, rfl, hNr⟩ := h'.resolve_right (fun q => by have := q.1; have := wd_length_mono (Nat.sub_le (val la) (val lb)); omega);refine zx rfl rfl (zx rfl rfl (za rfl (za rfl (zz (kh12 ?_)))));refine zr (zr2 rfl rfl rfl ?_);exact ⟨.inl ⟨hfit.1, hfit.2, hle, r, rfl, hNr⟩, hch⟩
 refine zm rfl (zx rfl rfl (zx rfl rfl (zx rfl rfl (za rfl (za rfl (za rfl (zz (kh3 (zc fun _ kh14 => CW.block (Sr fun _ kh15 => zm rfl (zN rfl rfl (za rfl (zz (kh15 ?_))))))))))))));refine CW.condT rfl ?_;refine Sr fun _ kh17 => zm rfl (za rfl (za rfl (zz (kh17 ?_))));refine zr (zr2 rfl rfl rfl ?_);exact ⟨.inr (.inl ⟨by omega, rfl⟩), Chg.refl _ _⟩

end

/- Package wide: up, down, Shift, times, Mul. No condition. -/
section
open Go Sx Wd

structure KU (l : List Nat) (s : Nat) (w : World) (b : Nat) (g : Nat × List Nat) (wr : World) : Prop where
  a : UpI l s g.1 g.2
  ob : OB wr b 209 g.2
  chg : Chg [] w wr
structure KD (l : List Nat) (s : Nat) (w : World) (b : Nat) (g : Nat × List Nat) (wr : World) : Prop where
  a : DownI l s g.1 g.2
  ob : OB wr b 209 g.2
  chg : Chg [] w wr

theorem up_spec (v : Value) (l : List Nat) (s : Nat) (w : World) (h : NU w v l) (hs : s < 32) (hlm : l.length < 70368744177664) : Ret Tryz.prog 259 [v, .int .i64 (s : Int)] w fun u w' => ∃ L, NU w' u L ∧ L.length = l.length + 1 ∧ val L = val l * 2 ^ s ∧ Chg [] w w' := by
 obtain ⟨⟨al, cl, rfl, hcapl, hrl⟩, hWl, hll⟩ := h;have hch := crf w;refine zE2 Tryz.func259 rfl ?_;refine Sr fun _ kh1 => za rfl (zz (kh1 (Sr fun _ kh3 => zm rfl (zn rfl ?_))));(first | refine zi rfl rfl ?_ | refine zo rfl rfl ?_);refine WL.makeU (((l).length + 1)) (((l).length + 1)) rfl rfl (by omega) (by omega) (by omega) (by omega) (by omega) rfl fun b12 wm12 hb12 hcm12 hge12 => ?_;have hgehch12 := Nat.le_trans hch.size hge12;have hch := hch.ta hcm12;refine za rfl (zz (kh3 (zc fun _ kh5 => Sr fun _ kh6 => zm rfl (zn rfl (zm rfl (zz (kh6 (CW.block ?_))))))));refine CW.loop (S := fun g : Nat × List Nat => [(1, .int .i64 (s : Int)), (5, .slice (some ⟨b12, 0, none⟩) (l.length + 1) (l.length + 1)), (13, .slice al l.length cl), (14, .int .i64 (l.length : Int)), (15, .int .i64 (g.1 : Int))]) (Inv := KU l s w b12) (mu := fun g => l.length - g.1) ((0, List.replicate (l.length + 1) 0)) ?_ ?_ ?_
 ·exact ⟨UpI.zero l s, hb12, hch⟩
 ·exact SLp
 rintro ⟨i, L⟩ wr ⟨hAd, hb12, hch⟩;dsimp only at hAd hb12 hch;have hiX := hAd.le;have hLl := hAd.len;have hWL := hAd.w;refine Sr fun _ kh8 => zL rfl rfl (zz (kh8 (zc fun _ kh10 => ?_)));refine zy rfl ?_ ?_<;>intro hc1<;>try simp only [qs] at hc1
 ·have hst := hAd.step hs hWl (by omega);refine zkk (kh10 (zc fun _ kh11 => CW.block (Sr fun _ kh12 => zm rfl ?_)));refine WL.ev (Ev.ixR (i) rfl rfl (hrl.keep0 hch) (by omega) (by omega) (by simp; omega)) rfl ?_
  refine WL.ev (Ev.load rfl rfl ((hrl.keep0 hch).u32 (by first | omega | (simp; omega)))) rfl ?_;have hw19 := hWl.getD (i);refine za rfl (za rfl (zz (kh12 (Sr fun _ kh14 => zm rfl ?_))));refine WL.ev (Ev.convIn rfl rfl (in_u64 (by omega))) rfl ?_;refine zm rfl ?_;refine WL.ev (Ev.shlU64 rfl rfl) rfl ?_;refine za rfl (zz (kh14 (Sr fun _ kh16 => zm rfl (zm rfl ?_))));refine WL.ev (Ev.ixB (i) rfl rfl (by omega) (by omega)) rfl ?_;refine WL.ev (Ev.load rfl rfl (hb12.u32 (by first | omega | (simp; omega)))) rfl ?_;have hw27 := hWL.getD (i);refine zm rfl ?_;refine WL.ev (Ev.conv32 rfl rfl) rfl ?_;refine WL.ev (Ev.orU rfl rfl rfl (by simp only [IntKind.bits]; omega) (by simp only [IntKind.bits]; omega)) rfl ?_;refine WL.ev (Ev.ixB (i) rfl rfl (by omega) (by omega)) rfl ?_;refine WL.storeU rfl rfl hb12 (by first | omega | (simp; omega)) fun ws8 hb12_ hcs8 => ?_;have hch := hch.s1 hcs8;have hb12 := hb12_;refine zz (kh16 ?_);refine zR fun _ kr18 => ?_;refine zm rfl (zm rfl ?_);(first | refine zi rfl rfl ?_ | refine zo rfl rfl ?_);refine zm rfl ?_;refine WL.ev (Ev.shrU (b := 32) rfl rfl (by simp only [IntKind.bits]; omega)) rfl ?_;refine WL.ev (Ev.conv32 rfl rfl) rfl ?_;refine WL.ev (Ev.ixB ((i + 1)) rfl rfl (by omega) (by omega)) rfl ?_;refine WL.storeU rfl rfl hb12 (by first | omega | (simp; omega)) fun ws9 hb12_ hcs9 => ?_;have hch := hch.s1 hcs9;have hb12 := hb12_;refine WL.nil (kr18 _ _ _ (kh11 ?_));refine zS fun _ kr19 => ?_;(first | refine zi rfl rfl ?_ | refine zo rfl rfl ?_);refine zm rfl (zz (kr19 ?_));refine ⟨rfl, (i + 1, (L.set i (L.getD i 0 ||| (l.getD i 0 * 2 ^ s % 18446744073709551616 % 4294967296))).set (i + 1) (l.getD i 0 * 2 ^ s % 18446744073709551616 / 2 ^ 32 % 4294967296)), ?_, ?_, ?_⟩
  ·exact SLp
  ·exact ⟨hst.2, hb12, hch⟩
  show l.length - (i + 1) < l.length - i; omega
 refine CW.exit ?_;refine kh5 (Sr fun _ kh20 => zm rfl (za rfl (zz (kh20 ?_))));refine zr (zr1 rfl rfl ?_);have hiX2 : i = l.length := by omega
 subst hiX2;exact ⟨L, NU.of_block hb12 hAd.w (by omega) (by omega) (Nat.le_refl _), hAd.len, hAd.done, hch⟩

theorem down_spec (v : Value) (l : List Nat) (s : Nat) (w : World) (h : NU w v l) (hs : s < 32) : Ret Tryz.prog 257 [v, .int .i64 (s : Int)] w fun u w' => ∃ L, NU w' u L ∧ val L = val l / 2 ^ s ∧ Chg [] w w' := by
 obtain ⟨⟨al, cl, rfl, hcapl, hrl⟩, hWl, hll⟩ := h;have hch := crf w;refine zE2 Tryz.func257 rfl ?_;refine Sr fun _ kh1 => za rfl (zz (kh1 (Sr fun _ kh3 => zm rfl (zn rfl ?_))));refine WL.makeU ((l).length) ((l).length) rfl rfl (by omega) (by omega) (by omega) (by omega) (by omega) rfl fun b11 wm11 hb11 hcm11 hge11 => ?_;have hgehch11 := Nat.le_trans hch.size hge11;have hch := hch.ta hcm11;refine za rfl (zz (kh3 (zc fun _ kh5 => Sr fun _ kh6 => zm rfl (zn rfl (zm rfl (zz (kh6 (CW.block ?_))))))));refine CW.loop (S := fun g : Nat × List Nat => [(0, .slice al l.length cl), (1, .int .i64 (s : Int)), (5, .slice (some ⟨b11, 0, none⟩) l.length l.length), (12, .slice al l.length cl), (13, .int .i64 (l.length : Int)), (14, .int .i64 (g.1 : Int))]) (Inv := KD l s w b11) (mu := fun g => l.length - g.1) ((0, List.replicate l.length 0)) ?_ ?_ ?_
 ·exact ⟨DownI.zero l _ s (by simp) (W_replicate _), hb11, hch⟩
 ·exact SLp
 rintro ⟨i, L⟩ wr ⟨hAd, hb11, hch⟩;dsimp only at hAd hb11 hch;have hiX := hAd.le;have hLl := hAd.len;have hWL := hAd.w;refine Sr fun _ kh8 => zL rfl rfl (zz (kh8 (zc fun _ kh10 => ?_)));refine zy rfl ?_ ?_<;>intro hc1<;>try simp only [qs] at hc1
 ·refine zkk (kh10 (zc fun _ kh11 => CW.block (Sr fun _ kh12 => zm rfl ?_)));refine WL.ev (Ev.ixR (i) rfl rfl (hrl.keep0 hch) (by omega) (by omega) (by simp; omega)) rfl ?_
  refine WL.ev (Ev.load rfl rfl ((hrl.keep0 hch).u32 (by first | omega | (simp; omega)))) rfl ?_;have hw18 := hWl.getD (i);refine za rfl (za rfl (zz (kh12 (Sr fun _ kh14 => zm rfl ?_))));refine WL.ev (Ev.convIn rfl rfl (in_u64 (by omega))) rfl ?_;refine za rfl (zz (kh14 (zc fun _ kh16 => Sr fun _ kh17 => zm rfl ?_)));(first | refine zi rfl rfl ?_ | refine zo rfl rfl ?_);refine zm rfl (zn rfl (zL rfl rfl (zz (kh17 ?_))));refine zy rfl ?_ ?_<;>intro hc2<;>try simp only [qs] at hc2
  ·refine zR fun _ kr19 => ?_
   refine zm rfl (zm rfl (zm rfl ?_));(first | refine zi rfl rfl ?_ | refine zo rfl rfl ?_);refine WL.ev (Ev.ixR ((i + 1)) rfl rfl (hrl.keep0 hch) (by omega) (by omega) (by simp; omega)) rfl ?_;refine WL.ev (Ev.load rfl rfl ((hrl.keep0 hch).u32 (by first | omega | (simp; omega)))) rfl ?_;have hw31 := hWl.getD ((i + 1));refine WL.ev (Ev.convIn rfl rfl (in_u64 (by omega))) rfl ?_;refine WL.ev (Ev.shlU64 (b := 32) rfl rfl) rfl ?_;refine WL.ev (Ev.orU rfl rfl rfl (by simp only [IntKind.bits]; omega) (by simp only [IntKind.bits]; omega)) rfl ?_;rw [Nat.mod_eq_of_lt (show l.getD (i + 1) 0 * 2 ^ 32 < 18446744073709551616 by omega), or_of_mul (show l.getD i 0 < 2 ^ 32 by omega), show l.getD (i + 1) 0 * 2 ^ 32 = l.getD (i + 1) 0 * 4294967296 from rfl];refine za rfl ?_;refine WL.nil (kr19 _ _ _ (kh16 ?_));refine zR fun _ kr20 => ?_;refine zm rfl (zm rfl (zm rfl (zm rfl ?_)));have hdl : (l.getD i 0 + l.getD (i + 1) 0 * 4294967296) / 2 ^ s ≤ l.getD i 0 + l.getD (i + 1) 0 * 4294967296 := Nat.div_le_self _ _;have hw1 := hWl.getD (i + 1);refine WL.ev (Ev.shrU rfl rfl (by simp only [IntKind.bits]; omega)) rfl ?_;refine WL.ev (Ev.conv32 rfl rfl) rfl ?_;refine WL.ev (Ev.ixB (i) rfl rfl (by omega) (by omega)) rfl ?_;refine WL.storeU rfl rfl hb11 (by first | omega | (simp; omega)) fun ws10 hb11_ hcs10 => ?_;have hch := hch.s1 hcs10;have hb11 := hb11_;refine WL.nil (kr20 _ _ _ (kh11 ?_));refine zS fun _ kr21 => ?_;(first | refine zi rfl rfl ?_ | refine zo rfl rfl ?_);refine zm rfl (zz (kr21 ?_));refine ⟨rfl, (i + 1, L.set i ((l.getD i 0 + l.getD (i + 1) 0 * 4294967296) / 2 ^ s % 4294967296)), ?_, ?_, ?_⟩
   ·exact SLp
   ·exact ⟨hAd.step hs hWl (by omega) rfl, hb11, hch⟩
   show l.length - (i + 1) < l.length - i; omega
  have hz1 : l.getD (i + 1) 0 = 0 := getD_out (by omega);have e0 : (l.getD i 0) = l.getD i 0 + l.getD (i + 1) 0 * 4294967296 := by omega
  refine zkk (kh16 ?_);refine zR fun _ kr22 => ?_;refine zm rfl (zm rfl (zm rfl ?_));rw [show (Value.int IntKind.u64 ((l.getD i 0 : Nat) : Int)) = Value.int IntKind.u64 ((l.getD i 0 + l.getD (i + 1) 0 * 4294967296 : Nat) : Int) from congrArg (fun q : Nat => Value.int IntKind.u64 (q : Int)) e0];refine zm rfl ?_;have hdl : (l.getD i 0 + l.getD (i + 1) 0 * 4294967296) / 2 ^ s ≤ l.getD i 0 + l.getD (i + 1) 0 * 4294967296 := Nat.div_le_self _ _;have hw1 := hWl.getD (i + 1);refine WL.ev (Ev.shrU rfl rfl (by simp only [IntKind.bits]; omega)) rfl ?_;refine WL.ev (Ev.conv32 rfl rfl) rfl ?_;refine WL.ev (Ev.ixB (i) rfl rfl (by omega) (by omega)) rfl ?_;refine WL.storeU rfl rfl hb11 (by first | omega | (simp; omega)) fun ws11 hb11_ hcs11 => ?_;have hch := hch.s1 hcs11;have hb11 := hb11_;refine WL.nil (kr22 _ _ _ (kh11 ?_));refine zS fun _ kr23 => ?_;(first | refine zi rfl rfl ?_ | refine zo rfl rfl ?_);refine zm rfl (zz (kr23 ?_));refine ⟨rfl, (i + 1, L.set i ((l.getD i 0 + l.getD (i + 1) 0 * 4294967296) / 2 ^ s % 4294967296)), ?_, ?_, ?_⟩
  ·exact SLp
  ·exact ⟨hAd.step hs hWl (by omega) rfl, hb11, hch⟩
  show l.length - (i + 1) < l.length - i; omega
 refine CW.exit ?_;refine kh5 (Sr fun _ kh24 => zm rfl (za rfl (zz (kh24 ?_))));refine zr (zr1 rfl rfl ?_);have hiX2 : i = l.length := by omega
 subst hiX2;exact ⟨L, NU.of_block hb11 hAd.w (by omega) (by omega) (Nat.le_refl _), hAd.done hWl, hch⟩

structure KM (la lb : List Nat) (w : World) (b : Nat) (g : Nat × List Nat) (wr : World) : Prop where
  a : MulI la lb g.1 g.2
  ob : OB wr b 209 g.2
  chg : Chg [] w wr
structure KN (x : Nat) (lb : List Nat) (i : Nat) (L0 : List Nat) (w : World) (b : Nat) (g : Nat × List Nat × Nat) (wr : World) : Prop where
  a : MulJ x lb i L0 g.1 g.2.1 g.2.2
  ob : OB wr b 209 g.2.1
  chg : Chg [] w wr

theorem times_spec (va vb : Value) (la lb : List Nat) (w : World) (ha : NU w va la) (hb : NU w vb lb) (hlm : la.length + lb.length ≤ 70368744177664) : Ret Tryz.prog 299 [va, vb] w fun u w' => ∃ L, NU w' u L ∧ L.length = la.length + lb.length ∧ val L = val la * val lb ∧ Chg [] w w' := by
 obtain ⟨⟨ala, cla, rfl, hcapla, hrla⟩, hWla, hlla⟩ := ha;obtain ⟨⟨alb, clb, rfl, hcaplb, hrlb⟩, hWlb, hllb⟩ := hb;have hch := crf w;refine zE2 Tryz.func299 rfl ?_;refine Sr fun _ kh1 => za rfl (zz (kh1 (Sr fun _ kh3 => zm rfl (zn rfl (zm rfl (zn rfl ?_))))));(first | refine zi rfl rfl ?_ | refine zo rfl rfl ?_);refine WL.makeU (((la).length + (lb).length)) (((la).length + (lb).length)) rfl rfl (by omega) (by omega) (by omega) (by omega) (by omega) rfl fun b17 wm17 hb17 hcm17 hge17 => ?_;have hgehch17 := Nat.le_trans hch.size hge17;have hch := hch.ta hcm17;refine za rfl (zz (kh3 (zc fun _ kh5 => Sr fun _ kh6 => zm rfl (zn rfl (zm rfl (zz (kh6 (CW.block ?_))))))));refine CW.loop (S := fun g : Nat × List Nat => [(1, .slice alb lb.length clb), (5, .slice (some ⟨b17, 0, none⟩) (la.length + lb.length) (la.length + lb.length)), (18, .slice ala la.length cla), (19, .int .i64 (la.length : Int)), (20, .int .i64 (g.1 : Int))]) (Inv := KM la lb w b17) (mu := fun g => la.length - g.1) ((0, List.replicate (la.length + lb.length) 0)) ?_ ?_ ?_
 ·exact ⟨MulI.zero la lb, hb17, hch⟩
 ·exact SLp
 rintro ⟨i, L0⟩ wr ⟨hAd, hb17, hch⟩;dsimp only at hAd hb17 hch;have hiX := hAd.le;have hLl := hAd.len;refine Sr fun _ kh8 => zL rfl rfl (zz (kh8 (zc fun _ kh10 => ?_)));refine zy rfl ?_ ?_<;>intro hc1<;>try simp only [qs] at hc1
 ·refine zkk (kh10 (zc fun _ kh11 => CW.block (Sr fun _ kh12 => zm rfl ?_)));refine WL.ev (Ev.ixR (i) rfl rfl (hrla.keep0 hch) (by omega) (by omega) (by simp; omega)) rfl ?_
  refine WL.ev (Ev.load rfl rfl ((hrla.keep0 hch).u32 (by first | omega | (simp; omega)))) rfl ?_;have hw24 := hWla.getD (i);refine za rfl (za rfl (zz (kh12 (Sr fun _ kh14 => za rfl (zz (kh14 (zc fun _ kh16 => Sr fun _ kh17 => zm rfl (zn rfl (zm rfl (zz (kh17 (CW.block ?_))))))))))));refine CW.loop (S := fun g : Nat × List Nat × Nat => [(1, .slice alb lb.length clb), (5, .slice (some ⟨b17, 0, none⟩) (la.length + lb.length) (la.length + lb.length)), (6, .int .i64 (i : Int)), (7, .int .u32 ((la.getD i 0 : Nat) : Int)), (8, .int .u64 (g.2.2 : Int)), (18, .slice ala la.length cla), (19, .int .i64 (la.length : Int)), (20, .int .i64 (i : Int)), (25, .slice alb lb.length clb), (26, .int .i64 (lb.length : Int)), (27, .int .i64 (g.1 : Int))]) (Inv := KN (la.getD i 0) lb i L0 w b17) (mu := fun g => lb.length - g.1) ((0, L0, 0)) ?_ ?_ ?_
  ·exact ⟨MulJ.zero hAd.w, hb17, hch⟩
  ·exact SLp
  rintro ⟨j, L, c⟩ wr2 ⟨hJ, hb17, hch⟩;dsimp only at hJ hb17 hch;have hjX := hJ.le;have hLl2 := hJ.len;have hWL := hJ.w;have hcc := hJ.c1;refine Sr fun _ kh19 => zL rfl rfl (zz (kh19 (zc fun _ kh21 => ?_)));refine zy rfl ?_ ?_<;>intro hc2<;>try simp only [qs] at hc2
  ·have hfit := MulJ.fits (hWla.getD i) (hWlb.getD j) (hWL.getD (i + j)) hcc
   have hxa := hWla.getD i;refine zkk (kh21 (zc fun _ kh22 => CW.block (Sr fun _ kh23 => zm rfl ?_)));refine WL.ev (Ev.ixR (j) rfl rfl (hrlb.keep0 hch) (by omega) (by omega) (by simp; omega)) rfl ?_;refine WL.ev (Ev.load rfl rfl ((hrlb.keep0 hch).u32 (by first | omega | (simp; omega)))) rfl ?_;have hw31 := hWlb.getD (j);refine za rfl (za rfl (zz (kh23 (Sr fun _ kh25 => zm rfl ?_))));refine WL.ev (Ev.convIn rfl rfl (in_u64 (by omega))) rfl ?_;refine zm rfl ?_;refine WL.ev (Ev.convIn rfl rfl (in_u64 (by omega))) rfl ?_;refine WL.ev (Ev.mul64In rfl rfl hfit.2.1) rfl ?_;refine zm rfl (zm rfl (zm rfl ?_));(first | refine zi rfl rfl ?_ | refine zo rfl rfl ?_);refine WL.ev (Ev.ixB ((i + j)) rfl rfl (by omega) (by omega)) rfl ?_;refine WL.ev (Ev.load rfl rfl (hb17.u32 (by first | omega | (simp; omega)))) rfl ?_;have hw42 := hWL.getD ((i + j));refine WL.ev (Ev.convIn rfl rfl (in_u64 (by omega))) rfl ?_;refine WL.ev (Ev.add64In rfl rfl hfit.2.2) rfl ?_;refine zm rfl ?_;refine WL.ev (Ev.add64In rfl rfl hfit.1) rfl ?_;refine za rfl (zz (kh25 ?_));refine zR fun _ kr27 => ?_;refine zm rfl (zm rfl (zm rfl ?_));(first | refine zi rfl rfl ?_ | refine zo rfl rfl ?_);refine zm rfl ?_;refine WL.ev (Ev.conv32 rfl rfl) rfl ?_;refine zm rfl ?_;refine WL.ev (Ev.shrU (b := 32) rfl rfl (by simp only [IntKind.bits]; exact hfit.1)) rfl ?_;refine WL.ev (Ev.ixB ((i + j)) rfl rfl (by omega) (by omega)) rfl ?_;refine WL.storeU rfl rfl hb17 (by first | omega | (simp; omega)) fun ws12 hb17_ hcs12 => ?_;have hch := hch.s1 hcs12;have hb17 := hb17_;refine za rfl ?_;refine WL.nil (kr27 _ _ _ (kh22 ?_));refine zS fun _ kr28 => ?_;(first | refine zi rfl rfl ?_ | refine zo rfl rfl ?_);refine zm rfl (zz (kr28 ?_));refine ⟨rfl, (j + 1, L.set (i + j) ((la.getD i 0 * lb.getD j 0 + L.getD (i + j) 0 + c) % 4294967296), (la.getD i 0 * lb.getD j 0 + L.getD (i + j) 0 + c) / 4294967296), ?_, ?_, ?_⟩
   ·exact SLp
   ·exact ⟨hJ.step (hWla.getD i) hWlb (by omega) (by omega), hb17, hch⟩
   show lb.length - (j + 1) < lb.length - j; omega
  have hjX2 : j = lb.length := by omega
  subst hjX2;refine CW.exit ?_;refine kh16 ?_;refine zR fun _ kr29 => ?_;refine zm rfl (zm rfl (zm rfl (zn rfl ?_)));(first | refine zi rfl rfl ?_ | refine zo rfl rfl ?_);refine zm rfl ?_;refine WL.ev (Ev.conv32 rfl rfl) rfl ?_;rw [Nat.mod_eq_of_lt hcc];refine WL.ev (Ev.ixB ((i + (lb).length)) rfl rfl (by omega) (by omega)) rfl ?_;refine WL.storeU rfl rfl hb17 (by first | omega | (simp; omega)) fun ws13 hb17_ hcs13 => ?_;have hch := hch.s1 hcs13;have hb17 := hb17_;refine WL.nil (kr29 _ _ _ (kh11 ?_));refine zS fun _ kr30 => ?_;(first | refine zi rfl rfl ?_ | refine zo rfl rfl ?_);refine zm rfl (zz (kr30 ?_));refine ⟨rfl, (i + 1, L.set (i + lb.length) c), ?_, ?_, ?_⟩
  ·exact SLp
  ·exact ⟨hAd.step (by omega) hJ, hb17, hch⟩
  show la.length - (i + 1) < la.length - i; omega
 refine CW.exit ?_;refine kh5 (Sr fun _ kh31 => zm rfl (za rfl (zz (kh31 ?_))));refine zr (zr1 rfl rfl ?_);have hiX2 : i = la.length := by omega
 subst hiX2;exact ⟨L0, NU.of_block hb17 hAd.w (by omega) (by omega) (Nat.le_refl _), by omega, hAd.done, hch⟩

end

/- Package wide: Mul, Shift; math/bits: Mul64. No condition. -/
section
open Go Sx Wd

theorem Mul_spec (va vb : Value) (la lb : List Nat) (w : World) (ha : NU w va la) (hb : NU w vb lb) : Ret Tryz.prog 216 [va, vb] w fun u w' => (((wd (val la)).length ≤ 8192 ∧ (wd (val lb)).length ≤ 8192 ∧ (wd (val la * val lb)).length ≤ 8192 ∧ ∃ r, u = .tuple [r, .int .i64 0].toArray ∧ NU w' r (wd (val la * val lb))) ∨ (¬ ((wd (val la)).length ≤ 8192 ∧ (wd (val lb)).length ≤ 8192 ∧ (wd (val la * val lb)).length ≤ 8192) ∧ u = .tuple [.slice none 0 0, .int .i64 2].toArray)) ∧ Chg [] w w' := by
 have hch := crf w;refine zE2 Tryz.func216 rfl ?_;refine Sr fun _ kh1 => za rfl (za rfl (zz (kh1 (Sr fun _ kh3 => zm rfl (zm rfl ?_)))));refine WL.call hasF263 rfl rfl (both_spec _ _ _ _ _ ha hb) fun v w10 h' => ?_;obtain ⟨h', rfl⟩ := h';rcases h' with ⟨hfit, x, y, rfl, hNx, hNy⟩ | ⟨hno, rfl⟩
 ·refine zm rfl (zx rfl rfl (zx rfl rfl (zx rfl rfl (za rfl (za rfl (za rfl (zz (kh3 (zc fun _ kh5 => Sr fun _ kh6 => zm rfl (zN rfl rfl (zz (kh6 ?_))))))))))));refine CW.condF rfl ?_;refine zkk (kh5 (Sr fun _ kh8 => zm rfl (zm rfl ?_)));refine WL.call hasF299 rfl rfl (times_spec _ _ _ _ _ hNx hNy (by omega)) fun v w1 h' => ?_;obtain ⟨L, hNL, _, hvL, hC19⟩ := h';have hch := hch.trans hC19;rw [val_wd, val_wd] at hvL;refine WL.call hasF258 rfl rfl (fits_spec _ _ _ hNL) fun v w20 h' => ?_;obtain ⟨h', rfl⟩ := h';rw [hvL] at h';rcases h' with ⟨hfs, r, rfl, hNr⟩ | ⟨hfs, rfl⟩
  ·refine zx rfl rfl (zx rfl rfl (za rfl (za rfl (zz (kh8 ?_)))));refine zr (zr2 rfl rfl rfl ?_);exact ⟨.inl ⟨hfit.1, hfit.2, hfs, r, rfl, hNr⟩, hch⟩
  refine zx rfl rfl (zx rfl rfl (za rfl (za rfl (zz (kh8 ?_)))));refine zr (zr2 rfl rfl rfl ?_);exact ⟨.inr ⟨by omega, rfl⟩, hch⟩
 refine zm rfl (zx rfl rfl (zx rfl rfl (zx rfl rfl (za rfl (za rfl (za rfl (zz (kh3 (zc fun _ kh10 => Sr fun _ kh11 => zm rfl (zN rfl rfl (zz (kh11 ?_))))))))))));refine CW.condT rfl ?_;refine Sr fun _ kh13 => zm rfl (za rfl (za rfl (zz (kh13 ?_))));refine zr (zr2 rfl rfl rfl ?_);exact ⟨.inr ⟨by omega, rfl⟩, Chg.refl _ _⟩

def shiftN (n : Nat) (s : Int) : Nat := if s < 0 then n / 2 ^ (-s).toNat else n * 2 ^ s.toNat
theorem shiftN_neg (n q : Nat) (h : 0 < q) : shiftN n (-(q : Int)) = n / 2 ^ q := by
  unfold shiftN; rw [if_pos (by omega), show (- -(q : Int)).toNat = q by omega]
theorem shiftN_pos (n q : Nat) : shiftN n (q : Int) = n * 2 ^ q := by
  unfold shiftN; rw [if_neg (by omega), show (q : Int).toNat = q by omega]
theorem shiftN_out {n : Nat} {s : Int} (h : n = 0 ∨ s ≤ -(bl n : Int)) : shiftN n s = 0 := by
  rcases h with rfl | h
  · unfold shiftN; split <;> simp
  · by_cases h0 : n = 0
    · subst h0; unfold shiftN; split <;> simp
    · have := bl_pos h0
      obtain ⟨q, rfl⟩ : ∃ q : Nat, s = -(q : Int) := ⟨(-s).toNat, by omega⟩
      rw [shiftN_neg _ _ (by omega)]
      exact Nat.div_eq_of_lt (bl_le.1 (by omega))
theorem div_words {n q : Nat} : n / 2 ^ (32 * (q / 32)) / 2 ^ (q % 32) = n / 2 ^ q := by
  rw [Nat.div_div_eq_div_mul, ← Nat.pow_add, show 32 * (q / 32) + q % 32 = q by omega]
theorem bl_words {n k : Nat} : bl n ≤ 32 * k ↔ (wd n).length ≤ k := by rw [bl_le, wd_length_le]

theorem Shift_spec (v : Value) (l : List Nat) (s : Int) (w : World) (h : NU w v l) (hs : -9223372036854775808 ≤ s ∧ s ≤ 9223372036854775807) : Ret Tryz.prog 172 [v, .int .i64 s] w fun u w' => ((((wd (val l)).length ≤ 8192 ∧ (val l = 0 ∨ s ≤ 262144 - (bl (val l) : Int))) ∧ ∃ r, u = .tuple [r, .int .i64 0].toArray ∧ NU w' r (wd (shiftN (val l) s))) ∨ (¬ (((wd (val l)).length ≤ 8192 ∧ (val l = 0 ∨ s ≤ 262144 - (bl (val l) : Int)))) ∧ u = .tuple [.slice none 0 0, .int .i64 2].toArray)) ∧ Chg [] w w' := by
 obtain ⟨A, hA⟩ : ∃ A, A = wd (val l) := ⟨_, rfl⟩;have hvA : val A = val l := by rw [hA]; exact val_wd _
 have hb32 := bl_words (n := val l) (k := 8192);have hbz := bl_eq_zero (n := val l);rw [← hA] at hb32;have hbA : bl (val l) ≤ 32 * A.length := by rw [bl_words, ← hA]; exact Nat.le_refl _
 have hch := crf w;refine zE2 Tryz.func172 rfl ?_;refine Sr fun _ kh1 => za rfl (za rfl (zz (kh1 (Sr fun _ kh3 => zm rfl ?_))));refine WL.call hasF255 rfl rfl (cut_spec _ _ _ h) fun v w1 h' => ?_;obtain ⟨hN1, rfl⟩ := h';rw [← hA] at hN1;obtain ⟨⟨a1, c1, rfl, hcap1, hr1⟩, hW1, hl1⟩ := hN1;refine za rfl (zz (kh3 (zc fun _ kh5 => CW.block (Sr fun _ kh6 => zm rfl (zn rfl (zG rfl rfl (za rfl (zz (kh6 ?_)))))))));refine zy rfl ?_ ?_<;>intro hc1<;>try simp only [qs] at hc1
 ·refine Sr fun _ kh8 => za rfl (za rfl (zz (kh8 ?_)));refine zr (zr2 rfl rfl rfl ?_);rw [← hA];exact ⟨.inr ⟨by omega, rfl⟩, hch⟩
 have hN1 : NU w (.slice a1 A.length c1) A := NU.of_row hr1 hW1 hl1 rfl hcap1;have hAz : A.length = 0 ↔ val l = 0 := by rw [← hvA]; rw [hA]; rw [val_wd]; rw [List.length_eq_zero_iff, wd_eq_nil]
 refine Sr fun _ kh10 => zm rfl (zn rfl (zq rfl rfl (zm rfl ?_)));refine zb ?_ ?_<;>intro hg2<;>try simp only [qs] at hg2
 ·refine zv rfl (zv rfl (zv rfl (zv rfl (zv rfl (zt rfl rfl (za rfl (zz (kh10 ?_))))))));refine CW.condT rfl ?_
  refine Sr fun _ kh12 => za rfl (za rfl (zz (kh12 ?_)));refine zr (zr2 rfl rfl rfl ?_);have h0 : val l = 0 := by omega
  rw [shiftN_out (.inl h0), wd_zero, ← hA];exact ⟨.inl ⟨⟨by omega, .inl h0⟩, _, rfl, NU.nil⟩, hch⟩
 refine zw rfl (zm rfl (zw rfl (zm rfl (zw rfl ?_))));refine WL.call hasF184 rfl rfl (Len_spec _ _ _ hN1) fun v w2 h' => ?_;obtain ⟨rfl, rfl⟩ := h';rw [hvA];refine zw rfl ?_;refine WL.ev (Ev.negIn rfl (by omega)) rfl ?_;refine zw rfl (zQ rfl rfl (ze rfl rfl (za rfl (zz (kh10 ?_)))));refine zy rfl ?_ ?_<;>intro hc3<;>try simp only [qs] at hc3
 ·refine Sr fun _ kh14 => za rfl (za rfl (zz (kh14 ?_)));refine zr (zr2 rfl rfl rfl ?_);rw [shiftN_out (.inr (by omega)), wd_zero, ← hA];exact ⟨.inl ⟨⟨by omega, .inr (by omega)⟩, _, rfl, NU.nil⟩, hch⟩
 refine Sr fun _ kh16 => zm rfl (zL rfl rfl (za rfl (zz (kh16 ?_))));refine zy rfl ?_ ?_<;>intro hc4<;>try simp only [qs] at hc4
 ·obtain ⟨q, rfl⟩ : ∃ q : Nat, s = -(q : Int) := ⟨(-s).toNat, by omega⟩
  have hN1d : NU w (.slice (cutAt a1 (q / 32) c1 1) (A.length - q / 32) (c1 - q / 32)) (A.drop (q / 32)) := NU.of_row (by rw [List.map_drop]; exact hr1.cut _ _ (by simp; omega) (by simpa using hcap1)) (hW1.drop _) (by simp; omega) (by simp) (by omega);refine Sr fun _ kh18 => zm rfl (zm rfl ?_);refine WL.ev (Ev.negIn rfl (by omega)) rfl ?_;rw [Int.neg_neg];refine WL.ev (Ev.quoU (b := 32) rfl rfl (by omega) (in_i64 (by omega)).2) rfl ?_;refine WL.ev (Ev.sliceLn ((q / 32)) rfl rfl (by omega) (by omega)) rfl ?_;refine zm rfl ?_;refine WL.ev (Ev.negIn rfl (by omega)) rfl ?_;rw [Int.neg_neg];refine WL.ev (Ev.remU (b := 32) rfl rfl (by omega)) rfl ?_;refine WL.call hasF257 rfl rfl (down_spec _ _ _ _ hN1d (by omega)) fun v w3 h' => ?_;obtain ⟨L, hNL, hvL, hC35⟩ := h';have hch := hch.trans hC35;rw [val_drop hW1 _ (by omega), hvA, div_words] at hvL;refine WL.call hasF256 rfl rfl (Norm_spec _ _ _ hNL) fun v w4 h' => ?_;obtain ⟨hNR, hC36⟩ := h';have hch := hch.trans hC36;rw [hvL] at hNR;refine za rfl (za rfl (zz (kh18 ?_)));refine zr (zr2 rfl rfl rfl ?_);rw [shiftN_neg _ _ (by omega), ← hA];exact ⟨.inl ⟨⟨by omega, .inr (by omega)⟩, _, rfl, hNR⟩, hch⟩
 obtain ⟨q, rfl⟩ : ∃ q : Nat, s = (q : Int) := ⟨s.toNat, by omega⟩;refine Sr fun _ kh20 => zm rfl (zm rfl ?_);refine WL.call hasF184 rfl rfl (Len_spec _ _ _ hN1) fun v w5 h' => ?_;obtain ⟨rfl, rfl⟩ := h';rw [hvA]
 first | refine WL.ev (Ev.subIn rfl rfl (by omega)) rfl ?_ | refine WL.ev (Ev.sub rfl rfl) rfl ?_
 refine zG rfl rfl (za rfl (zz (kh20 ?_)));refine zy rfl ?_ ?_<;>intro hc5<;>try simp only [qs] at hc5
 ·refine Sr fun _ kh22 => za rfl (za rfl (zz (kh22 ?_)));refine zr (zr2 rfl rfl rfl ?_);rw [← hA];exact ⟨.inr ⟨by omega, rfl⟩, hch⟩
 refine zkk (kh5 (Sr fun _ kh24 => zm rfl ?_));refine WL.ev (Ev.quoU (b := 32) rfl rfl (by omega) (in_i64 (by omega)).2) rfl ?_;refine zm rfl ?_;refine WL.ev (Ev.quoU (b := 32) rfl rfl (by omega) (in_i64 (by omega)).2) rfl ?_;refine zm rfl (zn rfl ?_);(first | refine zi rfl rfl ?_ | refine zo rfl rfl ?_);(first | refine zi rfl rfl ?_ | refine zo rfl rfl ?_);refine WL.makeU ((q / 32)) ((((q / 32) + (A).length) + 1)) rfl rfl (by omega) (by omega) (by omega) (by omega) (by omega) rfl fun b51 wm51 hb51 hcm51 hge51 => ?_;have hgehch51 := Nat.le_trans hch.size hge51;have hch := hch.ta hcm51;refine za rfl (zz (kh24 (Sr fun _ kh26 => zm rfl (zm rfl (zm rfl ?_)))));refine WL.ev (Ev.remU (b := 32) rfl rfl (by omega)) rfl ?_;refine WL.call hasF259 rfl rfl (up_spec _ _ _ _ (hN1.keep0 hch) (by omega) (by omega)) fun v w6 h' => ?_;obtain ⟨L, hNL, hlL, hvL, hC56⟩ := h';have hch := hch.trans hC56;have hb51 := hb51.k0 hC56;obtain ⟨⟨a2, c2, rfl, hcap2, hr2⟩, hW2, hl2⟩ := hNL;rw [hvA] at hvL;obtain ⟨ad2, rfl⟩ := hr2.some_ (by simp; omega);have hown := own_of_OB (k := q / 32) hb51 (by simp; omega) (by simp; omega);rw [List.length_replicate] at hown;refine WL.append (m := q / 32) (mm := L.length) (news := L.map u32v) (by rfl) (by decide) rfl rfl hown (by simp) (fun j u hu => by obtain ⟨ad3, e3, h3⟩ := hr2 j u hu; cases e3; exact h3) (u32_one _) (by unfold maxLen; omega) (by omega) rfl fun v57 w57 hown2 hcs57 hloc57 => ?_;have hfr57 : ∀ y ∈ (Value.slice (some ⟨b51, 0, none⟩) (q / 32) (q / 32 + A.length + 1)).ownBlock.toList, w.heap.size ≤ y := fun y hy => by
  have hy2 : y = b51 := by simpa [Value.ownBlock] using hy
  subst hy2; assumption
 have hch := hch.step hcs57 (fun y hy => .inr (hfr57 y hy));rw [← List.map_append] at hown2;have hN57 := NU.of_own hown2 (W_append.2 ⟨(W_replicate _).take _, hW2⟩) (by simp; omega);have hv57 : val ((List.replicate (q / 32 + A.length + 1) 0).take (q / 32) ++ L) = val l * 2 ^ q := by
  rw [List.take_replicate, show min (q / 32) (q / 32 + A.length + 1) = q / 32 by omega, val_append, val_replicate, List.length_replicate, hvL, Nat.zero_add, Nat.mul_left_comm, ← Nat.pow_add, show 32 * (q / 32) + q % 32 = q by omega]
 refine WL.call hasF258 rfl rfl (fits_spec _ _ _ hN57) fun v w7 h' => ?_;obtain ⟨h', rfl⟩ := h';rw [hv57] at h';obtain ⟨hfs, r, rfl, hNr⟩ := h'.resolve_right (fun q1 => by
  have q2 := q1.1;have q3 : (wd (val l * 2 ^ q)).length ≤ 8192 := by
   refine bl_words.1 ?_
   by_cases h0 : val l = 0
   · rw [h0]; simp [bl_zero]
   rw [bl_mul_pow h0]; omega
  omega)
 refine zx rfl rfl (zx rfl rfl (za rfl (za rfl (zz (kh26 ?_)))));refine zr (zr2 rfl rfl rfl ?_);rw [shiftN_pos, ← hA];exact ⟨.inl ⟨⟨by omega, .inr (by omega)⟩, r, rfl, hNr⟩, hch⟩

end

/- Dyads as plain numbers: their form, sums, products. No condition. -/
namespace Wd

theorem eq_of_val {a b : List Nat} (ha : W a) (hb : W b) (hl : a.length = b.length) (hv : val a = val b) : a = b := by
  induction a generalizing b with
  | nil => cases b with
    | nil => rfl
    | cons y b => simp at hl
  | cons x a ih =>
    cases b with
    | nil => simp at hl
    | cons y b =>
      obtain ⟨h1, h2⟩ := W_cons.1 ha
      obtain ⟨h3, h4⟩ := W_cons.1 hb
      simp only [val] at hv
      have e1 : x = y := by omega
      have e2 := ih h2 h4 (by simpa using hl) (by omega)
      rw [e1, e2]
theorem low_or {x y s : Nat} (hx : x < 4294967296) (hs : s < 32) : x / 2 ^ s ||| (y * 2 ^ (32 - s) % 4294967296) = (x + y * 4294967296) / 2 ^ s % 4294967296 := by
  have hp := Nat.two_pow_pos s
  have e32 : (4294967296 : Nat) = 2 ^ s * 2 ^ (32 - s) := by rw [← Nat.pow_add, show s + (32 - s) = 32 by omega]
  have e1 : y * 2 ^ (32 - s) % 4294967296 = (y % 2 ^ s) * 2 ^ (32 - s) := by rw [e32, Nat.mul_mod_mul_right]
  have hq : x / 2 ^ s < 2 ^ (32 - s) := by
    rw [Nat.div_lt_iff_lt_mul hp, Nat.mul_comm, ← e32]; exact hx
  have e2 : (x + y * 4294967296) / 2 ^ s = x / 2 ^ s + y * 2 ^ (32 - s) := by
    rw [e32, show y * (2 ^ s * 2 ^ (32 - s)) = 2 ^ s * (y * 2 ^ (32 - s)) by rw [Nat.mul_left_comm], Nat.add_mul_div_left _ _ hp]
  rw [e1, or_of_mul hq, e2]
  have hm : y % 2 ^ s + 1 ≤ 2 ^ s := Nat.mod_lt _ hp
  have hm2 := Nat.mul_le_mul_right (2 ^ (32 - s)) hm
  rw [← e32, Nat.add_mul, Nat.one_mul] at hm2
  have e3 : x / 2 ^ s + y * 2 ^ (32 - s) = (x / 2 ^ s + y % 2 ^ s * 2 ^ (32 - s)) + 4294967296 * (y / 2 ^ s) := by
    have := Nat.mod_add_div y (2 ^ s)
    have e4 : y * 2 ^ (32 - s) = y % 2 ^ s * 2 ^ (32 - s) + 4294967296 * (y / 2 ^ s) := by
      conv => lhs; rw [← this]
      rw [Nat.add_mul, e32]
      simp only [Nat.mul_comm, Nat.mul_left_comm, Nat.mul_assoc]
    omega
  have e5 : (x / 2 ^ s + y * 2 ^ (32 - s)) % 4294967296 = x / 2 ^ s + y % 2 ^ s * 2 ^ (32 - s) := by
    rw [e3, Nat.add_mul_mod_self_left]
    exact Nat.mod_eq_of_lt (by omega)
  exact e5.symm
theorem lower_words {l L : List Nat} {s : Nat} (hl : W l) (hL : W L) (hlen : L.length = l.length) (hp : 0 < l.length) (hlast : l.getD (l.length - 1) 0 ≠ 0) (hs : s < 32) (hv : val L = val l / 2 ^ s) :
    (L.getD (l.length - 1) 0 ≠ 0 → L = wd (val l / 2 ^ s)) ∧ (L.getD (l.length - 1) 0 = 0 → L.take (l.length - 1) = wd (val l / 2 ^ s)) := by
  refine ⟨fun h => ?_, fun h => ?_⟩
  · rw [← hv]; exact (wd_of_last hL (.inr (by rw [hlen]; exact h))).symm
  · have h1 : val L = val (L.take (l.length - 1)) := by
      have := val_take_succ' L (l.length - 1)
      rw [h, show l.length - 1 + 1 = L.length by omega, List.take_length] at this
      simpa using this
    have h2 : 2 ^ (32 * (l.length - 1)) ≤ val l := by
      have := bl_val hl (List.length_pos_iff.1 hp) hlast
      have hb := bl_pos hlast
      exact lt_bl.1 (by omega)
    refine eq_of_val (hL.take _) (W_wd _) ?_ (by rw [val_wd, ← hv, h1])
    rw [List.length_take, Nat.min_eq_left (by omega)]
    refine Nat.le_antisymm ?_ (wd_length_le.2 ?_)
    · by_cases hk : l.length - 1 = 0
      · omega
      · have h3 : 2 ^ (32 * (l.length - 1 - 1)) ≤ val l / 2 ^ s := by
          rw [Nat.le_div_iff_mul_le (Nat.two_pow_pos s), ← Nat.pow_add]
          exact Nat.le_trans (Nat.pow_le_pow_right (by decide) (by omega)) h2
        have h4 : ¬ (wd (val l / 2 ^ s)).length ≤ l.length - 1 - 1 := by rw [wd_length_le]; omega
        omega
    · rw [← hv, h1]
      have := val_lt (hL.take (l.length - 1))
      rwa [List.length_take, Nat.min_eq_left (by omega)] at this
structure Dy where
  neg : Bool
  m : Nat
  e : Int
def Dy.zero : Dy := ⟨false, 0, 0⟩
def formD (neg : Bool) (n : Nat) (e : Int) : Option Dy :=
  if n = 0 then some Dy.zero else if 1048576 - (tz n : Int) < e ∨ e < -1048576 - (tz n : Int) ∨ 8192 < (wd (n / 2 ^ tz n)).length then none else some ⟨neg, n / 2 ^ tz n, e + tz n⟩
theorem formD_zero (neg : Bool) (e : Int) : formD neg 0 e = some Dy.zero := by simp [formD]
theorem formD_none {neg : Bool} {n : Nat} {e : Int} (h0 : n ≠ 0) (h : 1048576 - (tz n : Int) < e ∨ e < -1048576 - (tz n : Int) ∨ 8192 < (wd (n / 2 ^ tz n)).length) : formD neg n e = none := by
  unfold formD; rw [if_neg h0, if_pos h]
theorem formD_some {neg : Bool} {n : Nat} {e : Int} (h0 : n ≠ 0) (h : ¬ (1048576 - (tz n : Int) < e ∨ e < -1048576 - (tz n : Int) ∨ 8192 < (wd (n / 2 ^ tz n)).length)) : formD neg n e = some ⟨neg, n / 2 ^ tz n, e + tz n⟩ := by
  unfold formD; rw [if_neg h0, if_neg h]
structure Dy.ok (d : Dy) : Prop where
  z : d.m = 0 → d = Dy.zero
  odd : d.m ≠ 0 → d.m % 2 = 1
  len : (wd d.m).length ≤ 8192
  e : -1048576 ≤ d.e ∧ d.e ≤ 1048576
theorem formD_ok {neg : Bool} {n : Nat} {e : Int} {d : Dy} (h : formD neg n e = some d) : d.ok := by
  unfold formD at h
  split at h
  · cases h; exact ⟨fun _ => rfl, fun h => absurd rfl h, by simp [Dy.zero, wd_zero], by simp [Dy.zero]⟩
  · split at h
    · cases h
    · rename_i h0 h1
      cases h
      obtain ⟨a, b⟩ := tz_spec h0
      refine ⟨fun hz => ?_, fun _ => a, by simpa using (by omega : (wd (n / 2 ^ tz n)).length ≤ 8192), by simp; omega⟩
      simp only at hz
      rw [hz] at a; simp at a
theorem formD_self {d : Dy} (h : d.ok) : formD d.neg d.m d.e = some d := by
  by_cases h0 : d.m = 0
  · rw [h.z h0]; rfl
  · have ho := h.odd h0
    have ht := tz_odd ho
    have he := h.e
    have hl := h.len
    rw [formD_some h0 (by rw [ht]; simp; omega), ht]
    simp
def addD (x y : Dy) : Option Dy :=
  if x.m = 0 then some y else if y.m = 0 then some x else
  if 8192 < (wd (x.m * 2 ^ (x.e - min x.e y.e).toNat)).length ∨ 8192 < (wd (y.m * 2 ^ (y.e - min x.e y.e).toNat)).length then none
  else if x.neg = y.neg then formD x.neg (x.m * 2 ^ (x.e - min x.e y.e).toNat + y.m * 2 ^ (y.e - min x.e y.e).toNat) (min x.e y.e)
  else if x.m * 2 ^ (x.e - min x.e y.e).toNat < y.m * 2 ^ (y.e - min x.e y.e).toNat then formD y.neg (y.m * 2 ^ (y.e - min x.e y.e).toNat - x.m * 2 ^ (x.e - min x.e y.e).toNat) (min x.e y.e)
  else formD x.neg (x.m * 2 ^ (x.e - min x.e y.e).toNat - y.m * 2 ^ (y.e - min x.e y.e).toNat) (min x.e y.e)
def mulD (x y : Dy) : Option Dy := if 8192 < (wd (x.m * y.m)).length then none else formD (x.neg != y.neg) (x.m * y.m) (x.e + y.e)
def both2 (f : Dy → Dy → Option Dy) (a b : Option Dy) : Option Dy :=
  match a, b with
  | some x, some y => f x y
  | _, _ => none
theorem both2_none_right {f : Dy → Dy → Option Dy} {a : Option Dy} : both2 f a none = none := by cases a <;> rfl
end Wd

/- Package dyad: forms. No condition. -/
section
open Go Sx Wd

theorem lower_spec (v : Value) (l : List Nat) (s : Nat) (w : World) (h : NU w v l) (hs : s < 32) (hp : 0 < l.length) (hlast : l.getD (l.length - 1) 0 ≠ 0) : Ret Tryz.prog 261 [v, .int .i64 (s : Int)] w fun u w' => NU w' u (wd (val l / 2 ^ s)) ∧ Chg [] w w' := by
  obtain ⟨⟨al, cl, rfl, hcapl, hrl⟩, hWl, hll⟩ := h;have hch := crf w;refine zE2 Tryz.func261 rfl ?_;refine Sr fun _ kh1 => za rfl (zz (kh1 (Sr fun _ kh3 => zm rfl (zn rfl ?_))));refine WL.makeU ((l).length) ((l).length) rfl rfl (by omega) (by omega) (by omega) (by omega) (by omega) rfl fun b11 wm11 hb11 hcm11 hge11 => ?_;have hgehch11 := Nat.le_trans hch.size hge11;have hch := hch.trans hcm11;refine za rfl (zz (kh3 (zc fun _ kh5 => Sr fun _ kh6 => zm rfl (zn rfl (zm rfl (zz (kh6 (CW.block ?_))))))));refine CW.loop (S := fun g : Nat × List Nat => [(0, .slice al l.length cl), (1, .int .i64 (s : Int)), (5, .slice (some ⟨b11, 0, none⟩) l.length l.length), (12, .slice al l.length cl), (13, .int .i64 (l.length : Int)), (14, .int .i64 (g.1 : Int))]) (Inv := KD l s w b11) (mu := fun g => l.length - g.1) ((0, List.replicate l.length 0)) ?_ ?_ ?_
  · exact ⟨DownI.zero l _ s (by simp) (W_replicate _), hb11, hch⟩
  · exact SLp
  rintro ⟨i, L⟩ wr ⟨hAd, hb11, hch⟩;dsimp only at hAd hb11 hch;have hiX := hAd.le;have hLl := hAd.len;have hWL := hAd.w;refine Sr fun _ kh8 => zL rfl rfl (zz (kh8 (zc fun _ kh10 => ?_)));refine zy rfl ?_ ?_<;>intro hc1<;>try simp only [qs] at hc1
  · refine zkk (kh10 (zc fun _ kh11 => CW.block (Sr fun _ kh12 => zm rfl ?_)));refine WL.ev (Ev.ixR (i) rfl rfl (hrl.keep0 hch) (by omega) (by omega) (by simp; omega)) rfl ?_
    refine WL.ev (Ev.load rfl rfl ((hrl.keep0 hch).u32 (by first | omega | (simp; omega)))) rfl ?_;have hw18 := hWl.getD (i);refine za rfl (za rfl (zz (kh12 (Sr fun _ kh14 => zm rfl (zm rfl (zm rfl (zm rfl ?_)))))));refine WL.ev (Ev.shrU rfl rfl (by simp only [IntKind.bits]; omega)) rfl ?_;have hdl : l.getD i 0 / 2 ^ s ≤ l.getD i 0 := Nat.div_le_self _ _;refine WL.ev (Ev.ixB (i) rfl rfl (by omega) (by omega)) rfl ?_;refine WL.storeU rfl rfl hb11 (by first | omega | (simp; omega)) fun ws1 hb11_ hcs1 => ?_;have hch := hch.s2 hcs1;have hb11 := hb11_;refine zz (kh14 ?_);refine CW.seqM 33 (decide (0 < s ∧ i + 1 < l.length)) ?_ ?_
    · refine zS fun _ kr16 => zm rfl (zG rfl rfl (zm rfl ?_));refine zb ?_ ?_<;>intro hg2<;>try simp only [qs] at hg2
      · refine zw rfl (zm rfl (zw rfl ?_));(first | refine zi rfl rfl ?_ | refine zo rfl rfl ?_);refine zw rfl (zm rfl (zw rfl (zn rfl (zw rfl (zL rfl rfl (zt rfl rfl (zz (kr16 ?_))))))));refine ⟨rfl, rfl, Subs.consB rfl ?_ ?_⟩
        · first | (simp; omega) | (refine decide_eq_decide.2 ?_; omega)
        exact SMg
      refine zv rfl (zv rfl (zv rfl (zv rfl (zv rfl (ze rfl rfl (zz (kr16 ?_)))))));refine ⟨rfl, rfl, Subs.consB rfl ?_ ?_⟩
      · first | (simp; omega) | (refine decide_eq_decide.2 ?_; omega)
      exact SMg
    refine zy rfl ?_ ?_<;>intro hc3<;>try simp only [qs] at hc3
    · refine CW.regionKC 14 15 rfl hmix fun kR17 kr17 hS hdr => ?_
      have hch := hch.trans hdr;have hb11 := hb11.k0 hdr;have hch_r := hch;have hb11_r := hb11;refine wk 0 rfl hS (eM rfl) (wk 1 rfl hS (eM rfl) (wk 2 rfl hS (fun _ _ => Ev.ixB (i) rfl rfl (by omega) (by omega)) (wk 3 rfl hS (fun _ hw' => Ev.load rfl rfl ((hb11_r.keep0 hw').u32 (by simp; omega))) ?_)));rw [getD_set_self (by omega)];refine wk 4 rfl hS (eM rfl) (wk 5 rfl hS (eM rfl) (wk 6 rfl hS (fun _ _ => Ev.addIn rfl rfl (by omega)) (wk 7 rfl hS (fun _ hw' => Ev.ixR ((i + 1)) rfl rfl (hrl.keep0 (hch_r.trans hw')) (by omega) (by omega) (by simp; omega)) (wk 8 rfl hS (fun _ hw' => Ev.load rfl rfl ((hrl.keep0 (hch_r.trans hw')).u32 (by first | omega | (simp; omega)))) ?_))));have hw42 := hWl.getD ((i + 1));refine wk 9 rfl hS (eM rfl) (wk 10 rfl hS (fun _ _ => Ev.subIn rfl rfl (by omega)) ?_);rw [show (32 : Int) - (s : Int) = ((32 - s : Nat) : Int) by omega];refine wk 11 rfl hS (fun _ _ => Ev.shlU32 rfl rfl) (wk 12 rfl hS (fun _ _ => Ev.orU rfl rfl rfl (by simp only [IntKind.bits]; omega) (by simp only [IntKind.bits]; omega)) ?_);rw [low_or (hWl.getD i) hs];refine wk 13 rfl hS (fun _ _ => Ev.ixB (i) rfl rfl (by omega) (by omega)) ?_;refine WK.storeU 14 rfl (by kernel_rfl) (by kernel_rfl) rfl rfl hb11 (by first | omega | (simp; omega)) fun ws2 hb11_ hcs2 => ?_;have hch := hch.s2 hcs2;have hb11 := hb11_;refine WK.done (by kernel_rfl) (kr17 _ _ _ ?_);refine kh11 (zS fun _ kr18 => ?_);(first | refine zi rfl rfl ?_ | refine zo rfl rfl ?_);refine zm rfl (zz (kr18 ?_));refine ⟨rfl, (i + 1, L.set i ((l.getD i 0 + l.getD (i + 1) 0 * 4294967296) / 2 ^ s % 4294967296)), ?_, ?_, ?_⟩
      · exact SLp
      · rw [List.set_set] at hb11;exact ⟨hAd.step hs hWl (by omega) rfl, hb11, hch⟩
      show l.length - (i + 1) < l.length - i; omega
    have hfin : l.getD i 0 / 2 ^ s = (l.getD i 0 + l.getD (i + 1) 0 * 4294967296) / 2 ^ s % 4294967296 := by
      by_cases q0 : i + 1 < l.length
      · have : s = 0 := by omega
        subst this; rw [Nat.pow_zero, Nat.div_one, Nat.div_one]; omega
      rw [getD_out (i := i + 1) (by omega), Nat.zero_mul, Nat.add_zero, Nat.mod_eq_of_lt (by omega)]
    refine zkk (kh11 (zS fun _ kr19 => ?_));(first | refine zi rfl rfl ?_ | refine zo rfl rfl ?_);refine zm rfl (zz (kr19 ?_));refine ⟨rfl, (i + 1, L.set i ((l.getD i 0 + l.getD (i + 1) 0 * 4294967296) / 2 ^ s % 4294967296)), ?_, ?_, ?_⟩
    · exact SLp
    · rw [hfin] at hb11;exact ⟨hAd.step hs hWl (by omega) rfl, hb11, hch⟩
    show l.length - (i + 1) < l.length - i; omega
  refine CW.exit ?_;refine kh5 (zc fun _ kh20 => zc fun _ kh21 => ?_);have hiX2 : i = l.length := by omega
  subst hiX2;have hvL := hAd.done hWl;have hlw := lower_words hWl hWL hLl hp hlast hs hvL;refine zR fun _ kr22 => ?_;refine zm rfl (zn rfl ?_)
  first | refine WL.ev (Ev.subIn rfl rfl (by omega)) rfl ?_ | refine WL.ev (Ev.sub rfl rfl) rfl ?_
  refine za rfl ?_;refine WL.nil (kr22 _ _ _ (kh21 ?_));refine Sr fun _ kh23 => zm rfl (zm rfl ?_);refine WL.ev (Ev.ixB ((l.length - 1)) rfl rfl (by omega) (by omega)) rfl ?_;refine WL.ev (Ev.load rfl rfl (hb11.u32 (by first | omega | (simp; omega)))) rfl ?_;have hw55 := hWL.getD ((l.length - 1));refine zq rfl rfl (zz (kh23 ?_));refine zy rfl ?_ ?_<;>intro hc4<;>try simp only [qs] at hc4
  · refine zR fun _ kr25 => ?_
    refine zm rfl (zm rfl (zm rfl ?_));refine WL.ev (Ev.slice3n ((l.length - 1)) ((l.length - 1)) rfl rfl rfl (by omega) (by omega) (by omega) (by omega)) rfl ?_;refine za rfl ?_;refine WL.nil (kr25 _ _ _ (kh20 ?_));refine Sr fun _ kh26 => zm rfl (za rfl (zz (kh26 ?_)));refine zr (zr1 rfl rfl ?_);rw [← hlw.2 (by omega)];exact ⟨NU.part hb11.row hWL (by omega) (by omega) (Nat.le_refl _), hch⟩
  refine zkk (kh20 (Sr fun _ kh28 => zm rfl (za rfl (zz (kh28 ?_)))));refine zr (zr1 rfl rfl ?_);rw [← hlw.1 (by omega)];exact ⟨NU.of_block hb11 hWL (by omega) (by omega) (Nat.le_refl _), hch⟩

structure DY (w : World) (u : Value) (d : Dy) : Prop where
  ex : ∃ r, u = .agg [.bool d.neg, r, .int .i64 d.e].toArray ∧ NU w r (wd d.m)
def DR (w : World) (u : Value) (x : Option Dy) : Prop := (∃ r d, x = some d ∧ u = .tuple [.agg [.bool d.neg, r, .int .i64 d.e].toArray, .int .i64 0].toArray ∧ NU w r (wd d.m)) ∨ (x = none ∧ u = .tuple [.agg [.bool false, .slice none 0 0, .int .i64 0].toArray, .int .i64 2].toArray)
theorem form_spec (neg : Bool) (v : Value) (l : List Nat) (e : Int) (w : World) (h : NU w v l) (hg : GW w) (he : -9223372036854775808 ≤ e ∧ e ≤ 9223372036854775807) : Ret Tryz.prog 173 [.bool neg, v, .int .i64 e] w fun u w' => DR w' u (formD neg (val l) e) ∧ Chg [] w w' := by
 obtain ⟨A, hA⟩ : ∃ A, A = wd (val l) := ⟨_, rfl⟩;have hvA : val A = val l := by rw [hA]; exact val_wd _
 have hch := crf w;refine zE3 Tryz.func173 rfl ?_;refine Sr fun _ kh1 => ?_;refine WL.allocB (l := [.bool false, .slice none 0 0, .int .i64 0]) rfl rfl fun b6 wm6 hb6 hcm6 hge6 => ?_;have hgehch6 := Nat.le_trans hch.size hge6;have hch := hch.trans hcm6;refine za rfl (zz (kh1 (Sr fun _ kh3 => zm rfl ?_)));refine WL.call hasF256 rfl rfl (Norm_spec _ _ _ (h.keep0 hch)) fun v w1 h' => ?_;obtain ⟨hN1, hC11⟩ := h';rw [← hA] at hN1;have hN1d := hN1;obtain ⟨⟨a1, c1, rfl, hcap1, hr1⟩, hW1, hl1⟩ := hN1d;have hch := hch.trans hC11;have hb6 := hb6.k0 hC11;refine za rfl (zz (kh3 (zc fun _ kh5 => Sr fun _ kh6 => zm rfl (zn rfl (zq rfl rfl (zz (kh6 ?_)))))));refine zy rfl ?_ ?_<;>intro hc1<;>try simp only [qs] at hc1
 ·refine Sr fun _ kh8 => ?_
  refine WL.ev (Ev.build (vs := _) (cs := [_, _, _]) rfl rfl) rfl ?_;refine zss rfl rfl ao hb6 rfl fun ws3 hb6_ hcs3 => ?_;(try simp only [Sx.splice, qt] at hb6_);have hch := hch.s2 hcs3;have hb6 := hb6_;refine za rfl (zz (kh8 ?_));refine zr (bodyA.retR2 rfl (RVal.cell rfl (hb6.varA rfl rfl)) (RVal.tmp rfl) ?_);have hv0 : val l = 0 := by rw [← hvA, List.length_eq_zero_iff.1 (show A.length = 0 by omega)]; rfl
  rw [hv0, formD_zero];exact ⟨.inl ⟨_, _, rfl, rfl, by rw [show Dy.zero.m = 0 from rfl, wd_zero]; exact NU.nil⟩, hch⟩
 have hn0 : val l ≠ 0 := fun e0 => by rw [e0, wd_zero] at hA; rw [hA] at hc1; exact hc1 rfl
 have hAl : A.getD (A.length - 1) 0 ≠ 0 := by rw [hA]; exact wd_last hn0
 obtain ⟨q, hq⟩ : ∃ q, q = tz (val l) := ⟨_, rfl⟩;have hqb := tz_lt_bl hn0;have hbA : bl (val l) ≤ 32 * A.length := by rw [bl_words, ← hA]; exact Nat.le_refl _
 rw [← hq] at hqb;refine zkk (kh5 (Sr fun _ kh10 => zm rfl ?_));refine WL.call hasF260 rfl rfl (Low_spec _ _ _ hN1 (hg.keep0 hch)) fun v w2 h' => ?_;obtain ⟨rfl, rfl⟩ := h';rw [hvA, ← hq];refine za rfl (zz (kh10 (Sr fun _ kh12 => zm rfl (zm rfl ?_))));refine WL.ev (Ev.quoU (b := 32) rfl rfl (by omega) (in_i64 (by omega)).2) rfl ?_;refine WL.ev (Ev.sliceLn ((q / 32)) rfl rfl (by omega) (by omega)) rfl ?_;refine zm rfl ?_;refine WL.ev (Ev.remU (b := 32) rfl rfl (by omega)) rfl ?_;refine WL.call hasF261 rfl rfl (lower_spec _ (A.drop (q / 32)) (q % 32) _ (NU.of_row (by rw [List.map_drop]; exact hr1.cut _ _ (by simp; omega) (by simpa using hcap1)) (hW1.drop _) (by simp; omega) (by simp) (by omega)) (by omega) (by simp; omega) (by rw [List.length_drop, List.getD_eq_getElem?_getD, List.getElem?_drop, ← List.getD_eq_getElem?_getD, show q / 32 + (A.length - q / 32 - 1) = A.length - 1 by omega]; exact hAl)) fun v w3 h' => ?_;obtain ⟨hN2, hC24⟩ := h';rw [val_drop hW1 _ (by omega), hvA, div_words] at hN2;obtain ⟨B, hB⟩ : ∃ B, B = wd (val l / 2 ^ q) := ⟨_, rfl⟩;rw [← hB] at hN2;have hN2d := hN2;obtain ⟨⟨a2, c2, rfl, hcap2, hr2⟩, hW2, hl2⟩ := hN2d;have hch := hch.trans hC24;have hb6 := hb6.k0 hC24;refine za rfl (zz (kh12 (zc fun _ kh14 => ?_)));refine CW.seqM 39 (decide ((1048576 - (q : Int) < e ∨ e < -1048576 - (q : Int)) ∨ 8192 < B.length)) ?_ ?_
 ·refine zS fun _ kr15 => zm rfl (zm rfl ?_);refine WL.ev (Ev.subIn rfl rfl (by omega)) rfl ?_;refine zG rfl rfl (zm rfl ?_);refine zb ?_ ?_<;>intro hg2<;>try simp only [qs] at hg2
  ·refine zv rfl (zv rfl (zv rfl (zv rfl (zt rfl rfl (zm rfl (zv rfl (zv rfl (zv rfl (zt rfl rfl (zz (kr15 ?_)))))))))));refine ⟨rfl, rfl, Subs.consB rfl ?_ ?_⟩
   ·first | (simp; omega) | (refine decide_eq_decide.2 ?_; omega)
   exact SMg
  refine zw rfl (zm rfl (zw rfl (zm rfl (zw rfl ?_))))
  first | refine WL.ev (Ev.subIn rfl rfl (by omega)) rfl ?_ | refine WL.ev (Ev.sub rfl rfl) rfl ?_
  refine zw rfl (zL rfl rfl (ze rfl rfl (zm rfl ?_)));refine zb ?_ ?_<;>intro hg3<;>try simp only [qs] at hg3
  ·refine zv rfl (zv rfl (zv rfl (zt rfl rfl (zz (kr15 ?_)))));refine ⟨rfl, rfl, Subs.consB rfl ?_ ?_⟩
   ·first | (simp; omega) | (refine decide_eq_decide.2 ?_; omega)
   exact SMg
  refine zw rfl (zm rfl (zw rfl (zn rfl (zw rfl (zG rfl rfl (ze rfl rfl (zz (kr15 ?_))))))));refine ⟨rfl, rfl, Subs.consB rfl ?_ ?_⟩
  ·first | (simp; omega) | (refine decide_eq_decide.2 ?_; omega)
  exact SMg
 refine zy rfl ?_ ?_<;>intro hc4<;>try simp only [qs] at hc4
 ·refine Sr fun _ kh16 => ?_
  refine WL.ev (Ev.build (vs := _) (cs := [_, _, _]) rfl rfl) rfl ?_;refine zss rfl rfl ao hb6 rfl fun ws4 hb6_ hcs4 => ?_;(try simp only [Sx.splice, qt] at hb6_);have hch := hch.s2 hcs4;have hb6 := hb6_;refine za rfl (zz (kh16 ?_));refine zr (bodyA.retR2 rfl (RVal.cell rfl (hb6.varA rfl rfl)) (RVal.tmp rfl) ?_);rw [formD_none hn0 (by rw [← hq, ← hB]; omega)];exact ⟨.inr ⟨rfl, rfl⟩, hch⟩
 refine zkk (kh14 (Sr fun _ kh18 => zm rfl (zm rfl (zm rfl (zm rfl ?_)))));(first | refine zi rfl rfl ?_ | refine zo rfl rfl ?_);refine WL.ev (Ev.build (vs := _) (cs := [_, _, _]) rfl rfl) rfl ?_;refine zss rfl rfl ao hb6 rfl fun ws5 hb6_ hcs5 => ?_;(try simp only [Sx.splice, qt] at hb6_);have hch := hch.s2 hcs5;have hN2 := hN2.keepBK hb6 hcs5 an;have hb6 := hb6_;refine za rfl (zz (kh18 ?_));refine zr (bodyA.retR2 rfl (RVal.cell rfl (hb6.varA rfl rfl)) (RVal.tmp rfl) ?_);rw [formD_some hn0 (by rw [← hq, ← hB]; omega), ← hq];refine ⟨.inl ⟨_, _, rfl, rfl, ?_⟩, hch⟩;simp only;rw [← hB];exact hN2

end

/- Package dyad: Make, Int, sums. No condition. -/
section
open Go Sx Wd

theorem Make_spec (na : Bool) (va : Value) (la : List Nat) (ea : Int) (w : World) (ha : NU w va la) (hg : GW w) (hea : -9223372036854775808 ≤ ea ∧ ea ≤ 9223372036854775807) : Ret Tryz.prog 128 [.bool na, va, .int .i64 ea] w fun u w' => DR w' u (formD na (val la) ea) ∧ Chg [] w w' := by
 have hch := crf w;refine zE3 Tryz.func128 rfl ?_;refine Sr fun _ kh1 => ?_;refine WL.allocB (l := [.bool false, .slice none 0 0, .int .i64 0]) rfl rfl fun b6 wm6 hb6 hcm6 hge6 => ?_;have hgehch6 := Nat.le_trans hch.size hge6;have hch := hch.trans hcm6;refine za rfl (zz (kh1 (Sr fun _ kh3 => zm rfl (zm rfl (zm rfl ?_)))));refine WL.call hasF173 rfl rfl (form_spec na va la ea _ (ha.keep0 hch) (hg.keep0 hch) hea) fun v w1 h' => ?_;obtain ⟨hD, hC11⟩ := h';have hch := hch.trans hC11;have hb6 := hb6.k0 hC11;rcases hD with ⟨r, d, hd, rfl, hNr⟩ | ⟨hd, rfl⟩
 ·refine zx rfl rfl (zx rfl rfl ?_);refine zss rfl rfl ao hb6 rfl fun ws6 hb6_ hcs6 => ?_;(try simp only [Sx.splice, qt] at hb6_);have hch := hch.s2 hcs6;have hNr := hNr.keepBK hb6 hcs6 an;have hb6 := hb6_;refine za rfl (zz (kh3 ?_));refine zr (bodyA.retR2 rfl (RVal.cell rfl (hb6.varA rfl rfl)) (RVal.tmp rfl) ?_);exact ⟨.inl ⟨r, d, hd, rfl, hNr⟩, hch⟩
 refine zx rfl rfl (zx rfl rfl ?_);refine zss rfl rfl ao hb6 rfl fun ws7 hb6_ hcs7 => ?_;(try simp only [Sx.splice, qt] at hb6_);have hch := hch.s2 hcs7;have hb6 := hb6_;refine za rfl (zz (kh3 ?_));refine zr (bodyA.retR2 rfl (RVal.cell rfl (hb6.varA rfl rfl)) (RVal.tmp rfl) ?_);exact ⟨.inr ⟨hd, rfl⟩, hch⟩

theorem formD_int {n : Nat} {neg : Bool} (h : n < 18446744073709551616) : ∃ d, formD neg n 0 = some d := by
  by_cases h0 : n = 0
  · exact ⟨_, by rw [h0]; exact formD_zero _ _⟩
  · have h1 := tz_lt_bl h0
    have h2 := bl_le (n := n) (k := 64)
    have h3 : n / 2 ^ tz n ≤ n := Nat.div_le_self _ _
    have h4 := wd_length_le (n := n / 2 ^ tz n) (k := 2)
    have h5 : (wd (n / 2 ^ tz n)).length ≤ 2 := h4.2 (Nat.lt_of_le_of_lt h3 h)
    have h6 : bl n ≤ 64 := h2.2 h
    exact ⟨_, formD_some h0 (by omega)⟩
def intD (n : Int) : Dy := ((formD (decide (n < 0)) n.natAbs 0).getD Dy.zero)
theorem intD_eq {n : Int} (h : n.natAbs < 18446744073709551616) : formD (decide (n < 0)) n.natAbs 0 = some (intD n) := by
  obtain ⟨d, hd⟩ := formD_int (neg := decide (n < 0)) h
  unfold intD; rw [hd]; rfl

theorem Int_spec (n : Int) (w : World) (hg : GW w) (hn : -9223372036854775808 ≤ n ∧ n ≤ 9223372036854775807) : Ret Tryz.prog 179 [.int .i64 n] w fun u w' => DY w' u (intD n) ∧ Chg [] w w' := by
 have hch := crf w;refine zE1 Tryz.func179 rfl ?_;refine Sr fun _ kh1 => ?_;refine WL.allocB (l := [.bool false, .slice none 0 0, .int .i64 0]) rfl rfl fun b2 wm2 hb2 hcm2 hge2 => ?_;have hgehch2 := Nat.le_trans hch.size hge2;have hch := hch.trans hcm2;refine zz (kh1 (Sr fun _ kh3 => zm rfl ?_));refine WL.ev (Ev.conv rfl rfl) rfl ?_;rw [wrap_u64i];refine za rfl (zz (kh3 (zc fun _ kh5 => Sr fun _ kh6 => zm rfl (zL rfl rfl (zz (kh6 ?_))))));refine zy rfl ?_ ?_<;>intro hc1<;>try simp only [qs] at hc1
 ·refine zR fun _ kr8 => ?_
  refine zm rfl ?_;refine WL.ev (Ev.neg rfl) rfl ?_;rw [wrap_u64i, show (0 - n % 18446744073709551616) % 18446744073709551616 = ((n.natAbs : Nat) : Int) by omega];have hab : n.natAbs = n.natAbs := rfl;refine za rfl ?_;refine WL.nil (kr8 _ _ _ (kh5 ?_));refine Sr fun _ kh9 => zm rfl (zL rfl rfl (zm rfl ?_));refine WL.call hasF213 rfl rfl (Of_spec n.natAbs _ (by omega)) fun v w1 h' => ?_;obtain ⟨hN16, hC16⟩ := h';have hch := hch.trans hC16;have hb2 := hb2.k0 hC16;refine WL.call hasF173 rfl rfl (form_spec _ _ _ 0 _ hN16 (hg.keep0 hch) (by omega)) fun v w2 h' => ?_;obtain ⟨hD, hC17⟩ := h';rw [val_wd, hab, intD_eq (by omega)] at hD;rcases hD with ⟨r, d, hd, rfl, hNr⟩ | ⟨hd, rfl⟩
  rotate_left
  · cases hd
  cases hd;have hch := hch.trans hC17;have hb2 := hb2.k0 hC17;refine zm rfl (zx rfl rfl (zx rfl rfl ?_));refine WL.allocB (l := [.bool false, .slice none 0 0, .int .i64 0]) rfl rfl fun b4 wm4 hb4 hcm4 hge4 => ?_;have hgehch4 := Nat.le_trans hch.size hge4;have hch := hch.trans hcm4;have hNr := hNr.keep0 hcm4;have hneb24 := zdd hb2.lt hge4;have hb2 := hb2.k0 hcm4;refine zss rfl rfl ao hb4 rfl fun ws8 hb4_ hcs8 => ?_;(try simp only [Sx.splice, qt] at hb4_);have hch := hch.s2 hcs8;have hb2 := hb2.kq hcs8;have hNr := hNr.keepBK hb4 hcs8 an;have hb4 := hb4_;refine za rfl (zz (kh9 (Sr fun _ kh11 => zg hb4 rfl ?_)));refine zss rfl rfl ao hb2 rfl fun ws9 hb2_ hcs9 => ?_;(try simp only [Sx.splice, qt] at hb2_);have hch := hch.s2 hcs9;have hNr := hNr.keepBK hb2 hcs9 an;have hb2 := hb2_;refine zz (kh11 ?_);refine zr (bodyA.retR1 rfl (RVal.cell rfl (hb2.varA rfl rfl)) ?_);exact ⟨⟨⟨_, rfl, hNr⟩⟩, hch⟩
 rw [show n % 18446744073709551616 = ((n.natAbs : Nat) : Int) by omega];have hab : n.natAbs = n.natAbs := rfl;refine zkk (kh5 (Sr fun _ kh13 => zm rfl (zL rfl rfl (zm rfl ?_))));refine WL.call hasF213 rfl rfl (Of_spec n.natAbs _ (by omega)) fun v w3 h' => ?_;obtain ⟨hN16, hC16⟩ := h';have hch := hch.trans hC16;have hb2 := hb2.k0 hC16;refine WL.call hasF173 rfl rfl (form_spec _ _ _ 0 _ hN16 (hg.keep0 hch) (by omega)) fun v w4 h' => ?_;obtain ⟨hD, hC17⟩ := h';rw [val_wd, hab, intD_eq (by omega)] at hD;rcases hD with ⟨r, d, hd, rfl, hNr⟩ | ⟨hd, rfl⟩
 rotate_left
 · cases hd
 cases hd;have hch := hch.trans hC17;have hb2 := hb2.k0 hC17;refine zm rfl (zx rfl rfl (zx rfl rfl ?_));refine WL.allocB (l := [.bool false, .slice none 0 0, .int .i64 0]) rfl rfl fun b4 wm4 hb4 hcm4 hge4 => ?_;have hgehch4 := Nat.le_trans hch.size hge4;have hch := hch.trans hcm4;have hNr := hNr.keep0 hcm4;have hneb24 := zdd hb2.lt hge4;have hb2 := hb2.k0 hcm4;refine zss rfl rfl ao hb4 rfl fun ws10 hb4_ hcs10 => ?_;(try simp only [Sx.splice, qt] at hb4_);have hch := hch.s2 hcs10;have hb2 := hb2.kq hcs10;have hNr := hNr.keepBK hb4 hcs10 an;have hb4 := hb4_;refine za rfl (zz (kh13 (Sr fun _ kh15 => zg hb4 rfl ?_)));refine zss rfl rfl ao hb2 rfl fun ws11 hb2_ hcs11 => ?_;(try simp only [Sx.splice, qt] at hb2_);have hch := hch.s2 hcs11;have hNr := hNr.keepBK hb2 hcs11 an;have hb2 := hb2_;refine zz (kh15 ?_);refine zr (bodyA.retR1 rfl (RVal.cell rfl (hb2.varA rfl rfl)) ?_);exact ⟨⟨⟨_, rfl, hNr⟩⟩, hch⟩

end

/- Package dyad: sums, products. No condition. -/
section
open Go Sx Wd

def BR (w : World) (u : Value) (a b : Option Dy) : Prop :=
  (∃ x y rx ry, a = some x ∧ b = some y ∧ u = .tuple [.agg [.bool x.neg, rx, .int .i64 x.e].toArray, .agg [.bool y.neg, ry, .int .i64 y.e].toArray, .int .i64 0].toArray ∧ NU w rx (wd x.m) ∧ NU w ry (wd y.m)) ∨
  ((a = none ∨ b = none) ∧ ∃ n1 v1 e1 n2 v2 e2, u = .tuple [.agg [.bool n1, v1, .int .i64 e1].toArray, .agg [.bool n2, v2, .int .i64 e2].toArray, .int .i64 2].toArray ∧ v1.oneCell' = true ∧ v2.oneCell' = true)

theorem dboth_spec (na nb : Bool) (va vb : Value) (la lb : List Nat) (ea eb : Int) (w : World) (ha : NU w va la) (hb : NU w vb lb) (hg : GW w) (hea : -9223372036854775808 ≤ ea ∧ ea ≤ 9223372036854775807) (heb : -9223372036854775808 ≤ eb ∧ eb ≤ 9223372036854775807) : Ret Tryz.prog 171 [.agg [.bool na, va, .int .i64 ea].toArray, .agg [.bool nb, vb, .int .i64 eb].toArray] w fun u w' => BR w' u (formD na (val la) ea) (formD nb (val lb) eb) ∧ Chg [] w w' := by
 have hch := crf w;have hoa := ha.one;have hob := hb.one;refine zE2 Tryz.func171 rfl ?_;refine Sr fun _ kh1 => ?_;refine WL.boxB rfl rfl rfl fun b2 wm2 hb2 hcm2 hge2 => ?_;have hgehch2 := Nat.le_trans hch.size hge2;have hch := hch.trans hcm2;have ha := ha.keep0 hcm2;have hb := hb.keep0 hcm2;refine WL.boxB rfl rfl rfl fun b3 wm3 hb3 hcm3 hge3 => ?_;have hgehch3 := Nat.le_trans hch.size hge3;have hch := hch.trans hcm3;have ha := ha.keep0 hcm3;have hb := hb.keep0 hcm3;have hneb23 := zdd hb2.lt hge3;have hb2 := hb2.k0 hcm3;refine WL.allocB (l := [.bool false, .slice none 0 0, .int .i64 0]) rfl rfl fun b4 wm4 hb4 hcm4 hge4 => ?_;have hgehch4 := Nat.le_trans hch.size hge4;have hch := hch.trans hcm4;have ha := ha.keep0 hcm4;have hb := hb.keep0 hcm4;have hneb24 := zdd hb2.lt hge4;have hb2 := hb2.k0 hcm4;have hneb34 := zdd hb3.lt hge4;have hb3 := hb3.k0 hcm4;refine WL.allocB (l := [.bool false, .slice none 0 0, .int .i64 0]) rfl rfl fun b5 wm5 hb5 hcm5 hge5 => ?_;have hgehch5 := Nat.le_trans hch.size hge5;have hch := hch.trans hcm5;have ha := ha.keep0 hcm5;have hb := hb.keep0 hcm5;have hneb25 := zdd hb2.lt hge5;have hb2 := hb2.k0 hcm5;have hneb35 := zdd hb3.lt hge5;have hb3 := hb3.k0 hcm5;have hneb45 := zdd hb4.lt hge5;have hb4 := hb4.k0 hcm5;refine za rfl (zz (kh1 (Sr fun _ kh3 => zf rfl (zl hb2 rfl rfl (zf rfl (zl hb2 rfl rfl (zf rfl (zl hb2 rfl rfl ?_))))))));refine WL.call hasF173 rfl rfl (form_spec na va la ea _ ha (hg.keep0 hch) hea) fun v w1 h' => ?_;obtain ⟨hD1, hC1⟩ := h';have hch := hch.trans hC1;have hb3 := hb3.k0 hC1;have hb4 := hb4.k0 hC1;have hb5 := hb5.k0 hC1;have hb := hb.keep0 hC1;rcases hD1 with ⟨r1, d1, hd1, rfl, hNr1⟩ | ⟨hd1, rfl⟩
 ·refine zm rfl (zx rfl rfl (zx rfl rfl ?_));refine zss rfl rfl ao hb4 rfl fun ws12 hb4_ hcs12 => ?_;(try simp only [Sx.splice, qt] at hb4_);have hch := hch.s2 hcs12;have hb3 := hb3.kq hcs12;have hb5 := hb5.kq hcs12;have hb := hb.keepBK hb4 hcs12 an;have hNr1 := hNr1.keepBK hb4 hcs12 an;have hb4 := hb4_;refine za rfl (zz (kh3 (zc fun _ kh5 => Sr fun _ kh6 => zm rfl (zq rfl rfl (zz (kh6 ?_))))));refine CW.condT rfl ?_;refine zR fun _ kr8 => ?_;refine zf rfl (zl hb3 rfl rfl (zf rfl (zl hb3 rfl rfl (zf rfl (zl hb3 rfl rfl ?_)))));refine WL.call hasF173 rfl rfl (form_spec nb vb lb eb _ hb (hg.keep0 hch) heb) fun v w2 h' => ?_;obtain ⟨hD2, hC2⟩ := h';have hch := hch.trans hC2;have hb4 := hb4.k0 hC2;have hb5 := hb5.k0 hC2;have hNr1 := hNr1.keep0 hC2;rcases hD2 with ⟨r2, d2, hd2, rfl, hNr2⟩ | ⟨hd2, rfl⟩
  ·refine zm rfl (zx rfl rfl (zx rfl rfl ?_));refine zss rfl rfl ao hb5 rfl fun ws13 hb5_ hcs13 => ?_;(try simp only [Sx.splice, qt] at hb5_);have hch := hch.s2 hcs13;have hb4 := hb4.kq hcs13;have hNr1 := hNr1.keepBK hb5 hcs13 an;have hNr2 := hNr2.keepBK hb5 hcs13 an;have hb5 := hb5_;refine za rfl ?_;refine WL.nil (kr8 _ _ _ (kh5 ?_));refine zc fun _ kh9 => ?_;refine CW.regionS2 6 hb4 hb5 rfl hmix fun kR10 kr10 hS hdr => ?_;have hch := hch.trans hdr;have hb4 := hb4.k0 hdr;have hb5 := hb5.k0 hdr;have hNr1 := hNr1.keep0 hdr;have hNr2 := hNr2.keep0 hdr;refine wh 0 rfl hS (fun _ hw' => Ev.loadA rfl rfl hw'.1 rfl) (wh 1 rfl hS (fun _ hw' => Ev.loadA rfl rfl hw'.2 rfl) (wh 2 rfl hS (eM rfl) ?_));refine WH.same1 3 rfl (by kernel_rfl) rfl rfl rfl ao (by omega) hS fun ws14 hS hcs14 => ?_;have hch := hch.s2 hcs14;have hNr1 := hNr1.keepBK hb4 hcs14 an;have hNr2 := hNr2.keepBK hb4 hcs14 an;have hb4 := hS.1;have hb5 := hS.2;refine WH.same2 4 rfl (by kernel_rfl) rfl rfl rfl ao (by omega) hS fun ws15 hS hcs15 => ?_;have hch := hch.s2 hcs15;have hNr1 := hNr1.keepBK hb5 hcs15 an;have hNr2 := hNr2.keepBK hb5 hcs15 an;have hb4 := hS.1;have hb5 := hS.2;refine wh 5 rfl hS (eA rfl) ?_;refine WH.done (by kernel_rfl) (kr10 _ _ _ ?_);refine kh9 ?_;refine zr (bodyA.retR3 rfl (RVal.cell rfl (hb4.varA rfl rfl)) (RVal.cell rfl (hb5.varA rfl rfl)) (RVal.tmp rfl) ?_);exact ⟨.inl ⟨d1, d2, r1, r2, hd1, hd2, rfl, hNr1, hNr2⟩, hch⟩
  refine zm rfl (zx rfl rfl (zx rfl rfl ?_));refine zss rfl rfl ao hb5 rfl fun ws16 hb5_ hcs16 => ?_;(try simp only [Sx.splice, qt] at hb5_);have hch := hch.s2 hcs16;have hb4 := hb4.kq hcs16;have hNr1 := hNr1.keepBK hb5 hcs16 an;have hb5 := hb5_;refine za rfl ?_;refine WL.nil (kr8 _ _ _ (kh5 ?_));refine zc fun _ kh11 => ?_;refine CW.regionS2 6 hb4 hb5 rfl hmix fun kR12 kr12 hS hdr => ?_;have hch := hch.trans hdr;have hb4 := hb4.k0 hdr;have hb5 := hb5.k0 hdr;have hNr1 := hNr1.keep0 hdr;refine wh 0 rfl hS (fun _ hw' => Ev.loadA rfl rfl hw'.1 rfl) (wh 1 rfl hS (fun _ hw' => Ev.loadA rfl rfl hw'.2 rfl) (wh 2 rfl hS (eM rfl) ?_));refine WH.same1 3 rfl (by kernel_rfl) rfl rfl rfl ao (by omega) hS fun ws17 hS hcs17 => ?_;have hch := hch.s2 hcs17;have hNr1 := hNr1.keepBK hb4 hcs17 an;have hb4 := hS.1;have hb5 := hS.2;refine WH.same2 4 rfl (by kernel_rfl) rfl rfl rfl ao (by omega) hS fun ws18 hS hcs18 => ?_;have hch := hch.s2 hcs18;have hNr1 := hNr1.keepBK hb5 hcs18 an;have hb4 := hS.1;have hb5 := hS.2;refine wh 5 rfl hS (eA rfl) ?_;refine WH.done (by kernel_rfl) (kr12 _ _ _ ?_);refine kh11 ?_;refine zr (bodyA.retR3 rfl (RVal.cell rfl (hb4.varA rfl rfl)) (RVal.cell rfl (hb5.varA rfl rfl)) (RVal.tmp rfl) ?_);exact ⟨.inr ⟨.inr hd2, _, _, _, _, _, _, rfl, hNr1.one, rfl⟩, hch⟩
 refine zm rfl (zx rfl rfl (zx rfl rfl ?_));refine zss rfl rfl ao hb4 rfl fun ws19 hb4_ hcs19 => ?_;(try simp only [Sx.splice, qt] at hb4_);have hch := hch.s2 hcs19;have hb5 := hb5.kq hcs19;have hb4 := hb4_;refine za rfl (zz (kh3 (zc fun _ kh13 => Sr fun _ kh14 => zm rfl (zq rfl rfl (zz (kh14 ?_))))));refine CW.condF rfl ?_;refine zkk (kh13 (zc fun _ kh16 => ?_));refine CW.regionS2 6 hb4 hb5 rfl hmix fun kR17 kr17 hS hdr => ?_;have hch := hch.trans hdr;have hb4 := hb4.k0 hdr;have hb5 := hb5.k0 hdr;refine wh 0 rfl hS (fun _ hw' => Ev.loadA rfl rfl hw'.1 rfl) (wh 1 rfl hS (fun _ hw' => Ev.loadA rfl rfl hw'.2 rfl) (wh 2 rfl hS (eM rfl) ?_));refine WH.same1 3 rfl (by kernel_rfl) rfl rfl rfl ao (by omega) hS fun ws20 hS hcs20 => ?_;have hch := hch.s2 hcs20;have hb4 := hS.1;have hb5 := hS.2;refine WH.same2 4 rfl (by kernel_rfl) rfl rfl rfl ao (by omega) hS fun ws21 hS hcs21 => ?_;have hch := hch.s2 hcs21;have hb4 := hS.1;have hb5 := hS.2;refine wh 5 rfl hS (eA rfl) ?_;refine WH.done (by kernel_rfl) (kr17 _ _ _ ?_);refine kh16 ?_;refine zr (bodyA.retR3 rfl (RVal.cell rfl (hb4.varA rfl rfl)) (RVal.cell rfl (hb5.varA rfl rfl)) (RVal.tmp rfl) ?_);exact ⟨.inr ⟨.inl hd1, _, _, _, _, _, _, rfl, rfl, rfl⟩, hch⟩

structure KA2 (X Y : List Nat) (w : World) (b : Nat) (g : Nat × List Nat × Nat) (wr : World) : Prop where
  a : AddI X Y g.1 g.2.1 g.2.2
  ob : OB wr b 209 g.2.1
  chg : Chg [] w wr

theorem dsum_spec (va vb : Value) (la lb : List Nat) (w : World) (ha : NU w va la) (hb : NU w vb lb) (hla : la.length < 70368744177664) (hlb : lb.length < 70368744177664) : Ret Tryz.prog 174 [va, vb] w fun u w' => ∃ L, NU w' u L ∧ val L = val la + val lb ∧ Chg [] w w' := by
 obtain ⟨⟨a1, c1, rfl, hcap1, hr1⟩, hW1, hl1⟩ := ha;obtain ⟨⟨a2, c2, rfl, hcap2, hr2⟩, hW2, hl2⟩ := hb;have hch := crf w;refine zE2 Tryz.func174 rfl ?_;refine Sr fun _ kh1 => za rfl (zz (kh1 ?_));refine CW.seqJ (fun D s' w' => D = [] ∧ w = w' ∧ ∃ xa ca xb cb X Y, RW w xa (X.map u32v) ∧ W X ∧ RW w xb (Y.map u32v) ∧ W Y ∧ Y.length ≤ X.length ∧ X.length < 70368744177664 ∧ val X + val Y = val la + val lb ∧ Subs [(0, .slice xa X.length ca), (1, .slice xb Y.length cb)] s') ?_ ?_
 ·refine Sr fun _ kh4 => zm rfl (zn rfl (zm rfl (zn rfl (zL rfl rfl (zz (kh4 ?_))))));refine zy rfl ?_ ?_<;>intro hc1<;>try simp only [qs] at hc1
  ·refine zS fun _ kr6 => zm rfl (zm rfl (za rfl (za rfl (zz (kr6 ?_)))));exact ⟨rfl, rfl, a2, c2, a1, c1, lb, la, hr2, hW2, hr1, hW1, by omega, by omega, by omega, (by repeat (first | exact Subs.nil | refine Subs.cons rfl ?_))⟩
  refine zkk ?_;exact ⟨rfl, rfl, a1, c1, a2, c2, la, lb, hr1, hW1, hr2, hW2, by omega, by omega, rfl, (by repeat (first | exact Subs.nil | refine Subs.cons rfl ?_))⟩
 rintro _ s' _ ⟨rfl, rfl, xa, ca, xb, cb, X, Y, hrX, hWX, hrY, hWY, hYX, hXl, hXY, hsub⟩;refine CW.sub hsub ?_;refine Sr fun _ kh7 => zm rfl (zn rfl ?_);(first | refine zi rfl rfl ?_ | refine zo rfl rfl ?_);refine WL.makeU (((X).length + 1)) (((X).length + 1)) rfl rfl (by omega) (by omega) (by omega) (by omega) (by omega) rfl fun b19 wm19 hb19 hcm19 hge19 => ?_;have hgehch19 := Nat.le_trans hch.size hge19;have hch := hch.trans hcm19;refine za rfl (zz (kh7 (Sr fun _ kh9 => za rfl (zz (kh9 (zc fun _ kh11 => Sr fun _ kh12 => zm rfl (zn rfl (zm rfl (zz (kh12 (CW.block ?_)))))))))));refine CW.loop (S := fun g : Nat × List Nat × Nat => [(0, .slice xa X.length ca), (1, .slice xb Y.length cb), (5, .slice (some ⟨b19, 0, none⟩) (X.length + 1) (X.length + 1)), (6, .int .u32 (g.2.2 : Int)), (21, .int .i64 (X.length : Int)), (22, .int .i64 (g.1 : Int))]) (Inv := KA2 X Y w b19) (mu := fun g => X.length - g.1) ((0, List.replicate (X.length + 1) 0, 0)) ?_ ?_ ?_
 ·exact ⟨AddI.zero (by simp) (W_replicate _), hb19, hch⟩
 ·exact SLp
 rintro ⟨i, L, c⟩ wr ⟨hAd, hb19, hch⟩;dsimp only at hAd hb19 hch;have hiX := hAd.le;have hLl := hAd.len;have hcc := hAd.c1;refine Sr fun _ kh14 => zL rfl rfl (zz (kh14 (zc fun _ kh16 => ?_)));refine zy rfl ?_ ?_<;>intro hc2<;>try simp only [qs] at hc2
 ·refine zkk (kh16 (zc fun _ kh17 => CW.block (Sr fun _ kh18 => zm rfl (za rfl (zz (kh18 (Sr fun _ kh20 => za rfl (zz (kh20 (zc fun _ kh22 => Sr fun _ kh23 => zm rfl (zm rfl (zn rfl (zL rfl rfl (zz (kh23 ?_)))))))))))))));refine zy rfl ?_ ?_<;>intro hc3<;>try simp only [qs] at hc3
  ·refine zR fun _ kr25 => ?_
   refine zm rfl (zm rfl ?_);refine WL.ev (Ev.ixR (i) rfl rfl (hrY.keep0 hch) (by omega) (by omega) (by simp; omega)) rfl ?_;refine WL.ev (Ev.load rfl rfl ((hrY.keep0 hch).u32 (by first | omega | (simp; omega)))) rfl ?_;have hw32 := hWY.getD (i);refine za rfl ?_;refine WL.nil (kr25 _ _ _ (kh22 ?_));refine zR fun _ kr26 => ?_;refine zm rfl (zm rfl (zm rfl (zm rfl ?_)));refine WL.ev (Ev.ixR (i) rfl rfl (hrX.keep0 hch) (by omega) (by omega) (by simp; omega)) rfl ?_;refine WL.ev (Ev.load rfl rfl ((hrX.keep0 hch).u32 (by first | omega | (simp; omega)))) rfl ?_;have hw39 := hWX.getD (i);refine zm rfl (zm rfl ?_);refine WL.call hasF262 rfl rfl (Add32_spec (X.getD i 0) (Y.getD i 0) c _ (hWX.getD i) (hWY.getD i) (by omega)) fun v w1 h' => ?_;obtain ⟨rfl, rfl⟩ := h';refine zm rfl (zx rfl rfl (zx rfl rfl ?_));refine WL.ev (Ev.ixB (i) rfl rfl (by omega) (by omega)) rfl ?_;refine WL.storeU rfl rfl hb19 (by first | omega | (simp; omega)) fun ws22 hb19_ hcs22 => ?_;have hch := hch.s2 hcs22;have hb19 := hb19_;refine za rfl ?_;refine WL.nil (kr26 _ _ _ (kh17 ?_));refine zS fun _ kr27 => ?_;(first | refine zi rfl rfl ?_ | refine zo rfl rfl ?_);refine zm rfl (zz (kr27 ?_));refine ⟨rfl, (i + 1, L.set i ((X.getD i 0 + Y.getD i 0 + c) % 4294967296), (X.getD i 0 + Y.getD i 0 + c) / 4294967296), ?_, ?_, ?_⟩
   ·exact SLp
   ·exact ⟨hAd.step hWX hWY (by omega), hb19, hch⟩
   show X.length - (i + 1) < X.length - i; omega
  have e0 : Value.int IntKind.u32 0 = Value.int IntKind.u32 ((Y.getD i 0 : Nat) : Int) := by rw [getD_out (by omega)]; rfl
  rw [e0];refine zkk (kh22 ?_);refine zR fun _ kr28 => ?_;refine zm rfl (zm rfl (zm rfl (zm rfl ?_)));refine WL.ev (Ev.ixR (i) rfl rfl (hrX.keep0 hch) (by omega) (by omega) (by simp; omega)) rfl ?_;refine WL.ev (Ev.load rfl rfl ((hrX.keep0 hch).u32 (by first | omega | (simp; omega)))) rfl ?_;have hw39 := hWX.getD (i);refine zm rfl (zm rfl ?_);refine WL.call hasF262 rfl rfl (Add32_spec (X.getD i 0) (Y.getD i 0) c _ (hWX.getD i) (hWY.getD i) (by omega)) fun v w2 h' => ?_;obtain ⟨rfl, rfl⟩ := h';refine zm rfl (zx rfl rfl (zx rfl rfl ?_));refine WL.ev (Ev.ixB (i) rfl rfl (by omega) (by omega)) rfl ?_;refine WL.storeU rfl rfl hb19 (by first | omega | (simp; omega)) fun ws23 hb19_ hcs23 => ?_;have hch := hch.s2 hcs23;have hb19 := hb19_;refine za rfl ?_;refine WL.nil (kr28 _ _ _ (kh17 ?_));refine zS fun _ kr29 => ?_;(first | refine zi rfl rfl ?_ | refine zo rfl rfl ?_);refine zm rfl (zz (kr29 ?_));refine ⟨rfl, (i + 1, L.set i ((X.getD i 0 + Y.getD i 0 + c) % 4294967296), (X.getD i 0 + Y.getD i 0 + c) / 4294967296), ?_, ?_, ?_⟩
  ·exact SLp
  ·exact ⟨hAd.step hWX hWY (by omega), hb19, hch⟩
  show X.length - (i + 1) < X.length - i; omega
 refine CW.exit ?_;refine kh11 (zc fun _ kh30 => ?_);have hiX2 : i = X.length := by omega
 subst hiX2;obtain ⟨hv9, hW9, hl9⟩ := hAd.done hYX;rw [hXY] at hv9;refine zR fun _ kr31 => ?_;refine zm rfl (zm rfl (zn rfl (zm rfl ?_)));refine WL.ev (Ev.ixB (X.length) rfl rfl (by omega) (by omega)) rfl ?_;refine WL.storeU rfl rfl hb19 (by first | omega | (simp; omega)) fun ws24 hb19_ hcs24 => ?_;have hch := hch.s2 hcs24;have hb19 := hb19_;refine WL.nil (kr31 _ _ _ (kh30 ?_));refine Sr fun _ kh32 => zm rfl (za rfl (zz (kh32 ?_)));refine zr (zr1 rfl rfl ?_);exact ⟨_, NU.of_block hb19 hW9 (by rw [hl9]; omega) (by rw [hl9]) (Nat.le_refl _), hv9, hch⟩

end

/- Package dyad: Add, Sub, Mul, Neg, Sign. No condition. -/
section
open Go Sx Wd

theorem shift_fits {m k : Nat} (h0 : m ≠ 0) : (m = 0 ∨ (k : Int) ≤ 262144 - (bl m : Int)) ↔ (wd (m * 2 ^ k)).length ≤ 8192 := by
  have h := bl_words (n := m * 2 ^ k) (k := 8192)
  rw [bl_mul_pow h0] at h
  omega
theorem addD_eq {x y : Dy} {p q : Nat} (h1 : x.m ≠ 0) (h2 : y.m ≠ 0) (hp : p = x.m * 2 ^ (x.e - min x.e y.e).toNat) (hq : q = y.m * 2 ^ (y.e - min x.e y.e).toNat) :
    addD x y = if 8192 < (wd p).length ∨ 8192 < (wd q).length then none else if x.neg = y.neg then formD x.neg (p + q) (min x.e y.e) else if p < q then formD y.neg (q - p) (min x.e y.e) else formD x.neg (p - q) (min x.e y.e) := by
  subst hp; subst hq
  unfold addD
  rw [if_neg h1, if_neg h2]

theorem Add_dspec (na nb : Bool) (va vb : Value) (la lb : List Nat) (ea eb : Int) (w : World) (ha : NU w va la) (hb : NU w vb lb) (hg : GW w) (hea : -9223372036854775808 ≤ ea ∧ ea ≤ 9223372036854775807) (heb : -9223372036854775808 ≤ eb ∧ eb ≤ 9223372036854775807) : Ret Tryz.prog 83 [.agg [.bool na, va, .int .i64 ea].toArray, .agg [.bool nb, vb, .int .i64 eb].toArray] w fun u w' => DR w' u (both2 addD (formD na (val la) ea) (formD nb (val lb) eb)) ∧ Chg [] w w' := by
 have hch := crf w;have hoa := ha.one;have hob := hb.one;refine zE2 Tryz.func83 rfl ?_;refine Sr fun _ kh1 => ?_;refine WL.boxB rfl rfl rfl fun b2 wm2 hb2 hcm2 hge2 => ?_;have hgehch2 := Nat.le_trans hch.size hge2;have hch := hch.trans hcm2;have ha := ha.keep0 hcm2;have hb := hb.keep0 hcm2;refine WL.boxB rfl rfl rfl fun b3 wm3 hb3 hcm3 hge3 => ?_;have hgehch3 := Nat.le_trans hch.size hge3;have hch := hch.trans hcm3;have ha := ha.keep0 hcm3;have hb := hb.keep0 hcm3;have hneb23 := zdd hb2.lt hge3;have hb2 := hb2.k0 hcm3;refine WL.allocB (l := [.bool false, .slice none 0 0, .int .i64 0]) rfl rfl fun b4 wm4 hb4 hcm4 hge4 => ?_;have hgehch4 := Nat.le_trans hch.size hge4;have hch := hch.trans hcm4;have ha := ha.keep0 hcm4;have hb := hb.keep0 hcm4;have hneb24 := zdd hb2.lt hge4;have hb2 := hb2.k0 hcm4;have hneb34 := zdd hb3.lt hge4;have hb3 := hb3.k0 hcm4;refine za rfl (zz (kh1 (Sr fun _ kh3 => zg hb2 rfl (zg hb3 rfl ?_))));refine WL.call hasF171 rfl rfl (dboth_spec na nb va vb la lb ea eb _ ha hb (hg.keep0 hch) hea heb) fun v w1 h' => ?_;obtain ⟨hB, hC1⟩ := h';have hch := hch.trans hC1;have hb4 := hb4.k0 hC1;rcases hB with ⟨d1, d2, r1, r2, hd1, hd2, rfl, hNr1, hNr2⟩ | ⟨hno, n1, v1, e1, n2, v2, e2, rfl, hv1, hv2⟩
 ·have hok1 := formD_ok hd1;have hok2 := formD_ok hd2;have he1 := hok1.e;have he2 := hok2.e;have hl1 := hok1.len;have hl2 := hok2.len;obtain ⟨⟨a1, c1, rfl, hcap1, hr1⟩, hW1, hl1⟩ := hNr1;have hNr1 : NU _ (.slice a1 (wd d1.m).length c1) (wd d1.m) := NU.of_row hr1 hW1 hl1 rfl hcap1;obtain ⟨⟨a2, c2, rfl, hcap2, hr2⟩, hW2, hl2⟩ := hNr2;have hNr2 : NU _ (.slice a2 (wd d2.m).length c2) (wd d2.m) := NU.of_row hr2 hW2 hl2 rfl hcap2;have hw1 : (wd d1.m).length = 0 ↔ d1.m = 0 := by rw [List.length_eq_zero_iff, wd_eq_nil]
  have hw2 : (wd d2.m).length = 0 ↔ d2.m = 0 := by rw [List.length_eq_zero_iff, wd_eq_nil]
  refine zm rfl (zx rfl rfl (zx rfl rfl (zx rfl rfl ?_)));refine WL.allocB (l := [.bool false, .slice none 0 0, .int .i64 0]) rfl rfl fun b6 wm6 hb6 hcm6 hge6 => ?_;have hgehch6 := Nat.le_trans hch.size hge6;have hch := hch.trans hcm6;have hNr1 := hNr1.keep0 hcm6;have hNr2 := hNr2.keep0 hcm6;have hneb46 := zdd hb4.lt hge6;have hb4 := hb4.k0 hcm6;refine WL.allocB (l := [.bool false, .slice none 0 0, .int .i64 0]) rfl rfl fun b7 wm7 hb7 hcm7 hge7 => ?_;have hgehch7 := Nat.le_trans hch.size hge7;have hch := hch.trans hcm7;have hNr1 := hNr1.keep0 hcm7;have hNr2 := hNr2.keep0 hcm7;have hneb47 := zdd hb4.lt hge7;have hb4 := hb4.k0 hcm7;have hneb67 := zdd hb6.lt hge7;have hb6 := hb6.k0 hcm7;refine zss rfl rfl ao hb6 rfl fun ws25 hb6_ hcs25 => ?_;(try simp only [Sx.splice, qt] at hb6_);have hch := hch.s2 hcs25;have hb4 := hb4.kq hcs25;have hb7 := hb7.kq hcs25;have hNr1 := hNr1.keepBK hb6 hcs25 an;have hNr2 := hNr2.keepBK hb6 hcs25 an;have hb6 := hb6_;refine zss rfl rfl ao hb7 rfl fun ws26 hb7_ hcs26 => ?_;(try simp only [Sx.splice, qt] at hb7_);have hch := hch.s2 hcs26;have hb4 := hb4.kq hcs26;have hb6 := hb6.kq hcs26;have hNr1 := hNr1.keepBK hb7 hcs26 an;have hNr2 := hNr2.keepBK hb7 hcs26 an;have hb7 := hb7_;refine za rfl (zz (kh3 (zc fun _ kh5 => CW.block (Sr fun _ kh6 => zm rfl (zN rfl rfl (za rfl (zz (kh6 ?_))))))));refine CW.condF rfl ?_;refine Sr fun _ kh8 => zf rfl (zl hb6 rfl rfl (zn rfl (zq rfl rfl (za rfl (zz (kh8 ?_))))));refine zy rfl ?_ ?_<;>intro hc1<;>try simp only [qs] at hc1
  ·have h01 : d1.m = 0 := by omega
   refine Sr fun _ kh10 => zg hb7 rfl ?_;refine zss rfl rfl ao hb4 rfl fun ws27 hb4_ hcs27 => ?_;(try simp only [Sx.splice, qt] at hb4_);have hch := hch.s2 hcs27;have hNr2 := hNr2.keepBK hb4 hcs27 an;have hb4 := hb4_;refine za rfl (zz (kh10 ?_));refine zr (bodyA.retR2 rfl (RVal.cell rfl (hb4.varA rfl rfl)) (RVal.tmp rfl) ?_);rw [hd1, hd2];exact ⟨.inl ⟨_, d2, by show addD d1 d2 = _; unfold addD; rw [if_pos h01], rfl, hNr2⟩, hch⟩
  have h01 : d1.m ≠ 0 := by omega
  refine Sr fun _ kh12 => zf rfl (zl hb7 rfl rfl (zn rfl (zq rfl rfl (za rfl (zz (kh12 ?_))))));refine zy rfl ?_ ?_<;>intro hc2<;>try simp only [qs] at hc2
  ·have h02 : d2.m = 0 := by omega
   refine Sr fun _ kh14 => zg hb6 rfl ?_;refine zss rfl rfl ao hb4 rfl fun ws28 hb4_ hcs28 => ?_;(try simp only [Sx.splice, qt] at hb4_);have hch := hch.s2 hcs28;have hNr1 := hNr1.keepBK hb4 hcs28 an;have hb4 := hb4_;refine za rfl (zz (kh14 ?_));refine zr (bodyA.retR2 rfl (RVal.cell rfl (hb4.varA rfl rfl)) (RVal.tmp rfl) ?_);rw [hd1, hd2];exact ⟨.inl ⟨_, d1, by show addD d1 d2 = _; unfold addD; rw [if_neg h01, if_pos h02], rfl, hNr1⟩, hch⟩
  have h02 : d2.m ≠ 0 := by omega
  refine zkk (kh5 (Sr fun _ kh16 => zf rfl (zl hb6 rfl rfl (zf rfl (zl hb7 rfl rfl ?_)))));refine WL.ev (Ev.minI rfl rfl) rfl ?_;refine za rfl (zz (kh16 (Sr fun _ kh18 => zf rfl (zl hb6 rfl rfl (zf rfl (zl hb6 rfl rfl (zm rfl ?_)))))));refine WL.ev (Ev.subIn rfl rfl (by omega)) rfl ?_;refine WL.call hasF172 rfl rfl (Shift_spec _ _ _ _ hNr1 (by omega)) fun v w2 h' => ?_;obtain ⟨hD3, hC3⟩ := h';rw [val_wd, show d1.e - min d1.e d2.e = ((d1.e - min d1.e d2.e).toNat : Int) by omega, shiftN_pos] at hD3;obtain ⟨p, hp⟩ : ∃ p, p = d1.m * 2 ^ (d1.e - min d1.e d2.e).toNat := ⟨_, rfl⟩;rw [← hp] at hD3;have hch := hch.trans hC3;have hb4 := hb4.k0 hC3;have hb6 := hb6.k0 hC3;have hb7 := hb7.k0 hC3;have hNr2 := hNr2.keep0 hC3;rw [shift_fits h01, ← hp] at hD3;rcases hD3 with ⟨⟨_, hp8⟩, rp, rfl, hNp⟩ | ⟨hp8, rfl⟩
  ·refine zm rfl (zx rfl rfl (zx rfl rfl (za rfl (za rfl (zz (kh18 (Sr fun _ kh20 => zf rfl (zl hb7 rfl rfl (zf rfl (zl hb7 rfl rfl (zm rfl ?_)))))))))));refine WL.ev (Ev.subIn rfl rfl (by omega)) rfl ?_;refine WL.call hasF172 rfl rfl (Shift_spec _ _ _ _ hNr2 (by omega)) fun v w3 h' => ?_;obtain ⟨hD4, hC4⟩ := h';rw [val_wd, show d2.e - min d1.e d2.e = ((d2.e - min d1.e d2.e).toNat : Int) by omega, shiftN_pos] at hD4;obtain ⟨q, hq⟩ : ∃ q, q = d2.m * 2 ^ (d2.e - min d1.e d2.e).toNat := ⟨_, rfl⟩;rw [← hq] at hD4;have hch := hch.trans hC4;have hb4 := hb4.k0 hC4;have hb6 := hb6.k0 hC4;have hb7 := hb7.k0 hC4;have hNp := hNp.keep0 hC4;rw [shift_fits h02, ← hq] at hD4;rcases hD4 with ⟨⟨_, hq8⟩, rq, rfl, hNq⟩ | ⟨hq8, rfl⟩
   ·refine zm rfl (zx rfl rfl (zx rfl rfl (za rfl (za rfl (zz (kh20 (zc fun _ kh22 => CW.block (Sr fun _ kh23 => zm rfl (zN rfl rfl (zm rfl (zw rfl (zm rfl (zw rfl (zN rfl rfl (ze rfl rfl (za rfl (zz (kh23 ?_))))))))))))))))));refine CW.condF rfl ?_;refine Sr fun _ kh25 => zf rfl (zl hb6 rfl rfl (zf rfl (zl hb7 rfl rfl ?_)));refine WL.ev (Ev.eql_bool rfl rfl) rfl ?_;refine za rfl (zz (kh25 ?_));refine zy rfl ?_ ?_<;>intro hc3<;>try simp only [qs] at hc3
    ·have hsg : d1.neg = d2.neg := by simpa using hc3
     refine zc fun _ kh27 => ?_;refine CW.regionKC 9 11 rfl hmix fun kR28 kr28 hS hdr => ?_;have hch := hch.trans hdr;have hb4 := hb4.k0 hdr;have hb6 := hb6.k0 hdr;have hNp := hNp.keep0 hdr;have hNq := hNq.keep0 hdr;have hb6_r := hb6;refine wk 0 rfl hS (eF rfl) (wk 1 rfl hS (fun _ hw' => Ev.load rfl rfl ((hb6_r.keep0 hw').at_ rfl)) (wk 2 rfl hS (eM rfl) (wk 3 rfl hS (eM rfl) (wk 5 rfl hS (eM rfl) ?_))));refine WK.oneCall 4 rfl (by kernel_rfl) hasF174 rfl rfl (dsum_spec _ _ _ _ _ hNp hNq (by omega) (by omega)) fun v w4 h' => ?_;obtain ⟨L, hNL, hvL, hC82⟩ := h';rw [val_wd, val_wd] at hvL;have hch := hch.trans hC82;have hb4 := hb4.k0 hC82;have hS := hS.trans hC82;refine ⟨hS, ?_⟩;refine WK.oneCall 6 rfl (by kernel_rfl) hasF173 rfl rfl (form_spec _ _ _ _ _ hNL (hg.keep0 hch) (by omega)) fun v w5 h' => ?_;obtain ⟨hD84, hC84⟩ := h';have hch := hch.trans hC84;have hb4 := hb4.k0 hC84;have hS := hS.trans hC84;refine ⟨hS, ?_⟩;rcases hD84 with ⟨r, d, hd, rfl, hNr⟩ | ⟨hd, rfl⟩
     ·refine wk 7 rfl hS (eX rfl rfl) (wk 8 rfl hS (eX rfl rfl) ?_);refine WK.storeB 9 rfl (by kernel_rfl) (by kernel_rfl) rfl rfl rfl ao hb4 (by simp) rfl fun ws29 hb4_ hcs29 => ?_;(try simp only [Sx.splice, qt] at hb4_);have hch := hch.s2 hcs29;have hNr := hNr.keepBK hb4 hcs29 an;have hb4 := hb4_;refine WK.after 10 rfl (by kernel_rfl) (by kernel_rfl) (Ev.assign rfl) rfl ?_;refine WK.done (by kernel_rfl) (kr28 _ _ _ ?_);refine kh27 ?_;refine zr (bodyA.retR2 rfl (RVal.cell rfl (hb4.varA rfl rfl)) (RVal.tmp rfl) ?_);rw [hd1, hd2];exact ⟨.inl ⟨r, d, by rw [hvL] at hd; show addD d1 d2 = _; rw [addD_eq h01 h02 hp hq, if_neg (by omega), if_pos hsg]; exact hd, rfl, hNr⟩, hch⟩
     refine wk 7 rfl hS (eX rfl rfl) (wk 8 rfl hS (eX rfl rfl) ?_);refine WK.storeB 9 rfl (by kernel_rfl) (by kernel_rfl) rfl rfl rfl ao hb4 (by simp) rfl fun ws30 hb4_ hcs30 => ?_;(try simp only [Sx.splice, qt] at hb4_);have hch := hch.s2 hcs30;have hb4 := hb4_;refine WK.after 10 rfl (by kernel_rfl) (by kernel_rfl) (Ev.assign rfl) rfl ?_;refine WK.done (by kernel_rfl) (kr28 _ _ _ ?_);refine kh27 ?_;refine zr (bodyA.retR2 rfl (RVal.cell rfl (hb4.varA rfl rfl)) (RVal.tmp rfl) ?_);rw [hd1, hd2];exact ⟨.inr ⟨by rw [hvL] at hd; show addD d1 d2 = _; rw [addD_eq h01 h02 hp hq, if_neg (by omega), if_pos hsg]; exact hd, rfl⟩, hch⟩
    have hsg : d1.neg ≠ d2.neg := by simpa using hc3
    refine Sr fun _ kh29 => zm rfl (zm rfl ?_);refine WL.call hasF175 rfl rfl (Cmp_spec _ _ _ _ _ hNp hNq) fun v w6 h' => ?_;obtain ⟨rfl, hC90⟩ := h';rw [val_wd, val_wd];have hch := hch.trans hC90;have hb4 := hb4.k0 hC90;have hb6 := hb6.k0 hC90;have hb7 := hb7.k0 hC90;have hNp := hNp.keep0 hC90;have hNq := hNq.keep0 hC90;refine zL rfl rfl (za rfl (zz (kh29 ?_)));refine zy rfl ?_ ?_<;>intro hc4<;>try simp only [qs] at hc4
    ·have hpq : p < q := by
      apply Classical.byContradiction; intro hn; unfold sgn at hc4; rw [if_neg hn] at hc4; split at hc4 <;> omega
     refine zR fun _ kr31 => ?_;refine zg hb7 rfl (zm rfl (zm rfl ?_));refine zss rfl rfl ao hb6 rfl fun ws31 hb6_ hcs31 => ?_;(try simp only [Sx.splice, qt] at hb6_);have hch := hch.s2 hcs31;have hb4 := hb4.kq hcs31;have hNp := hNp.keepBK hb6 hcs31 an;have hNq := hNq.keepBK hb6 hcs31 an;have hb6 := hb6_;refine za rfl (za rfl ?_);refine WL.nil (kr31 _ _ _ (kh22 ?_));refine Sr fun _ kh32 => zm rfl (zm rfl ?_);refine WL.call hasF176 rfl rfl (Sub_spec _ _ _ _ _ hNq hNp) fun v w7 h' => ?_;obtain ⟨hD98, hC98⟩ := h';rw [val_wd, val_wd] at hD98;rcases hD98 with ⟨_, _, _, rs, rfl, hNs⟩ | ⟨hno, _⟩ | ⟨_, hno, _⟩
     rotate_left
     · omega
     · omega
     have hch := hch.trans hC98;have hb4 := hb4.k0 hC98;have hb6 := hb6.k0 hC98;refine zm rfl (zx rfl rfl (zx rfl rfl (za rfl (za rfl (zz (kh32 (Sr fun _ kh34 => zf rfl (zl hb6 rfl rfl (zm rfl (zm rfl ?_))))))))));refine WL.call hasF173 rfl rfl (form_spec _ _ _ _ _ hNs (hg.keep0 hch) (by omega)) fun v w8 h' => ?_;obtain ⟨hD105, hC105⟩ := h';have hch := hch.trans hC105;have hb4 := hb4.k0 hC105;rcases hD105 with ⟨r, d, hd, rfl, hNr⟩ | ⟨hd, rfl⟩
     ·refine zx rfl rfl (zx rfl rfl ?_);refine zss rfl rfl ao hb4 rfl fun ws32 hb4_ hcs32 => ?_;(try simp only [Sx.splice, qt] at hb4_);have hch := hch.s2 hcs32;have hNr := hNr.keepBK hb4 hcs32 an;have hb4 := hb4_;refine za rfl (zz (kh34 ?_));refine zr (bodyA.retR2 rfl (RVal.cell rfl (hb4.varA rfl rfl)) (RVal.tmp rfl) ?_);rw [hd1, hd2];exact ⟨.inl ⟨r, d, by rw [val_wd] at hd; show addD d1 d2 = _; rw [addD_eq h01 h02 hp hq, if_neg (by omega), if_neg hsg, if_pos hpq]; exact hd, rfl, hNr⟩, hch⟩
     refine zx rfl rfl (zx rfl rfl ?_);refine zss rfl rfl ao hb4 rfl fun ws33 hb4_ hcs33 => ?_;(try simp only [Sx.splice, qt] at hb4_);have hch := hch.s2 hcs33;have hb4 := hb4_;refine za rfl (zz (kh34 ?_));refine zr (bodyA.retR2 rfl (RVal.cell rfl (hb4.varA rfl rfl)) (RVal.tmp rfl) ?_);rw [hd1, hd2];exact ⟨.inr ⟨by rw [val_wd] at hd; show addD d1 d2 = _; rw [addD_eq h01 h02 hp hq, if_neg (by omega), if_neg hsg, if_pos hpq]; exact hd, rfl⟩, hch⟩
    have hpq : ¬ p < q := fun hn => by unfold sgn at hc4; rw [if_pos hn] at hc4; omega
    refine zkk (kh22 (Sr fun _ kh36 => zm rfl (zm rfl ?_)));refine WL.call hasF176 rfl rfl (Sub_spec _ _ _ _ _ hNp hNq) fun v w9 h' => ?_;obtain ⟨hD98, hC98⟩ := h';rw [val_wd, val_wd] at hD98;rcases hD98 with ⟨_, _, _, rs, rfl, hNs⟩ | ⟨hno, _⟩ | ⟨_, hno, _⟩
    rotate_left
    · omega
    · omega
    have hch := hch.trans hC98;have hb4 := hb4.k0 hC98;have hb6 := hb6.k0 hC98;refine zm rfl (zx rfl rfl (zx rfl rfl (za rfl (za rfl (zz (kh36 (Sr fun _ kh38 => zf rfl (zl hb6 rfl rfl (zm rfl (zm rfl ?_))))))))));refine WL.call hasF173 rfl rfl (form_spec _ _ _ _ _ hNs (hg.keep0 hch) (by omega)) fun v w10 h' => ?_;obtain ⟨hD105, hC105⟩ := h';have hch := hch.trans hC105;have hb4 := hb4.k0 hC105;rcases hD105 with ⟨r, d, hd, rfl, hNr⟩ | ⟨hd, rfl⟩
    ·refine zx rfl rfl (zx rfl rfl ?_);refine zss rfl rfl ao hb4 rfl fun ws34 hb4_ hcs34 => ?_;(try simp only [Sx.splice, qt] at hb4_);have hch := hch.s2 hcs34;have hNr := hNr.keepBK hb4 hcs34 an;have hb4 := hb4_;refine za rfl (zz (kh38 ?_));refine zr (bodyA.retR2 rfl (RVal.cell rfl (hb4.varA rfl rfl)) (RVal.tmp rfl) ?_);rw [hd1, hd2];exact ⟨.inl ⟨r, d, by rw [val_wd] at hd; show addD d1 d2 = _; rw [addD_eq h01 h02 hp hq, if_neg (by omega), if_neg hsg, if_neg hpq]; exact hd, rfl, hNr⟩, hch⟩
    refine zx rfl rfl (zx rfl rfl ?_);refine zss rfl rfl ao hb4 rfl fun ws35 hb4_ hcs35 => ?_;(try simp only [Sx.splice, qt] at hb4_);have hch := hch.s2 hcs35;have hb4 := hb4_;refine za rfl (zz (kh38 ?_));refine zr (bodyA.retR2 rfl (RVal.cell rfl (hb4.varA rfl rfl)) (RVal.tmp rfl) ?_);rw [hd1, hd2];exact ⟨.inr ⟨by rw [val_wd] at hd; show addD d1 d2 = _; rw [addD_eq h01 h02 hp hq, if_neg (by omega), if_neg hsg, if_neg hpq]; exact hd, rfl⟩, hch⟩
   refine zm rfl (zx rfl rfl (zx rfl rfl (za rfl (za rfl (zz (kh20 (zc fun _ kh40 => CW.block (Sr fun _ kh41 => zm rfl (zN rfl rfl (zm rfl (zw rfl (zm rfl (zw rfl (zN rfl rfl (ze rfl rfl (za rfl (zz (kh41 ?_))))))))))))))))));refine CW.condT rfl ?_;refine Sr fun _ kh43 => ?_;refine WL.ev (Ev.build (vs := _) (cs := [_, _, _]) rfl rfl) rfl ?_;refine zss rfl rfl ao hb4 rfl fun ws36 hb4_ hcs36 => ?_;(try simp only [Sx.splice, qt] at hb4_);have hch := hch.s2 hcs36;have hb4 := hb4_;refine za rfl (zz (kh43 ?_));refine zr (bodyA.retR2 rfl (RVal.cell rfl (hb4.varA rfl rfl)) (RVal.tmp rfl) ?_);rw [hd1, hd2];exact ⟨.inr ⟨by show addD d1 d2 = _; rw [addD_eq h01 h02 hp hq, if_pos (by omega)], rfl⟩, hch⟩
  refine zm rfl (zx rfl rfl (zx rfl rfl (za rfl (za rfl (zz (kh18 (Sr fun _ kh45 => zf rfl (zl hb7 rfl rfl (zf rfl (zl hb7 rfl rfl (zm rfl ?_)))))))))));refine WL.ev (Ev.subIn rfl rfl (by omega)) rfl ?_;refine WL.call hasF172 rfl rfl (Shift_spec _ _ _ _ hNr2 (by omega)) fun v w11 h' => ?_;obtain ⟨hD4, hC4⟩ := h';rw [val_wd, show d2.e - min d1.e d2.e = ((d2.e - min d1.e d2.e).toNat : Int) by omega, shiftN_pos] at hD4;obtain ⟨q, hq⟩ : ∃ q, q = d2.m * 2 ^ (d2.e - min d1.e d2.e).toNat := ⟨_, rfl⟩;rw [← hq] at hD4;have hch := hch.trans hC4;have hb4 := hb4.k0 hC4;rcases hD4 with ⟨_, rq, rfl, hNq⟩ | ⟨_, rfl⟩
  ·refine zm rfl (zx rfl rfl (zx rfl rfl (za rfl (za rfl (zz (kh45 (zc fun _ kh47 => CW.block (Sr fun _ kh48 => zm rfl (zN rfl rfl (zm rfl (zv rfl (zv rfl (zt rfl rfl (za rfl (zz (kh48 ?_))))))))))))))));refine CW.condT rfl ?_;refine Sr fun _ kh50 => ?_;refine WL.ev (Ev.build (vs := _) (cs := [_, _, _]) rfl rfl) rfl ?_;refine zss rfl rfl ao hb4 rfl fun ws37 hb4_ hcs37 => ?_;(try simp only [Sx.splice, qt] at hb4_);have hch := hch.s2 hcs37;have hb4 := hb4_;refine za rfl (zz (kh50 ?_));refine zr (bodyA.retR2 rfl (RVal.cell rfl (hb4.varA rfl rfl)) (RVal.tmp rfl) ?_);rw [hd1, hd2];exact ⟨.inr ⟨by show addD d1 d2 = _; rw [addD_eq h01 h02 hp hq, if_pos (by omega)], rfl⟩, hch⟩
  refine zm rfl (zx rfl rfl (zx rfl rfl (za rfl (za rfl (zz (kh45 (zc fun _ kh52 => CW.block (Sr fun _ kh53 => zm rfl (zN rfl rfl (zm rfl (zv rfl (zv rfl (zt rfl rfl (za rfl (zz (kh53 ?_))))))))))))))));refine CW.condT rfl ?_;refine Sr fun _ kh55 => ?_;refine WL.ev (Ev.build (vs := _) (cs := [_, _, _]) rfl rfl) rfl ?_;refine zss rfl rfl ao hb4 rfl fun ws38 hb4_ hcs38 => ?_;(try simp only [Sx.splice, qt] at hb4_);have hch := hch.s2 hcs38;have hb4 := hb4_;refine za rfl (zz (kh55 ?_));refine zr (bodyA.retR2 rfl (RVal.cell rfl (hb4.varA rfl rfl)) (RVal.tmp rfl) ?_);rw [hd1, hd2];exact ⟨.inr ⟨by show addD d1 d2 = _; rw [addD_eq h01 h02 hp hq, if_pos (by omega)], rfl⟩, hch⟩
 have hF : both2 addD (formD na (val la) ea) (formD nb (val lb) eb) = none := by rcases hno with hno | hno <;> rw [hno] <;> first | rfl | exact both2_none_right
 refine zm rfl (zx rfl rfl (zx rfl rfl (zx rfl rfl ?_)));refine WL.allocB (l := [.bool false, .slice none 0 0, .int .i64 0]) rfl rfl fun b6 wm6 hb6 hcm6 hge6 => ?_;have hgehch6 := Nat.le_trans hch.size hge6;have hch := hch.trans hcm6;have hneb46 := zdd hb4.lt hge6;have hb4 := hb4.k0 hcm6;refine WL.allocB (l := [.bool false, .slice none 0 0, .int .i64 0]) rfl rfl fun b7 wm7 hb7 hcm7 hge7 => ?_;have hgehch7 := Nat.le_trans hch.size hge7;have hch := hch.trans hcm7;have hneb47 := zdd hb4.lt hge7;have hb4 := hb4.k0 hcm7;have hneb67 := zdd hb6.lt hge7;have hb6 := hb6.k0 hcm7;refine zss rfl rfl ao hb6 rfl fun ws39 hb6_ hcs39 => ?_;have hch := hch.s2 hcs39;have hb4 := hb4.kq hcs39;have hb7 := hb7.kq hcs39;refine zss rfl rfl ao hb7 rfl fun ws40 hb7_ hcs40 => ?_;have hch := hch.s2 hcs40;have hb4 := hb4.kq hcs40;refine za rfl (zz (kh3 (zc fun _ kh57 => CW.block (Sr fun _ kh58 => zm rfl (zN rfl rfl (za rfl (zz (kh58 ?_))))))));refine CW.condT rfl ?_;refine Sr fun _ kh60 => ?_;refine WL.ev (Ev.build (vs := _) (cs := [_, _, _]) rfl rfl) rfl ?_;refine zm rfl ?_;refine zss rfl rfl ao hb4 rfl fun ws41 hb4_ hcs41 => ?_;(try simp only [Sx.splice, qt] at hb4_);have hch := hch.s2 hcs41;have hb4 := hb4_;refine za rfl (zz (kh60 ?_));refine zr (bodyA.retR2 rfl (RVal.cell rfl (hb4.varA rfl rfl)) (RVal.tmp rfl) ?_);rw [hF];exact ⟨.inr ⟨rfl, rfl⟩, hch⟩

end

/- Package dyad: Sub, Mul, Neg, Sign. No condition. -/
section
open Go Sx Wd

theorem Sub_dspec (na nb : Bool) (va vb : Value) (la lb : List Nat) (ea eb : Int) (w : World) (ha : NU w va la) (hb : NU w vb lb) (hg : GW w) (hea : -9223372036854775808 ≤ ea ∧ ea ≤ 9223372036854775807) (heb : -9223372036854775808 ≤ eb ∧ eb ≤ 9223372036854775807) : Ret Tryz.prog 189 [.agg [.bool na, va, .int .i64 ea].toArray, .agg [.bool nb, vb, .int .i64 eb].toArray] w fun u w' => DR w' u (both2 addD (formD na (val la) ea) (formD (!nb) (val lb) eb)) ∧ Chg [] w w' := by
 have hch := crf w;have hoa := ha.one;have hob := hb.one;refine zE2 Tryz.func189 rfl ?_;refine Sr fun _ kh1 => ?_;refine WL.boxB rfl rfl rfl fun b2 wm2 hb2 hcm2 hge2 => ?_;have hgehch2 := Nat.le_trans hch.size hge2;have hch := hch.trans hcm2;have ha := ha.keep0 hcm2;have hb := hb.keep0 hcm2;refine WL.boxB rfl rfl rfl fun b3 wm3 hb3 hcm3 hge3 => ?_;have hgehch3 := Nat.le_trans hch.size hge3;have hch := hch.trans hcm3;have ha := ha.keep0 hcm3;have hb := hb.keep0 hcm3;have hneb23 := zdd hb2.lt hge3;have hb2 := hb2.k0 hcm3;refine WL.allocB (l := [.bool false, .slice none 0 0, .int .i64 0]) rfl rfl fun b4 wm4 hb4 hcm4 hge4 => ?_;have hgehch4 := Nat.le_trans hch.size hge4;have hch := hch.trans hcm4;have ha := ha.keep0 hcm4;have hb := hb.keep0 hcm4;have hneb24 := zdd hb2.lt hge4;have hb2 := hb2.k0 hcm4;have hneb34 := zdd hb3.lt hge4;have hb3 := hb3.k0 hcm4;refine za rfl (zz (kh1 (Sr fun _ kh3 => zf rfl (zl hb3 rfl rfl (zT rfl (zf rfl ?_))))));refine WL.storeC rfl rfl o1 hb3 (by simp) rfl fun ws42 hb3_ hcs42 => ?_;(try simp only [Sx.splice, qt] at hb3_);have hch := hch.s2 hcs42;have hb2 := hb2.kq hcs42;have hb4 := hb4.kq hcs42;have ha := ha.keepBK hb3 hcs42 an;have hb := hb.keepBK hb3 hcs42 an;have hb3 := hb3_;refine zz (kh3 (Sr fun _ kh5 => zg hb2 rfl (zg hb3 rfl ?_)));refine WL.call hasF83 rfl rfl (Add_dspec _ _ _ _ _ _ _ _ _ ha hb (hg.keep0 hch) hea heb) fun v w1 h' => ?_;obtain ⟨hD12, hC12⟩ := h';have hch := hch.trans hC12;have hb4 := hb4.k0 hC12;rcases hD12 with ⟨r, d, hd, rfl, hNr⟩ | ⟨hd, rfl⟩
 ·refine zx rfl rfl (zx rfl rfl ?_);refine zss rfl rfl ao hb4 rfl fun ws43 hb4_ hcs43 => ?_;(try simp only [Sx.splice, qt] at hb4_);have hch := hch.s2 hcs43;have hNr := hNr.keepBK hb4 hcs43 an;have hb4 := hb4_;refine za rfl (zz (kh5 ?_));refine zr (bodyA.retR2 rfl (RVal.cell rfl (hb4.varA rfl rfl)) (RVal.tmp rfl) ?_);exact ⟨.inl ⟨r, d, hd, rfl, hNr⟩, hch⟩
 refine zx rfl rfl (zx rfl rfl ?_);refine zss rfl rfl ao hb4 rfl fun ws44 hb4_ hcs44 => ?_;(try simp only [Sx.splice, qt] at hb4_);have hch := hch.s2 hcs44;have hb4 := hb4_;refine za rfl (zz (kh5 ?_));refine zr (bodyA.retR2 rfl (RVal.cell rfl (hb4.varA rfl rfl)) (RVal.tmp rfl) ?_);exact ⟨.inr ⟨hd, rfl⟩, hch⟩

theorem Mul_dspec (na nb : Bool) (va vb : Value) (la lb : List Nat) (ea eb : Int) (w : World) (ha : NU w va la) (hb : NU w vb lb) (hg : GW w) (hea : -9223372036854775808 ≤ ea ∧ ea ≤ 9223372036854775807) (heb : -9223372036854775808 ≤ eb ∧ eb ≤ 9223372036854775807) : Ret Tryz.prog 132 [.agg [.bool na, va, .int .i64 ea].toArray, .agg [.bool nb, vb, .int .i64 eb].toArray] w fun u w' => DR w' u (both2 mulD (formD na (val la) ea) (formD nb (val lb) eb)) ∧ Chg [] w w' := by
 have hch := crf w;have hoa := ha.one;have hob := hb.one;refine zE2 Tryz.func132 rfl ?_;refine Sr fun _ kh1 => ?_;refine WL.boxB rfl rfl rfl fun b2 wm2 hb2 hcm2 hge2 => ?_;have hgehch2 := Nat.le_trans hch.size hge2;have hch := hch.trans hcm2;have ha := ha.keep0 hcm2;have hb := hb.keep0 hcm2;refine WL.boxB rfl rfl rfl fun b3 wm3 hb3 hcm3 hge3 => ?_;have hgehch3 := Nat.le_trans hch.size hge3;have hch := hch.trans hcm3;have ha := ha.keep0 hcm3;have hb := hb.keep0 hcm3;have hneb23 := zdd hb2.lt hge3;have hb2 := hb2.k0 hcm3;refine WL.allocB (l := [.bool false, .slice none 0 0, .int .i64 0]) rfl rfl fun b4 wm4 hb4 hcm4 hge4 => ?_;have hgehch4 := Nat.le_trans hch.size hge4;have hch := hch.trans hcm4;have ha := ha.keep0 hcm4;have hb := hb.keep0 hcm4;have hneb24 := zdd hb2.lt hge4;have hb2 := hb2.k0 hcm4;have hneb34 := zdd hb3.lt hge4;have hb3 := hb3.k0 hcm4;refine za rfl (zz (kh1 (Sr fun _ kh3 => zg hb2 rfl (zg hb3 rfl ?_))));refine WL.call hasF171 rfl rfl (dboth_spec na nb va vb la lb ea eb _ ha hb (hg.keep0 hch) hea heb) fun v w1 h' => ?_;obtain ⟨hB, hC1⟩ := h';have hch := hch.trans hC1;have hb4 := hb4.k0 hC1;rcases hB with ⟨d1, d2, r1, r2, hd1, hd2, rfl, hNr1, hNr2⟩ | ⟨hno, n1, v1, e1, n2, v2, e2, rfl, hv1, hv2⟩
 ·have hok1 := formD_ok hd1;have hok2 := formD_ok hd2;have he1 := hok1.e;have he2 := hok2.e;have hl1 := hok1.len;have hl2 := hok2.len;obtain ⟨⟨a1, c1, rfl, hcap1, hr1⟩, hW1, hl1⟩ := hNr1;have hNr1 : NU _ (.slice a1 (wd d1.m).length c1) (wd d1.m) := NU.of_row hr1 hW1 hl1 rfl hcap1;obtain ⟨⟨a2, c2, rfl, hcap2, hr2⟩, hW2, hl2⟩ := hNr2;have hNr2 : NU _ (.slice a2 (wd d2.m).length c2) (wd d2.m) := NU.of_row hr2 hW2 hl2 rfl hcap2;have hw1 : (wd d1.m).length = 0 ↔ d1.m = 0 := by rw [List.length_eq_zero_iff, wd_eq_nil]
  have hw2 : (wd d2.m).length = 0 ↔ d2.m = 0 := by rw [List.length_eq_zero_iff, wd_eq_nil]
  refine zm rfl (zx rfl rfl (zx rfl rfl (zx rfl rfl ?_)));refine WL.allocB (l := [.bool false, .slice none 0 0, .int .i64 0]) rfl rfl fun b6 wm6 hb6 hcm6 hge6 => ?_;have hgehch6 := Nat.le_trans hch.size hge6;have hch := hch.trans hcm6;have hNr1 := hNr1.keep0 hcm6;have hNr2 := hNr2.keep0 hcm6;have hneb46 := zdd hb4.lt hge6;have hb4 := hb4.k0 hcm6;refine WL.allocB (l := [.bool false, .slice none 0 0, .int .i64 0]) rfl rfl fun b7 wm7 hb7 hcm7 hge7 => ?_;have hgehch7 := Nat.le_trans hch.size hge7;have hch := hch.trans hcm7;have hNr1 := hNr1.keep0 hcm7;have hNr2 := hNr2.keep0 hcm7;have hneb47 := zdd hb4.lt hge7;have hb4 := hb4.k0 hcm7;have hneb67 := zdd hb6.lt hge7;have hb6 := hb6.k0 hcm7;refine zss rfl rfl ao hb6 rfl fun ws45 hb6_ hcs45 => ?_;(try simp only [Sx.splice, qt] at hb6_);have hch := hch.s2 hcs45;have hb4 := hb4.kq hcs45;have hb7 := hb7.kq hcs45;have hNr1 := hNr1.keepBK hb6 hcs45 an;have hNr2 := hNr2.keepBK hb6 hcs45 an;have hb6 := hb6_;refine zss rfl rfl ao hb7 rfl fun ws46 hb7_ hcs46 => ?_;(try simp only [Sx.splice, qt] at hb7_);have hch := hch.s2 hcs46;have hb4 := hb4.kq hcs46;have hb6 := hb6.kq hcs46;have hNr1 := hNr1.keepBK hb7 hcs46 an;have hNr2 := hNr2.keepBK hb7 hcs46 an;have hb7 := hb7_;refine za rfl (zz (kh3 (zc fun _ kh5 => Sr fun _ kh6 => zm rfl (zN rfl rfl (zz (kh6 ?_))))));refine CW.condF rfl ?_;refine zkk (kh5 (Sr fun _ kh8 => zf rfl (zl hb6 rfl rfl (zf rfl (zl hb7 rfl rfl ?_)))));refine WL.call hasF216 rfl rfl (Mul_spec _ _ _ _ _ hNr1 hNr2) fun v w2 h' => ?_;obtain ⟨hD3, hC3⟩ := h';rw [val_wd, val_wd] at hD3;have hch := hch.trans hC3;have hb4 := hb4.k0 hC3;have hb6 := hb6.k0 hC3;have hb7 := hb7.k0 hC3;rcases hD3 with ⟨_, _, hp8, rp, rfl, hNp⟩ | ⟨hp8, rfl⟩
  ·refine zm rfl (zx rfl rfl (zx rfl rfl (za rfl (za rfl (zz (kh8 (zc fun _ kh10 => Sr fun _ kh11 => zm rfl (zN rfl rfl (zz (kh11 ?_))))))))));refine CW.condF rfl ?_;refine zkk (kh10 (Sr fun _ kh13 => zf rfl (zl hb6 rfl rfl (zf rfl (zl hb7 rfl rfl ?_)))));refine WL.ev (Ev.neq_bool rfl rfl) rfl ?_;refine zm rfl (zf rfl (zl hb6 rfl rfl (zf rfl (zl hb7 rfl rfl ?_))));(first | refine zi rfl rfl ?_ | refine zo rfl rfl ?_);refine WL.call hasF173 rfl rfl (form_spec _ _ _ _ _ hNp (hg.keep0 hch) (by omega)) fun v w3 h' => ?_;obtain ⟨hD44, hC44⟩ := h';have hch := hch.trans hC44;have hb4 := hb4.k0 hC44;rcases hD44 with ⟨r, d, hd, rfl, hNr⟩ | ⟨hd, rfl⟩
   ·refine zx rfl rfl (zx rfl rfl ?_);refine zss rfl rfl ao hb4 rfl fun ws47 hb4_ hcs47 => ?_;(try simp only [Sx.splice, qt] at hb4_);have hch := hch.s2 hcs47;have hNr := hNr.keepBK hb4 hcs47 an;have hb4 := hb4_;refine za rfl (zz (kh13 ?_));refine zr (bodyA.retR2 rfl (RVal.cell rfl (hb4.varA rfl rfl)) (RVal.tmp rfl) ?_);rw [hd1, hd2];exact ⟨.inl ⟨r, d, by rw [val_wd] at hd; show mulD d1 d2 = _; unfold mulD; rw [if_neg (by omega)]; exact hd, rfl, hNr⟩, hch⟩
   refine zx rfl rfl (zx rfl rfl ?_);refine zss rfl rfl ao hb4 rfl fun ws48 hb4_ hcs48 => ?_;(try simp only [Sx.splice, qt] at hb4_);have hch := hch.s2 hcs48;have hb4 := hb4_;refine za rfl (zz (kh13 ?_));refine zr (bodyA.retR2 rfl (RVal.cell rfl (hb4.varA rfl rfl)) (RVal.tmp rfl) ?_);rw [hd1, hd2];exact ⟨.inr ⟨by rw [val_wd] at hd; show mulD d1 d2 = _; unfold mulD; rw [if_neg (by omega)]; exact hd, rfl⟩, hch⟩
  refine zm rfl (zx rfl rfl (zx rfl rfl (za rfl (za rfl (zz (kh8 (zc fun _ kh15 => Sr fun _ kh16 => zm rfl (zN rfl rfl (zz (kh16 ?_))))))))));refine CW.condT rfl ?_;refine Sr fun _ kh18 => ?_;refine WL.ev (Ev.build (vs := _) (cs := [_, _, _]) rfl rfl) rfl ?_;refine zm rfl ?_;refine zss rfl rfl ao hb4 rfl fun ws49 hb4_ hcs49 => ?_;(try simp only [Sx.splice, qt] at hb4_);have hch := hch.s2 hcs49;have hb4 := hb4_;refine za rfl (zz (kh18 ?_));refine zr (bodyA.retR2 rfl (RVal.cell rfl (hb4.varA rfl rfl)) (RVal.tmp rfl) ?_);rw [hd1, hd2];exact ⟨.inr ⟨by show mulD d1 d2 = _; unfold mulD; rw [if_pos (by omega)], rfl⟩, hch⟩
 have hF : both2 mulD (formD na (val la) ea) (formD nb (val lb) eb) = none := by rcases hno with hno | hno <;> rw [hno] <;> first | rfl | exact both2_none_right
 refine zm rfl (zx rfl rfl (zx rfl rfl (zx rfl rfl ?_)));refine WL.allocB (l := [.bool false, .slice none 0 0, .int .i64 0]) rfl rfl fun b6 wm6 hb6 hcm6 hge6 => ?_;have hgehch6 := Nat.le_trans hch.size hge6;have hch := hch.trans hcm6;have hneb46 := zdd hb4.lt hge6;have hb4 := hb4.k0 hcm6;refine WL.allocB (l := [.bool false, .slice none 0 0, .int .i64 0]) rfl rfl fun b7 wm7 hb7 hcm7 hge7 => ?_;have hgehch7 := Nat.le_trans hch.size hge7;have hch := hch.trans hcm7;have hneb47 := zdd hb4.lt hge7;have hb4 := hb4.k0 hcm7;have hneb67 := zdd hb6.lt hge7;have hb6 := hb6.k0 hcm7;refine zss rfl rfl ao hb6 rfl fun ws50 hb6_ hcs50 => ?_;have hch := hch.s2 hcs50;have hb4 := hb4.kq hcs50;have hb7 := hb7.kq hcs50;refine zss rfl rfl ao hb7 rfl fun ws51 hb7_ hcs51 => ?_;have hch := hch.s2 hcs51;have hb4 := hb4.kq hcs51;refine za rfl (zz (kh3 (zc fun _ kh20 => Sr fun _ kh21 => zm rfl (zN rfl rfl (zz (kh21 ?_))))));refine CW.condT rfl ?_;refine Sr fun _ kh23 => ?_;refine WL.ev (Ev.build (vs := _) (cs := [_, _, _]) rfl rfl) rfl ?_;refine zm rfl ?_;refine zss rfl rfl ao hb4 rfl fun ws52 hb4_ hcs52 => ?_;(try simp only [Sx.splice, qt] at hb4_);have hch := hch.s2 hcs52;have hb4 := hb4_;refine za rfl (zz (kh23 ?_));refine zr (bodyA.retR2 rfl (RVal.cell rfl (hb4.varA rfl rfl)) (RVal.tmp rfl) ?_);rw [hF];exact ⟨.inr ⟨rfl, rfl⟩, hch⟩

def sgD (neg : Bool) (n : Nat) : Int := if n = 0 then 0 else if neg then -1 else 1

theorem Sign_dspec (na : Bool) (va : Value) (la : List Nat) (ea : Int) (w : World) (ha : NU w va la) : Ret Tryz.prog 93 [.agg [.bool na, va, .int .i64 ea].toArray] w fun u w' => u = .int .i64 (sgD na (val la)) ∧ Chg [] w w' := by
 have hch := crf w;have hoa := ha.one;have hbz := bl_eq_zero (n := val la);refine zE1 Tryz.func93 rfl ?_;refine Sr fun _ kh1 => ?_;refine WL.boxB rfl rfl rfl fun b1 wm1 hb1 hcm1 hge1 => ?_;have hgehch1 := Nat.le_trans hch.size hge1;have hch := hch.trans hcm1;have ha := ha.keep0 hcm1;refine za rfl (zz (kh1 (zc fun _ kh3 => CW.block (Sr fun _ kh4 => zf rfl (zl hb1 rfl rfl ?_)))));refine WL.call hasF184 rfl rfl (Len_spec _ _ _ ha) fun v w1 h' => ?_;obtain ⟨rfl, rfl⟩ := h';refine zq rfl rfl (za rfl (zz (kh4 ?_)));refine zy rfl ?_ ?_<;>intro hc1<;>try simp only [qs] at hc1
 ·refine Sr fun _ kh6 => za rfl (zz (kh6 ?_));refine zr (zr1 rfl rfl ?_);unfold sgD; rw [if_pos (by omega)];exact ⟨rfl, hch⟩
 refine Sr fun _ kh8 => zf rfl (zl hb1 rfl rfl (za rfl (zz (kh8 ?_))));refine zy rfl ?_ ?_<;>intro hc2<;>try simp only [qs] at hc2
 ·refine Sr fun _ kh10 => za rfl (zz (kh10 ?_));refine zr (zr1 rfl rfl ?_);unfold sgD; rw [if_neg (by omega), if_pos hc2];exact ⟨rfl, hch⟩
 refine zkk (kh3 (Sr fun _ kh12 => za rfl (zz (kh12 ?_))));refine zr (zr1 rfl rfl ?_);unfold sgD; rw [if_neg (by omega), if_neg (by rw [hc2]; decide)];exact ⟨rfl, hch⟩

end

/- Numbers of 64 bits as plain numbers: which are NaN, their order. No condition. -/
namespace Fl
open Go

def isNaN (b : Nat) : Bool := decide (9218868437227405312 < b % 9223372036854775808)
def canon (b : Nat) : Nat := if isNaN b then 9221120237041090560 else b
def key (b : Nat) : Int := if isNaN b then 9223372036854775807 else if 9223372036854775808 ≤ b then -1 - ((b : Int) - 9223372036854775808) else b
def cmpI (a b : Int) : Int := if a < b then -1 else if b < a then 1 else 0

theorem double_sign : Ieee.double.signWeight = 9223372036854775808 := by decide
theorem double_inf : Ieee.double.infRung = 9218868437227405312 := by decide
theorem double_bin : Ieee.double.binade = 4503599627370496 := by decide

theorem cmp_self (x : Int) : compare x x = .eq := by simp
theorem cmpN_self (x : Nat) : compare x x = .eq := by simp
theorem order_self (b : Nat) : (FloatKind.f64.format.order b b != some .eq) = isNaN b := by
  show ((Ieee.double.read b).order (Ieee.double.read b) != some .eq) = isNaN b
  unfold Ieee.Format.read isNaN
  simp only [double_sign, double_inf, double_bin]
  split
  · rename_i h
    have h2 : decide (9218868437227405312 < b % 9223372036854775808) = false := by simp; omega
    rw [h2]
    simp [Ieee.Datum.order, cmp_self]
  · split
    · rename_i h h'
      have h2 : decide (9218868437227405312 < b % 9223372036854775808) = false := by simp; omega
      rw [h2]
      simp [Ieee.Datum.order, cmp_self]
    · split
      · rename_i h h' h3
        have h2 : decide (9218868437227405312 < b % 9223372036854775808) = false := by simp; omega
        rw [h2]
        simp [Ieee.Datum.order, cmpN_self]
      · rename_i h h' h3
        have h2 : decide (9218868437227405312 < b % 9223372036854775808) = true := by simp; omega
        rw [h2]
        simp [Ieee.Datum.order]
theorem order_self_eq (b : Nat) : (FloatKind.f64.format.order b b == some .eq) = !isNaN b := by
  rw [← order_self b]; simp [bne]

theorem signed_zero (k : Nat) : Ieee.signed false 0 k = 0 := by simp [Ieee.signed]
theorem signed_eq (s : Bool) (m k : Nat) : Ieee.signed s m k = 0 ↔ m = 0 := by
  have hp : 0 < 2 ^ k := Nat.two_pow_pos k
  have hz : m * 2 ^ k = 0 ↔ m = 0 := by
    constructor
    · intro h; rcases Nat.mul_eq_zero.1 h with h | h
      · exact h
      · omega
    · intro h; simp [h]
  unfold Ieee.signed
  rw [Nat.shiftLeft_eq]
  split <;> omega
theorem cmp_eq (x y : Int) : (some (compare x y) == some Ordering.eq) = decide (x = y) := by
  rw [Bool.eq_iff_iff]; simp
theorem order_num (s : Bool) (m : Nat) (i : Int) (j : Int) : (Ieee.Datum.order (.number s m i) (.number false 0 j) == some .eq) = decide (m = 0) := by
  unfold Ieee.Datum.order
  simp only [signed_zero]
  rw [cmp_eq, Bool.eq_iff_iff]
  simp [signed_eq]
theorem read_zero : Ieee.double.read 0 = .number false 0 Ieee.double.leastPlace := by decide
theorem order_zero (b : Nat) : (FloatKind.f64.format.order b 0 == some .eq) = decide (b % 9223372036854775808 = 0) := by
  show ((Ieee.double.read b).order (Ieee.double.read 0) == some .eq) = _
  rw [read_zero]
  unfold Ieee.Format.read
  simp only [double_sign, double_inf, double_bin]
  split
  · rw [order_num]
  · split
    · rename_i h h'
      rw [order_num, Bool.eq_iff_iff]
      simp; omega
    · split
      · rename_i h h' h3
        have h2 : decide (b % 9223372036854775808 = 0) = false := by simp; omega
        rw [h2]
        simp only [Ieee.Datum.order]
        split <;> rfl
      · rename_i h h' h3
        have h2 : decide (b % 9223372036854775808 = 0) = false := by simp; omega
        rw [h2]
        rfl
theorem key_pos_eq {b : Nat} (hn : isNaN b = false) (h : b < 9223372036854775808) : key b = b := by
  unfold key; rw [hn]; simp; omega
theorem key_neg_eq {b : Nat} (hn : isNaN b = false) (h : 9223372036854775808 ≤ b) : key b = -1 - ((b : Int) - 9223372036854775808) := by
  unfold key; rw [hn]; simp; omega
end Fl

/- Package dyad: higher. No condition. -/
section
open Go Sx Wd Fl

theorem rep_get {p i : Nat} {L : List Nat} : (List.replicate p 0 ++ L).getD (p + i) 0 = L.getD i 0 := by
  rw [List.getD_eq_getElem?_getD, List.getElem?_append_right (by simp), List.length_replicate, Nat.add_sub_cancel_left, ← List.getD_eq_getElem?_getD]
theorem rep_set2 {p i v : Nat} {L : List Nat} : (List.replicate p 0 ++ L).set (p + i) v = List.replicate p 0 ++ L.set i v := by
  rw [List.set_append_right _ _ (by simp), List.length_replicate, Nat.add_sub_cancel_left]
theorem val_zeros2 (k : Nat) (l : List Nat) : val (List.replicate k 0 ++ l) = val l * 2 ^ (32 * k) := by
  rw [val_append, val_replicate, List.length_replicate, Nat.zero_add, Nat.mul_comm]
structure KHi (l : List Nat) (p s : Nat) (w0 : World) (b : Nat) (g : Nat × List Nat) (w : World) : Prop where
  up : UpI l s g.1 g.2
  hB : OB w b 209 (List.replicate p 0 ++ g.2)
  ch : Chg [] w0 w

theorem higher_spec (v : Value) (l : List Nat) (k p s : Nat) (w : World) (h : NU w v l) (hlm : l.length ≤ 1000000) (hk : k ≤ 1000000000) (hp : p = k / 32) (hsd : s = k % 32) : Ret Tryz.prog 314 [v, .int .i64 (k : Int)] w fun u w' => ∃ L, NU w' u L ∧ val L = val l * 2 ^ k ∧ Chg [] w w' := by
 obtain ⟨⟨al, cl, rfl, hcapl, hrl⟩, hWl, hll⟩ := h;have hch := crf w;have hs : s < 32 := by omega
 have hquo : (k : Int) / 32 = (p : Int) := by omega
 have hrem : (k : Int) % 32 = (s : Int) := by omega
 refine zE2 Tryz.func314 rfl ?_;refine Sr fun _ kh1 => za rfl (zz (kh1 (Sr fun _ kh3 => zm rfl ?_)));refine WL.ev (Ev.quoIn rfl rfl (by omega) (by simp only [IntKind.max, IntKind.signed, IntKind.bits]; omega) (by omega)) rfl ?_;rw [hquo];refine zm rfl (zn rfl ?_);(first | refine zi rfl rfl ?_ | refine zo rfl rfl ?_);(first | refine zi rfl rfl ?_ | refine zo rfl rfl ?_);refine WL.makeU (((p + (l).length) + 1)) (((p + (l).length) + 1)) rfl rfl (by omega) (by omega) (by omega) (by omega) (by omega) rfl fun b15 wm15 hb15 hcm15 hge15 => ?_;have hgehch15 := Nat.le_trans hch.size hge15;have hch := hch.ta hcm15;refine za rfl (zz (kh3 (zc fun _ kh5 => Sr fun _ kh6 => zm rfl (zn rfl (zm rfl (zz (kh6 (CW.block ?_))))))));refine CW.loop (S := fun g : Nat × List Nat => [(1, .int .i64 (k : Int)), (5, .slice (some ⟨b15, 0, none⟩) (p + l.length + 1) (p + l.length + 1)), (16, .slice al l.length cl), (17, .int .i64 (l.length : Int)), (18, .int .i64 (g.1 : Int))]) (Inv := KHi l p s w b15) (mu := fun g => l.length - g.1) ((0, List.replicate (l.length + 1) 0)) ?_ ?_ ?_
 ·exact ⟨UpI.zero l s, by rw [List.replicate_append_replicate, show p + (l.length + 1) = p + l.length + 1 by omega]; exact hb15, hch⟩
 ·exact SLp
 rintro ⟨i, L⟩ wr ⟨hAd, hb15, hch⟩;dsimp only at hAd hb15 hch;dsimp only;have hiX := hAd.le;have hLl := hAd.len;have hWL := hAd.w;refine Sr fun _ kh8 => zL rfl rfl (zz (kh8 (zc fun _ kh10 => ?_)));refine zy rfl ?_ ?_<;>intro hc1<;>try simp only [qs] at hc1
 ·have hst := hAd.step hs hWl (by omega);have hxl := hWl.getD i
  have hg1 : (List.replicate p 0 ++ L).getD (p + i) 0 = L.getD i 0 := rep_get;have hWLi := hWL.getD i;have hlen2 : (List.replicate p 0 ++ L).length = p + l.length + 1 := by simp; omega
  generalize hLL : List.replicate p 0 ++ L = LL at *;refine zkk (kh10 (zc fun _ kh11 => CW.block (Sr fun _ kh12 => zm rfl ?_)));refine WL.ev (Ev.ixR (i) rfl rfl (hrl.keep0 hch) (by omega) (by omega) (by simp; omega)) rfl ?_;refine WL.ev (Ev.load rfl rfl ((hrl.keep0 hch).u32 (by first | omega | (simp; omega)))) rfl ?_;have hw22 := hWl.getD (i);refine za rfl (za rfl (zz (kh12 (Sr fun _ kh14 => zm rfl ?_))));refine WL.ev (Ev.convIn rfl rfl (in_u64 (by omega))) rfl ?_;refine zm rfl ?_;refine WL.ev (Ev.remIn rfl rfl (by omega) (by omega)) rfl ?_;rw [hrem];refine WL.ev (Ev.shlU64 rfl rfl) rfl ?_;refine za rfl (zz (kh14 (Sr fun _ kh16 => zm rfl (zm rfl ?_))));refine WL.ev (Ev.quoIn rfl rfl (by omega) (by simp only [IntKind.max, IntKind.signed, IntKind.bits]; omega) (by omega)) rfl ?_;rw [hquo];refine zm rfl ?_;(first | refine zi rfl rfl ?_ | refine zo rfl rfl ?_);refine WL.ev (Ev.ixB ((p + i)) rfl rfl (by omega) (by omega)) rfl ?_;refine WL.ev (Ev.load rfl rfl (hb15.u32 (by first | omega | (simp; omega)))) rfl ?_;rw [hg1];refine zm rfl ?_;refine WL.ev (Ev.conv32 rfl rfl) rfl ?_;refine WL.ev (Ev.orU rfl rfl rfl (by simp only [IntKind.bits]; omega) (by simp only [IntKind.bits]; omega)) rfl ?_;refine WL.ev (Ev.ixB ((p + i)) rfl rfl (by omega) (by omega)) rfl ?_;refine WL.storeU rfl rfl hb15 (by first | omega | (simp; done) | (simp; omega)) fun ws8 hb15_ hcs8 => ?_;have hch := hch.s1 hcs8;have hb15 := hb15_;refine zz (kh16 ?_);refine zR fun _ kr18 => ?_;refine zm rfl (zm rfl ?_);refine WL.ev (Ev.quoIn rfl rfl (by omega) (by simp only [IntKind.max, IntKind.signed, IntKind.bits]; omega) (by omega)) rfl ?_;rw [hquo];refine zm rfl ?_;(first | refine zi rfl rfl ?_ | refine zo rfl rfl ?_);(first | refine zi rfl rfl ?_ | refine zo rfl rfl ?_);refine zm rfl ?_;refine WL.ev (Ev.shrU (b := 32) rfl rfl (by simp only [IntKind.bits]; omega)) rfl ?_;refine WL.ev (Ev.conv32 rfl rfl) rfl ?_;refine WL.ev (Ev.ixB (((p + i) + 1)) rfl rfl (by omega) (by omega)) rfl ?_;refine WL.storeU rfl rfl hb15 (by first | omega | (simp; done) | (simp; omega)) fun ws9 hb15_ hcs9 => ?_;have hch := hch.s1 hcs9;have hb15 := hb15_;refine WL.nil (kr18 _ _ _ (kh11 ?_));refine zS fun _ kr19 => ?_;(first | refine zi rfl rfl ?_ | refine zo rfl rfl ?_);refine zm rfl (zz (kr19 ?_));refine ⟨rfl, (i + 1, ((L.set i (L.getD i 0 ||| (l.getD i 0 * 2 ^ s % 18446744073709551616 % 4294967296))).set (i + 1) (l.getD i 0 * 2 ^ s % 18446744073709551616 / 2 ^ 32 % 4294967296))), ?_, ?_, ?_⟩
  ·exact SLp
  ·refine ⟨hst.2, ?_, hch⟩;rw [← hLL, Nat.add_assoc, rep_set2, rep_set2] at hb15;exact hb15
  show l.length - (i + 1) < l.length - i; omega
 have hiX2 : i = l.length := by omega
 subst hiX2;refine CW.exit ?_;refine kh5 (Sr fun _ kh20 => zm rfl (za rfl (zz (kh20 ?_))));refine zr (zr1 rfl rfl ?_);refine ⟨_, NU.of_block hb15 (W_append.2 ⟨W_replicate _, hWL⟩) (by simp; omega) (by simp; omega) (Nat.le_refl _), ?_, hch⟩;rw [val_zeros2, hAd.done, Nat.mul_assoc, ← Nat.pow_add, show s + 32 * p = k by omega]

end

/- Rounding to numbers of 64 bits: what it is, and that it is one. No condition. -/
namespace Wd

def nz (k : Nat) : Nat := if k < 4503599627370496 then k else (4503599627370496 + k % 4503599627370496) * 2 ^ (k / 4503599627370496 - 1)
theorem nz_form {n x : Nat} (h : n ≤ 9007199254740992) (hx : x = 0 ∨ 4503599627370496 ≤ n) : nz (n + x * 4503599627370496) = n * 2 ^ x := by
  unfold nz
  by_cases h1 : n + x * 4503599627370496 < 4503599627370496
  · rw [if_pos h1]
    have : x = 0 := by omega
    subst this; simp
  · rw [if_neg h1]
    by_cases h2 : n = 9007199254740992
    · subst h2
      rw [show (9007199254740992 + x * 4503599627370496) % 4503599627370496 = 0 by omega, show (9007199254740992 + x * 4503599627370496) / 4503599627370496 - 1 = x + 1 by omega, Nat.pow_succ]
      omega
    · rw [show (n + x * 4503599627370496) / 4503599627370496 - 1 = x by omega, show 4503599627370496 + (n + x * 4503599627370496) % 4503599627370496 = n by omega]
theorem nz_split (k : Nat) : ∃ n x, k = n + x * 4503599627370496 ∧ n < 9007199254740992 ∧ (x = 0 ∨ 4503599627370496 ≤ n) := by
  by_cases h : k < 4503599627370496
  · exact ⟨k, 0, by omega, by omega, .inl rfl⟩
  · exact ⟨4503599627370496 + k % 4503599627370496, k / 4503599627370496 - 1, by omega, by omega, .inr (by omega)⟩
theorem nz_succ {n x : Nat} (h : n < 9007199254740992) (hx : x = 0 ∨ 4503599627370496 ≤ n) : nz (n + x * 4503599627370496 + 1) = (n + 1) * 2 ^ x := by
  rw [show n + x * 4503599627370496 + 1 = (n + 1) + x * 4503599627370496 by omega]
  exact nz_form (by omega) (by omega)
theorem nz_lt_succ (k : Nat) : nz k < nz (k + 1) := by
  obtain ⟨n, x, rfl, h1, h2⟩ := nz_split k
  rw [nz_form (by omega) h2, nz_succ h1 h2]
  exact Nat.mul_lt_mul_of_pos_right (Nat.lt_succ_self n) (Nat.two_pow_pos x)
theorem nz_mono {a b : Nat} (h : a < b) : nz a < nz b := by
  induction b with
  | zero => omega
  | succ b ih =>
    by_cases e : a = b
    · subst e; exact nz_lt_succ a
    · exact Nat.lt_trans (ih (by omega)) (nz_lt_succ b)
theorem nz_le {a b : Nat} (h : a ≤ b) : nz a ≤ nz b := by
  rcases Nat.lt_or_eq_of_le h with h | rfl
  · exact Nat.le_of_lt (nz_mono h)
  · exact Nat.le_refl _
def upM (mode : Int) (neg : Bool) (k A M : Nat) : Bool :=
  if mode = 0 then decide (M < A) || (decide (M = A) && decide (k % 2 = 1))
  else if mode = 2 then !neg
  else if mode = 3 then neg
  else if mode = 4 then decide (M ≤ A)
  else false
def IsNear (A B : Nat) (neg : Bool) (mode : Int) (r : Nat) : Prop :=
  ∃ k, k < 9218868437227405312 ∧ 2 * nz k * B ≤ A ∧ (A < 2 * nz (k + 1) * B ∨ k + 1 = 9218868437227405312) ∧
    r = if 2 * nz k * B = A then k else if upM mode neg k A ((nz k + nz (k + 1)) * B) then k + 1 else k
theorem IsNear.unique {A B : Nat} {neg : Bool} {mode : Int} {r r' : Nat} (hB : 0 < B) (h : IsNear A B neg mode r) (h' : IsNear A B neg mode r') : r = r' := by
  obtain ⟨k, k1, k2, k3, rfl⟩ := h
  obtain ⟨l, l1, l2, l3, rfl⟩ := h'
  have key : ∀ a b, 2 * nz a * B ≤ A → (A < 2 * nz (b + 1) * B ∨ b + 1 = 9218868437227405312) → a < 9218868437227405312 → a ≤ b := by
    intro a b h1 h2 h3
    rcases h2 with h2 | h2
    · apply Nat.le_of_not_lt
      intro hlt
      have := nz_le (show b + 1 ≤ a by omega)
      have h4 : 2 * nz (b + 1) * B ≤ 2 * nz a * B := Nat.mul_le_mul_right _ (by omega)
      omega
    · omega
  have e : k = l := Nat.le_antisymm (key k l k2 l3 k1) (key l k l2 k3 l1)
  subst e; rfl
theorem le_scale {a b u v S T : Nat} (hS : 0 < S) (hT : 0 < T) (ha : a * S = u * T) (hb : b * S = v * T) : (a ≤ b ↔ u ≤ v) ∧ (b ≤ a ↔ v ≤ u) := by
  have key : ∀ {a b u v : Nat}, a * S = u * T → b * S = v * T → (a ≤ b ↔ u ≤ v) := by
    intro a b u v ha hb
    constructor
    · intro h
      have h1 := Nat.mul_le_mul_right S h
      rw [ha, hb] at h1
      exact Nat.le_of_mul_le_mul_right h1 hT
    · intro h
      have h1 := Nat.mul_le_mul_right T h
      rw [← ha, ← hb] at h1
      exact Nat.le_of_mul_le_mul_right h1 hS
  exact ⟨key ha hb, key hb ha⟩
theorem IsNear.congr {A B A' B' : Nat} {neg : Bool} {mode : Int} {r : Nat} (hB : 0 < B) (hB' : 0 < B') (hv : A * B' = A' * B) (h : IsNear A B neg mode r) : IsNear A' B' neg mode r := by
  have cmp : ∀ c, (c * B ≤ A ↔ c * B' ≤ A') ∧ (A ≤ c * B ↔ A' ≤ c * B') := fun c =>
    le_scale (S := B') (T := B) hB' hB (by rw [Nat.mul_right_comm]) hv
  obtain ⟨k, h1, h2, h3, rfl⟩ := h
  have c1 := cmp (2 * nz k)
  have c2 := cmp (2 * nz (k + 1))
  have c3 := cmp (nz k + nz (k + 1))
  have q1 : 2 * nz k * B = A ↔ 2 * nz k * B' = A' := by omega
  have u : upM mode neg k A ((nz k + nz (k + 1)) * B) = upM mode neg k A' ((nz k + nz (k + 1)) * B') := by
    unfold upM
    generalize (nz k + nz (k + 1)) * B = M at *
    generalize (nz k + nz (k + 1)) * B' = M' at *
    have d1 : decide (M < A) = decide (M' < A') := decide_eq_decide.2 (by omega)
    have d2 : decide (M = A) = decide (M' = A') := decide_eq_decide.2 (by omega)
    have d3 : decide (M ≤ A) = decide (M' ≤ A') := decide_eq_decide.2 (by omega)
    rw [d1, d2, d3]
  refine ⟨k, h1, c1.1.1 h2, h3.imp (fun h => by omega) id, ?_⟩
  rw [u]
  by_cases hq : 2 * nz k * B = A
  · rw [if_pos hq, if_pos (q1.1 hq)]
  · rw [if_neg hq, if_neg (fun hh => hq (q1.2 hh))]
def dyA (m : Nat) (e : Int) : Nat := m * 2 ^ (e + 1075).toNat
def dyB (e : Int) : Nat := 2 ^ (-(e + 1075)).toNat
theorem dyB_pos (e : Int) : 0 < dyB e := Nat.two_pow_pos _
theorem dy_scale {m : Nat} {e : Int} {cut t : Nat} (h : e + 1075 = (t : Int) - (cut : Int)) : dyA m e * 2 ^ cut = m * 2 ^ t * dyB e := by
  unfold dyA dyB
  by_cases hc : cut ≤ t
  · rw [show (e + 1075).toNat = t - cut by omega, show (-(e + 1075)).toNat = 0 by omega, Nat.mul_assoc, ← Nat.pow_add, show t - cut + cut = t by omega, Nat.pow_zero, Nat.mul_one]
  · rw [show (e + 1075).toNat = 0 by omega, show (-(e + 1075)).toNat = cut - t by omega, Nat.pow_zero, Nat.mul_one, Nat.mul_assoc, ← Nat.pow_add, show t + (cut - t) = cut by omega]
theorem near_zero {B : Nat} (hB : 0 < B) (neg : Bool) (mode : Int) : IsNear 0 B neg mode 0 := by
  refine ⟨0, by omega, by simp [nz], .inl ?_, by simp [nz]⟩
  have : nz (0 + 1) = 1 := by decide
  rw [this]; omega
theorem near_exact {m n x : Nat} {e : Int} {neg : Bool} {mode : Int} (h : n < 9007199254740992) (hx : x = 0 ∨ 4503599627370496 ≤ n) (hk : n + x * 4503599627370496 < 9218868437227405312) {c : Nat} (hn : n = m * 2 ^ c) (he : e + 1075 = (x : Int) + 1 + (c : Int)) : IsNear (dyA m e) (dyB e) neg mode (n + x * 4503599627370496) := by
  have hA : dyA m e = 2 * (n * 2 ^ x) * dyB e := by
    unfold dyA dyB
    rw [show (e + 1075).toNat = c + (x + 1) by omega, show (-(e + 1075)).toNat = 0 by omega, hn, Nat.pow_add, Nat.pow_succ, Nat.pow_zero, Nat.mul_one]
    simp only [Nat.mul_comm, Nat.mul_left_comm, Nat.mul_assoc]
  have h1 := nz_form (n := n) (x := x) (by omega) hx
  refine ⟨n + x * 4503599627370496, hk, by rw [h1, hA]; exact Nat.le_refl _, .inl ?_, ?_⟩
  · rw [nz_succ h hx, hA]
    have hp := Nat.mul_pos (Nat.two_pow_pos x) (dyB_pos e)
    have : 2 * ((n + 1) * 2 ^ x) * dyB e = 2 * (n * 2 ^ x) * dyB e + 2 * (2 ^ x * dyB e) := by
      rw [Nat.add_mul n 1, Nat.one_mul, Nat.mul_add, Nat.add_mul, Nat.mul_assoc 2 (2 ^ x)]
    omega
  · rw [h1, if_pos hA.symm]
theorem near_cut {m n x cut : Nat} {e : Int} {neg half : Bool} {mode : Int} {up : Bool} (h : n < 9007199254740992) (hx : x = 0 ∨ 4503599627370496 ≤ n) (hk : n + x * 4503599627370496 < 9218868437227405312) (hc : 0 < cut) (hm : m % 2 = 1) (hn : n = m / 2 ^ cut) (he : e + 1075 = (x : Int) + 1 - (cut : Int))
    (hh : half = m.testBit (cut - 1))
    (hup : up = if mode = 0 then (half && (!decide (cut = 1) || decide (n % 2 = 1))) else if mode = 4 then half else if mode = 2 then !neg else if mode = 3 then neg else false) :
    IsNear (dyA m e) (dyB e) neg mode (if up then n + 1 + x * 4503599627370496 else n + x * 4503599627370496) := by
  have hs := dy_scale (m := m) (e := e) (cut := cut) (t := x + 1) (by omega)
  have hB := dyB_pos e
  generalize hA : dyA m e = A at *
  generalize dyB e = B at *
  have hp2 := Nat.two_pow_pos cut
  have hp1 := Nat.two_pow_pos x
  have hcut : 2 ^ cut = 2 * 2 ^ (cut - 1) := by rw [show cut = cut - 1 + 1 by omega, Nat.pow_succ, Nat.mul_comm]; simp
  have hpc := Nat.two_pow_pos (cut - 1)
  -- the value by its quotient and what is left
  have hr : m = 2 ^ cut * n + m % 2 ^ cut := by rw [hn]; exact (Nat.div_add_mod m (2 ^ cut)).symm
  have hrl := Nat.mod_lt m hp2
  have hrodd : m % 2 ^ cut % 2 = 1 := by
    rw [hcut] at *
    rw [Nat.mod_mul_right_mod]; exact hm
  generalize hrr : m % 2 ^ cut = r at *
  have hbit : half = decide (2 ^ (cut - 1) ≤ r) := by
    rw [hh, Nat.testBit_eq_decide_div_mod_eq]
    refine decide_eq_decide.2 ?_
    have e1 : m / 2 ^ (cut - 1) = 2 * n + r / 2 ^ (cut - 1) := by
      conv => lhs; rw [hr, hcut, Nat.mul_comm 2, Nat.mul_assoc, Nat.mul_add_div hpc]
    rw [e1]
    have e2 : r / 2 ^ (cut - 1) < 2 := by rw [Nat.div_lt_iff_lt_mul hpc, ← hcut]; exact hrl
    have e3 := Nat.div_add_mod r (2 ^ (cut - 1))
    have e4 := Nat.mod_lt r hpc
    clear e1 hr hs hcut
    generalize r / 2 ^ (cut - 1) = d at *
    generalize r % 2 ^ (cut - 1) = f at *
    generalize 2 ^ (cut - 1) = C1 at *
    rcases (by omega : d = 0 ∨ d = 1) with q | q
    · subst q; rw [Nat.mul_zero] at e3; omega
    · subst q; rw [Nat.mul_one] at e3; omega
  have honly : (r = 2 ^ (cut - 1)) ↔ (2 ^ (cut - 1) ≤ r ∧ cut = 1) := by
    constructor
    · intro h1
      refine ⟨by omega, ?_⟩
      apply Classical.byContradiction
      intro h2
      have : 2 ^ (cut - 1) = 2 * 2 ^ (cut - 2) := by rw [show cut - 1 = cut - 2 + 1 by omega, Nat.pow_succ, Nat.mul_comm]
      rw [this] at h1
      generalize 2 ^ (cut - 2) = z at h1
      omega
    · rintro ⟨h1, rfl⟩
      simp at hrl h1 ⊢
      omega
  -- comparisons by the scale
  have f1 := nz_form (n := n) (x := x) (by omega) hx
  have f2 := nz_succ h hx
  have hpb := Nat.mul_pos hp1 hB
  have hq2 : A * 2 ^ cut = 2 * m * (2 ^ x * B) := by rw [hs, Nat.pow_succ]; simp only [Nat.mul_comm, Nat.mul_left_comm, Nat.mul_assoc]
  have g1 : 2 * nz (n + x * 4503599627370496) * B * 2 ^ cut = 2 * (2 ^ cut * n) * (2 ^ x * B) := by rw [f1]; simp only [Nat.mul_comm, Nat.mul_left_comm, Nat.mul_assoc]
  have g2 : 2 * nz (n + x * 4503599627370496 + 1) * B * 2 ^ cut = (2 * (2 ^ cut * n) + 2 * 2 ^ cut) * (2 ^ x * B) := by
    rw [f2, show 2 * (2 ^ cut * n) + 2 * 2 ^ cut = 2 * (2 ^ cut * (n + 1)) by rw [Nat.mul_add, Nat.mul_add, Nat.mul_one]]
    simp only [Nat.mul_comm, Nat.mul_left_comm, Nat.mul_assoc]
  have g3 : (nz (n + x * 4503599627370496) + nz (n + x * 4503599627370496 + 1)) * B * 2 ^ cut = (2 * (2 ^ cut * n) + 2 ^ cut) * (2 ^ x * B) := by
    rw [f1, f2, ← Nat.add_mul, show n + (n + 1) = 2 * n + 1 by omega, show 2 * (2 ^ cut * n) + 2 ^ cut = 2 ^ cut * (2 * n + 1) by rw [Nat.mul_add, Nat.mul_one, Nat.mul_left_comm]]
    simp only [Nat.mul_comm, Nat.mul_left_comm, Nat.mul_assoc]
  have c1 := le_scale hp2 hpb g1 hq2
  have c2 := le_scale hp2 hpb g2 hq2
  have c3 := le_scale hp2 hpb g3 hq2
  generalize hP : 2 * nz (n + x * 4503599627370496) * B = P at *
  generalize hQ : 2 * nz (n + x * 4503599627370496 + 1) * B = Q at *
  generalize hM : (nz (n + x * 4503599627370496) + nz (n + x * 4503599627370496 + 1)) * B = M at *
  generalize 2 ^ cut * n = y at *
  have hone : cut = 1 → r = 2 ^ (cut - 1) := fun e => by subst e; simp at hrl ⊢; omega
  generalize 2 ^ (cut - 1) = C1 at *
  generalize 2 ^ cut = C at *
  clear hh hn hs g1 g2 g3 f1 f2 hq2 hpb hp1
  have k1 : P < A := by omega
  have k2 : A < Q := by omega
  have k3 : M < A ↔ C1 < r := by omega
  have k4 : M = A ↔ C1 = r := by omega
  have k5 : M ≤ A ↔ C1 ≤ r := by omega
  refine ⟨n + x * 4503599627370496, hk, by rw [hP]; omega, .inl (by rw [hQ]; exact k2), ?_⟩
  rw [hP, hM, if_neg (show ¬ P = A by omega)]
  have hu : up = upM mode neg (n + x * 4503599627370496) A M := by
    rw [hup]
    unfold upM
    rw [decide_eq_decide.2 k3, decide_eq_decide.2 k4, decide_eq_decide.2 k5, hbit]
    by_cases m0 : mode = 0
    · rw [if_pos m0, if_pos m0]
      have e4 : (n + x * 4503599627370496) % 2 = n % 2 := by omega
      rw [e4]
      by_cases a1 : C1 < r
      · have a2 : ¬ cut = 1 := fun e => by have := hone e; omega
        rw [decide_eq_true (Nat.le_of_lt a1), decide_eq_true a1, decide_eq_false a2]; simp
      · by_cases a2 : C1 = r
        · have a3 := (honly.1 a2.symm).2
          rw [decide_eq_true (Nat.le_of_eq a2), decide_eq_false a1, decide_eq_true a2, decide_eq_true a3]; simp
        · rw [decide_eq_false (show ¬ C1 ≤ r by omega), decide_eq_false a1, decide_eq_false a2]; simp
    · rw [if_neg m0, if_neg m0]
      by_cases m4 : mode = 4
      · rw [if_pos m4, if_neg (by omega), if_neg (by omega), if_pos m4]
      · rw [if_neg m4, if_neg m4]
  rw [hu]
  split <;> omega
theorem near_beyond {m : Nat} {e : Int} {neg : Bool} {mode : Int} (h0 : m ≠ 0) (hb : 1024 < (bl m : Int) + e) (hm : 0 ≤ mode ∧ mode ≤ 4) :
    IsNear (dyA m e) (dyB e) neg mode (if mode = 1 ∨ (mode = 2 ∧ neg = true) ∨ (mode = 3 ∧ neg = false) then 9218868437227405311 else 9218868437227405312) := by
  have hbp := bl_pos h0
  obtain ⟨t, ht⟩ : ∃ t : Nat, e + 1075 = (t : Int) - ((bl m - 1 : Nat) : Int) := ⟨(e + 1075 + ((bl m - 1 : Nat) : Int)).toNat, by omega⟩
  have hs := dy_scale (m := m) ht
  have hB := dyB_pos e
  obtain ⟨T, hT⟩ : ∃ T : Nat, T = 2046 := ⟨_, rfl⟩
  have hE : nz 9218868437227405312 = 4503599627370496 * 2 ^ T := by
    have := nz_form (n := 4503599627370496) (x := T) (by omega) (.inr (by omega))
    rwa [show 4503599627370496 + T * 4503599627370496 = 9218868437227405312 by omega] at this
  have hk : 9218868437227405311 + 1 = 9218868437227405312 := by omega
  have hlt : nz 9218868437227405311 < nz 9218868437227405312 := nz_mono (by omega)
  have hA : 2 * nz 9218868437227405312 * dyB e ≤ dyA m e := by
    have h1 : 2 ^ (bl m - 1) * 2 ^ (52 + T + 1) ≤ m * 2 ^ t := Nat.mul_le_mul (bl_low h0) (Nat.pow_le_pow_right (by decide) (by omega))
    have h2 := Nat.mul_le_mul_right (dyB e) h1
    rw [← hs] at h2
    have h3 : 2 * nz 9218868437227405312 = 2 ^ (52 + T + 1) := by
      rw [hE, show (4503599627370496 : Nat) = 2 ^ 52 by decide, ← Nat.pow_add, Nat.pow_succ' (n := 52 + T)]
    rw [h3]
    have h4 : 2 ^ (52 + T + 1) * dyB e * 2 ^ (bl m - 1) ≤ dyA m e * 2 ^ (bl m - 1) := by
      rw [Nat.mul_assoc, Nat.mul_comm (dyB e), ← Nat.mul_assoc, Nat.mul_comm (2 ^ (52 + T + 1))]; exact h2
    exact Nat.le_of_mul_le_mul_right h4 (Nat.two_pow_pos _)
  generalize dyA m e = A at *
  generalize dyB e = B at *
  have h1 : 2 * nz 9218868437227405311 * B < A := Nat.lt_of_lt_of_le (Nat.mul_lt_mul_of_pos_right (by omega) hB) hA
  have h2 : (nz 9218868437227405311 + nz (9218868437227405311 + 1)) * B < A := Nat.lt_of_lt_of_le (Nat.mul_lt_mul_of_pos_right (by rw [hk]; omega) hB) hA
  refine ⟨9218868437227405311, by omega, Nat.le_of_lt h1, .inr hk, ?_⟩
  rw [if_neg (Nat.ne_of_lt h1)]
  generalize (nz 9218868437227405311 + nz (9218868437227405311 + 1)) * B = M at *
  unfold upM
  rcases (by omega : mode = 0 ∨ mode = 1 ∨ mode = 2 ∨ mode = 3 ∨ mode = 4) with rfl | rfl | rfl | rfl | rfl
  · simp [h2]
  · simp
  · cases neg <;> simp
  · cases neg <;> simp
  · simp [Nat.le_of_lt h2]
end Wd

/- Package dyad: rounding. No condition. -/
section
open Go Sx Wd

def awayM (mode : Int) (neg : Bool) (n : Nat) (half only : Bool) : Bool := if mode = 0 then (half && (!only || decide (n % 2 = 1))) else if mode = 4 then half else if mode = 2 then !neg else if mode = 3 then neg else false

theorem away_spec (mode : Int) (neg : Bool) (n : Nat) (half only : Bool) (w : World) (hn : n < 18446744073709551616) : Ret Tryz.prog 270 [.int .i64 mode, .bool neg, .int .u64 (n : Int), .bool half, .bool only] w fun u w' => u = .bool (awayM mode neg n half only) ∧ w = w' := by
 refine zE5 Tryz.func270 rfl ?_;refine Sr fun _ kh1 => za rfl (zz (kh1 (zc fun _ kh3 => Sr fun _ kh4 => zm rfl (zz (kh4 (CW.block (Sr fun _ kh6 => zq rfl rfl (za rfl (zz (kh6 ?_))))))))));refine zy rfl ?_ ?_<;>intro hc1<;>try simp only [qs] at hc1
 ·refine Sr fun _ kh8 => zm rfl (zm rfl ?_);refine zb ?_ ?_<;>intro hg2<;>try simp only [qs] at hg2
  ·refine zw rfl (zm rfl (zw rfl (zT rfl (zw rfl (zm rfl ?_)))));refine zb ?_ ?_<;>intro hg3<;>try simp only [qs] at hg3
   ·refine zv rfl (zv rfl (zv rfl (zw rfl (zt rfl rfl (zt rfl rfl (za rfl (zz (kh8 ?_))))))));refine zr (zr1 rfl rfl ?_);have h0 : mode = 0 := by omega
    refine ⟨?_, rfl⟩;unfold awayM; rw [if_pos h0, hg2, hg3]; rfl
   refine zw rfl (zm rfl (zw rfl ?_));refine WL.ev (Ev.andU (b := 1) rfl rfl rfl (by simp only [IntKind.bits]; omega) (by simp only [IntKind.bits]; omega)) rfl ?_;rw [Nat.and_one_is_mod];refine zw rfl (zq rfl rfl (zw rfl (ze rfl rfl (zt rfl rfl (za rfl (zz (kh8 ?_)))))));refine zr (zr1 rfl rfl ?_);have h0 : mode = 0 := by omega
   refine ⟨?_, rfl⟩;unfold awayM; rw [if_pos h0, hg2, hg3]
   congr 1
   simp only [Bool.true_and, Bool.not_true, Bool.false_or];refine decide_eq_decide.2 ?_;omega
  refine zv rfl (zv rfl (zv rfl (zu rfl (zu rfl (zu rfl (zv rfl (ze rfl rfl (za rfl (zz (kh8 ?_))))))))));refine zr (zr1 rfl rfl ?_);have h0 : mode = 0 := by omega
  refine ⟨?_, rfl⟩;unfold awayM; rw [if_pos h0, hg2]; rfl
 refine Sr fun _ kh10 => zq rfl rfl (za rfl (zz (kh10 ?_)));refine zy rfl ?_ ?_<;>intro hc4<;>try simp only [qs] at hc4
 ·refine Sr fun _ kh12 => zm rfl (za rfl (zz (kh12 ?_)));refine zr (zr1 rfl rfl ?_);refine ⟨?_, rfl⟩;unfold awayM; rw [if_neg (by omega), if_pos (by omega)]
 refine Sr fun _ kh14 => zq rfl rfl (za rfl (zz (kh14 ?_)));refine zy rfl ?_ ?_<;>intro hc5<;>try simp only [qs] at hc5
 ·refine Sr fun _ kh16 => zm rfl (zT rfl (za rfl (zz (kh16 ?_))));refine zr (zr1 rfl rfl ?_);refine ⟨?_, rfl⟩;unfold awayM; rw [if_neg (by omega), if_neg (by omega), if_pos (by omega)]
 refine Sr fun _ kh18 => zq rfl rfl (za rfl (zz (kh18 ?_)));refine zy rfl ?_ ?_<;>intro hc6<;>try simp only [qs] at hc6
 ·refine Sr fun _ kh20 => zm rfl (za rfl (zz (kh20 ?_)));refine zr (zr1 rfl rfl ?_);refine ⟨?_, rfl⟩;unfold awayM; rw [if_neg (by omega), if_neg (by omega), if_neg (by omega), if_pos (by omega)]
 refine zkk (kh3 (Sr fun _ kh22 => za rfl (zz (kh22 ?_))));refine zr (zr1 rfl rfl ?_);refine ⟨?_, rfl⟩;unfold awayM; rw [if_neg (by omega), if_neg (by omega), if_neg (by omega), if_neg (by omega)]

theorem on_fits {m : Nat} {e ex : Int} {c : Nat} (h0 : m ≠ 0) (hex : max ((bl m : Int) + e - 53) (-1074) = ex) (ht : (bl m : Int) + e ≤ 1024) (hc : (c : Int) = e - ex) : m * 2 ^ c < 9007199254740992 ∧ ((ex + 1074).toNat = 0 ∨ 4503599627370496 ≤ m * 2 ^ c) ∧ m * 2 ^ c + (ex + 1074).toNat * 4503599627370496 < 9218868437227405312 := by
  have hb := bl_mul_pow h0 c
  have h1 : m * 2 ^ c < 9007199254740992 := bl_le.1 (show bl (m * 2 ^ c) ≤ 53 by omega)
  refine ⟨h1, ?_, by omega⟩
  by_cases hx : ex = -1074
  · left; omega
  · right
    exact lt_bl.1 (show 52 < bl (m * 2 ^ c) by omega)
theorem on_cuts {m : Nat} {e ex : Int} {c : Nat} (h0 : m ≠ 0) (hex : max ((bl m : Int) + e - 53) (-1074) = ex) (ht : (bl m : Int) + e ≤ 1024) (hc : (c : Int) = ex - e) : m / 2 ^ c < 9007199254740992 ∧ ((ex + 1074).toNat = 0 ∨ 4503599627370496 ≤ m / 2 ^ c) ∧ m / 2 ^ c + (ex + 1074).toNat * 4503599627370496 < 9218868437227405312 := by
  have h1 : m / 2 ^ c < 9007199254740992 := by
    rw [Nat.div_lt_iff_lt_mul (Nat.two_pow_pos c), show (9007199254740992 : Nat) = 2 ^ 53 by decide, ← Nat.pow_add]
    exact bl_le.1 (by omega)
  refine ⟨h1, ?_, by omega⟩
  by_cases hx : ex = -1074
  · left; omega
  · right
    rw [Nat.le_div_iff_mul_le (Nat.two_pow_pos c), show (4503599627370496 : Nat) = 2 ^ 52 by decide, ← Nat.pow_add]
    exact lt_bl.1 (by omega)

theorem beyond_spec (neg : Bool) (mode : Int) (w : World) : Ret Tryz.prog 268 [.agg [.int .i64 53, .int .i64 (-1074), .int .u64 9218868437227405312].toArray, .bool neg, .int .i64 mode] w fun u w' => u = .int .u64 (((if mode = 1 ∨ (mode = 2 ∧ neg = true) ∨ (mode = 3 ∧ neg = false) then 9218868437227405311 else 9218868437227405312) : Nat) : Int) ∧ Chg [] w w' := by
 have hch := crf w;refine zE3 Tryz.func268 rfl ?_;refine Sr fun _ kh1 => ?_;refine WL.boxB rfl rfl rfl fun b3 wm3 hb3 hcm3 hge3 => ?_;have hgehch3 := Nat.le_trans hch.size hge3;have hch := hch.trans hcm3;refine za rfl (zz (kh1 (zc fun _ kh3 => ?_)));refine CW.seqM 23 (decide (mode = 1 ∨ (mode = 2 ∧ neg = true) ∨ (mode = 3 ∧ neg = false))) ?_ ?_
 ·refine zS fun _ kr4 => zm rfl (zq rfl rfl (zm rfl ?_));refine zb ?_ ?_<;>intro hg1<;>try simp only [qs] at hg1
  ·refine zv rfl (zv rfl (zv rfl (zu rfl (zv rfl (zt rfl rfl (zm rfl (zv rfl (zv rfl (zv rfl (zu rfl (zu rfl (zv rfl (zt rfl rfl (zz (kr4 ?_)))))))))))))));refine ⟨rfl, rfl, Subs.consB rfl ?_ ?_⟩
   ·first | (simp; omega) | (cases neg <;> simp_all <;> omega) | (refine decide_eq_decide.2 ?_; omega) | (cases neg <;> simp_all)
   exact SMg
  refine zw rfl (zm rfl (zw rfl (zq rfl rfl (zw rfl (zm rfl ?_)))));refine zb ?_ ?_<;>intro hg2<;>try simp only [qs] at hg2
  ·refine zw rfl (zm rfl (zw rfl (zt rfl rfl (ze rfl rfl (zm rfl ?_)))));refine zb ?_ ?_<;>intro hg3<;>try simp only [qs] at hg3
   ·refine zv rfl (zv rfl (zv rfl (zu rfl (zu rfl (zv rfl (zt rfl rfl (zz (kr4 ?_))))))));refine ⟨rfl, rfl, Subs.consB rfl ?_ ?_⟩
    ·first | (simp; omega) | (cases neg <;> simp_all <;> omega) | (refine decide_eq_decide.2 ?_; omega) | (cases neg <;> simp_all)
    exact SMg
   refine zw rfl (zm rfl (zw rfl (zq rfl rfl (zw rfl (zm rfl ?_)))));refine zb ?_ ?_<;>intro hg4<;>try simp only [qs] at hg4
   ·refine zw rfl (zm rfl (zw rfl (zT rfl (zw rfl (zt rfl rfl (ze rfl rfl (zz (kr4 ?_))))))));refine ⟨rfl, rfl, Subs.consB rfl ?_ ?_⟩
    ·first | (simp; omega) | (cases neg <;> simp_all <;> omega) | (refine decide_eq_decide.2 ?_; omega) | (cases neg <;> simp_all)
    exact SMg
   refine zv rfl (zv rfl (zw rfl (ze rfl rfl (ze rfl rfl (zz (kr4 ?_))))));refine ⟨rfl, rfl, Subs.consB rfl ?_ ?_⟩
   ·first | (simp; omega) | (cases neg <;> simp_all <;> omega) | (refine decide_eq_decide.2 ?_; omega) | (cases neg <;> simp_all)
   exact SMg
  refine zv rfl (zw rfl (ze rfl rfl (ze rfl rfl (zm rfl (zw rfl (zm rfl (zw rfl (zq rfl rfl (zw rfl (zm rfl ?_))))))))));refine zb ?_ ?_<;>intro hg5<;>try simp only [qs] at hg5
  ·refine zw rfl (zm rfl (zw rfl (zT rfl (zw rfl (zt rfl rfl (ze rfl rfl (zz (kr4 ?_))))))));refine ⟨rfl, rfl, Subs.consB rfl ?_ ?_⟩
   ·first | (simp; omega) | (cases neg <;> simp_all <;> omega) | (refine decide_eq_decide.2 ?_; omega) | (cases neg <;> simp_all)
   exact SMg
  refine zv rfl (zv rfl (zw rfl (ze rfl rfl (ze rfl rfl (zz (kr4 ?_))))));refine ⟨rfl, rfl, Subs.consB rfl ?_ ?_⟩
  ·first | (simp; omega) | (cases neg <;> simp_all <;> omega) | (refine decide_eq_decide.2 ?_; omega) | (cases neg <;> simp_all)
  exact SMg
 refine zy rfl ?_ ?_<;>intro hc6<;>try simp only [qs] at hc6
 ·refine Sr fun _ kh5 => zf rfl (zl hb3 rfl rfl ?_);refine WL.ev (Ev.sub64In (a := 9218868437227405312) (b := 1) rfl rfl (by omega) (by omega)) rfl ?_
  refine za rfl (zz (kh5 ?_));refine zr (zr1 rfl rfl ?_);rw [if_pos hc6];exact ⟨rfl, hch⟩
 refine zkk (kh3 (Sr fun _ kh7 => zf rfl (zl hb3 rfl rfl (za rfl (zz (kh7 ?_))))));refine zr (zr1 rfl rfl ?_);rw [if_neg hc6];exact ⟨rfl, hch⟩

end

/- Package dyad: on, told, Round. No condition. -/
section
open Go Sx Wd

theorem on_spec (neg : Bool) (v : Value) (m : Nat) (e mode : Int) (w : World) (hv : NU w v (wd m)) (hok : (Dy.mk neg m e).ok) (hm : 0 ≤ mode ∧ mode ≤ 4) : Ret Tryz.prog 187 [.agg [.int .i64 53, .int .i64 (-1074), .int .u64 9218868437227405312].toArray, .agg [.bool neg, v, .int .i64 e].toArray, .int .i64 mode] w fun u w' => ∃ r : Nat, u = .int .u64 (r : Int) ∧ IsNear (dyA m e) (dyB e) neg mode r ∧ r ≤ 9218868437227405312 ∧ Chg [] w w' := by
 have hch := crf w;have hov := hv.one;have he : -1048576 ≤ e ∧ e ≤ 1048576 := hok.e;have hl : (wd m).length ≤ 8192 := hok.len;have hbz := bl_eq_zero (n := m);have hbl : bl m ≤ 262144 := bl_words.2 hl;refine zE3 Tryz.func187 rfl ?_;refine Sr fun _ kh1 => ?_;refine WL.boxB rfl rfl rfl fun b3 wm3 hb3 hcm3 hge3 => ?_;have hgehch3 := Nat.le_trans hch.size hge3;have hch := hch.trans hcm3;have hv := hv.keep0 hcm3;refine WL.boxB rfl rfl rfl fun b4 wm4 hb4 hcm4 hge4 => ?_;have hgehch4 := Nat.le_trans hch.size hge4;have hch := hch.trans hcm4;have hv := hv.keep0 hcm4;have hneb34 := zdd hb3.lt hge4;have hb3 := hb3.k0 hcm4;refine za rfl (zz (kh1 (Sr fun _ kh3 => zf rfl (zl hb4 rfl rfl ?_))));refine WL.call hasF184 rfl rfl (Len_spec _ _ _ hv) fun v w1 h' => ?_;obtain ⟨rfl, rfl⟩ := h';rw [val_wd];refine za rfl (zz (kh3 (zc fun _ kh5 => Sr fun _ kh6 => zm rfl (zq rfl rfl (zz (kh6 ?_))))));refine zy rfl ?_ ?_<;>intro hc1<;>try simp only [qs] at hc1
 ·refine Sr fun _ kh8 => za rfl (zz (kh8 ?_));refine zr (zr1 rfl rfl ?_);have h0 : m = 0 := by omega
  subst h0;exact ⟨0, rfl, by unfold dyA; rw [Nat.zero_mul]; exact near_zero (dyB_pos e) neg mode, by omega, hch⟩
 have h0 : m ≠ 0 := by omega
 refine zkk (kh5 (zc fun _ kh10 => ?_));refine CW.regionSC hmix (by kernel_rfl) fun kR11 kr11 hdr => ?_;have hch := hch.trans hdr;have hb3 := hb3.k0 hdr;have hb4 := hb4.k0 hdr;have hv := hv.keep0 hdr;refine yf rfl ?_;refine WS.ev (Ev.load rfl rfl (hb3.at_ rfl)) rfl ?_;refine yf rfl ?_;refine WS.ev (Ev.load rfl rfl (hb3.at_ rfl)) rfl ?_;refine yf rfl ?_;refine WS.ev (Ev.load rfl rfl (hb3.at_ rfl)) rfl ?_
 first | refine WS.ev (Ev.subIn rfl rfl (by omega)) rfl ?_ | refine WS.ev (Ev.sub rfl rfl) rfl ?_
 refine WS.ev (Ev.shrU (a := 9218868437227405312) (b := 52) rfl rfl (by decide)) rfl ?_;refine WS.ev (Ev.convIn rfl rfl (in_i64 (by omega))) rfl ?_
 first | refine WS.ev (Ev.addIn rfl rfl (by omega)) rfl ?_ | refine WS.ev (Ev.add rfl rfl) rfl ?_
 first | refine WS.ev (Ev.subIn rfl rfl (by omega)) rfl ?_ | refine WS.ev (Ev.sub rfl rfl) rfl ?_
 refine yf rfl ?_;refine WS.ev (Ev.load rfl rfl (hb3.at_ rfl)) rfl ?_
 first | refine WS.ev (Ev.addIn rfl rfl (by omega)) rfl ?_ | refine WS.ev (Ev.add rfl rfl) rfl ?_
 refine WS.ev (Ev.subIn rfl rfl (by omega)) rfl ?_;rw [show (-1074 : Int) + ((9218868437227405312 / 2 ^ 52 : Nat) : Int) - 1 + 53 - 1 = 1024 by omega];refine ya rfl ?_;refine WS.nil (kr11 _ _ ?_);refine kh10 (Sr fun _ kh12 => zm rfl (zf rfl (zl hb4 rfl rfl ?_)));(first | refine zi rfl rfl ?_ | refine zo rfl rfl ?_);refine zf rfl (zl hb3 rfl rfl ?_)
 first | refine WL.ev (Ev.subIn rfl rfl (by omega)) rfl ?_ | refine WL.ev (Ev.sub rfl rfl) rfl ?_
 refine zf rfl (zl hb3 rfl rfl ?_);refine WL.ev (Ev.maxI rfl rfl) rfl ?_;generalize hex : max ((bl m : Int) + e - 53) (-1074) = ex;refine za rfl (zz (kh12 (zc fun _ kh14 => Sr fun _ kh15 => zm rfl (zf rfl (zl hb4 rfl rfl ?_)))));(first | refine zi rfl rfl ?_ | refine zo rfl rfl ?_);refine zm rfl (zG rfl rfl (zz (kh15 ?_)));refine zy rfl ?_ ?_<;>intro hc2<;>try simp only [qs] at hc2
 ·refine Sr fun _ kh17 => zg hb3 rfl (zf rfl (zl hb4 rfl rfl (zm rfl ?_)));refine WL.call hasF268 rfl rfl (beyond_spec neg mode _) fun v w2 h' => ?_
  obtain ⟨rfl, hC54⟩ := h';have hch := hch.trans hC54;refine za rfl (zz (kh17 ?_));refine zr (zr1 rfl rfl ?_);exact ⟨_, rfl, near_beyond h0 (by omega) hm, by split <;> omega, hch⟩
 refine zkk (kh14 (Sr fun _ kh19 => zm rfl (zf rfl (zl hb4 rfl rfl ?_))))
 first | refine WL.ev (Ev.subIn rfl rfl (by omega)) rfl ?_ | refine WL.ev (Ev.sub rfl rfl) rfl ?_
 refine za rfl (zz (kh19 (Sr fun _ kh21 => za rfl (zz (kh21 (zc fun _ kh23 => Sr fun _ kh24 => zm rfl (zQ rfl rfl (zz (kh24 ?_)))))))));refine zy rfl ?_ ?_<;>intro hc3<;>try simp only [qs] at hc3
 ·obtain ⟨c, hcc⟩ : ∃ c : Nat, (c : Int) = e - ex := ⟨(e - ex).toNat, by omega⟩
  obtain ⟨f1, f2, f3⟩ := on_fits h0 hex (by omega) hcc;have hm64 : m < 18446744073709551616 := Nat.lt_of_le_of_lt (Nat.le_mul_of_pos_right m (Nat.two_pow_pos c)) (by omega);have hd15 : decide (0 < ex - e) = false := decide_eq_false (by omega);refine Sr fun _ kh26 => zf rfl (zl hb4 rfl rfl ?_);refine WL.call hasF269 rfl rfl (Small_spec _ _ _ hv) fun v w3 h' => ?_;obtain ⟨rfl, rfl⟩ := h';rw [val_wd, if_pos hm64, if_pos hm64];refine zm rfl (zx rfl rfl (zx rfl rfl (za rfl (zz (kh26 ?_)))));refine zR fun _ kr28 => ?_;refine zm rfl (zm rfl ?_);refine WL.ev (Ev.negIn rfl (by omega)) rfl ?_;rw [show -(ex - e) = ((c : Nat) : Int) by omega];refine WL.ev (Ev.shlU64 rfl rfl) rfl ?_;rw [Nat.mod_eq_of_lt (show m * 2 ^ c < 18446744073709551616 by omega)];refine za rfl ?_;refine WL.nil (kr28 _ _ _ (kh23 ?_));refine zc fun _ kh29 => zc fun _ kh30 => ?_;refine CW.regionSC hmix (by kernel_rfl) fun kR31 kr31 hdr => ?_;have hch := hch.trans hdr;have hb3 := hb3.k0 hdr;refine ym rfl ?_;refine WS.ev (Ev.gtr rfl rfl) rfl ?_;refine ym rfl ?_;refine WS.pass rfl rfl rfl (by rw [hd15]; rfl) rfl ?_;refine WS.pass rfl rfl rfl (by rw [hd15]; rfl) rfl ?_;refine WS.pass rfl rfl rfl (by rw [hd15]; rfl) rfl ?_;refine WS.pass rfl rfl rfl (by rw [hd15]; rfl) rfl ?_;refine WS.pass rfl rfl rfl (by rw [hd15]; rfl) rfl ?_;refine WS.pass rfl rfl rfl (by rw [hd15]; rfl) rfl ?_;refine WS.pass rfl rfl rfl (by rw [hd15]; rfl) rfl ?_;refine WS.pass rfl rfl rfl (by rw [hd15]; rfl) rfl ?_;refine WS.pass rfl rfl rfl (by rw [hd15]; rfl) rfl ?_;refine WS.pass rfl rfl rfl (by rw [hd15]; rfl) rfl ?_;refine WS.pass rfl rfl rfl (by rw [hd15]; rfl) rfl ?_;refine WS.pass rfl rfl rfl (by rw [hd15]; rfl) rfl ?_;refine WS.ev (Ev.pickF rfl hd15 rfl) rfl ?_;refine WS.nil (kr31 _ _ ?_);refine kh30 ?_;refine CW.condF rfl ?_;refine zkk (kh29 (Sr fun _ kh32 => zm rfl (zm rfl (zf rfl (zl hb3 rfl rfl ?_)))))
  first | refine WL.ev (Ev.subIn rfl rfl (by omega)) rfl ?_ | refine WL.ev (Ev.sub rfl rfl) rfl ?_
  refine WL.ev (Ev.conv rfl rfl) rfl ?_;rw [wrap_u64i, show (ex - -1074) % 18446744073709551616 = ((((ex + 1074).toNat) : Nat) : Int) by omega];refine zf rfl (zl hb3 rfl rfl ?_);refine WL.ev (Ev.subIn rfl rfl (by omega)) rfl ?_;rw [show (53 : Int) - 1 = ((52 : Nat) : Int) by omega];refine WL.ev (Ev.shlU64 (b := 52) rfl rfl) rfl ?_;rw [Nat.mod_eq_of_lt (show ((ex + 1074).toNat) * 2 ^ 52 < 18446744073709551616 by omega)];refine WL.ev (Ev.add64In rfl rfl (by omega)) rfl ?_;refine za rfl (zz (kh32 ?_));refine zr (zr1 rfl rfl ?_);exact ⟨_, rfl, near_exact f1 f2 f3 rfl (by omega), by omega, hch⟩
 obtain ⟨c, hcc⟩ : ∃ c : Nat, (c : Int) = ex - e := ⟨(ex - e).toNat, by omega⟩;obtain ⟨f1, f2, f3⟩ := on_cuts h0 hex (by omega) hcc;have hd15 : decide (0 < ex - e) = true := decide_eq_true (by omega);have hodd : m % 2 = 1 := hok.odd h0;refine Sr fun _ kh34 => zf rfl (zl hb4 rfl rfl (zm rfl ?_));refine WL.ev (Ev.negIn rfl (by omega)) rfl ?_;refine WL.call hasF172 rfl rfl (Shift_spec _ _ _ _ hv (by omega)) fun v w4 h' => ?_;obtain ⟨hD76, hC76⟩ := h';rw [val_wd, show -(ex - e) = -((c : Nat) : Int) by omega, shiftN_neg _ _ (by omega)] at hD76;rcases hD76 with ⟨_, rk, rfl, hNk⟩ | ⟨hno, _⟩
 rotate_left
 · exfalso; exact hno ⟨hl, .inr (by omega)⟩
 have hch := hch.trans hC76;have hb3 := hb3.k0 hC76;have hb4 := hb4.k0 hC76;have hv := hv.keep0 hC76;refine zm rfl (zx rfl rfl (zx rfl rfl (za rfl (za rfl (zz (kh34 ?_))))));refine zR fun _ kr36 => ?_;refine zm rfl ?_;refine WL.call hasF269 rfl rfl (Small_spec _ _ _ hNk) fun v w5 h' => ?_;obtain ⟨rfl, rfl⟩ := h';rw [val_wd, if_pos (by omega), if_pos (by omega)];refine zm rfl (zx rfl rfl (zx rfl rfl (za rfl ?_)));refine WL.nil (kr36 _ _ _ (kh23 ?_));refine zc fun _ kh37 => zc fun _ kh38 => ?_;refine CW.regionSC hmix (by kernel_rfl) fun kR39 kr39 hdr => ?_;have hch := hch.trans hdr;have hb3 := hb3.k0 hdr;have hb4 := hb4.k0 hdr;have hv := hv.keep0 hdr;refine ym rfl ?_;refine WS.ev (Ev.gtr rfl rfl) rfl ?_;refine ym rfl ?_;refine WS.want rfl rfl rfl (by rw [hd15]; rfl) ?_;refine ym rfl ?_;refine WS.want rfl rfl rfl (by rw [hd15]; rfl) ?_;refine yf rfl ?_;refine WS.want rfl rfl rfl (by rw [hd15]; rfl) ?_;refine WS.ev (Ev.load rfl rfl (hb4.at_ rfl)) rfl ?_;refine WS.want rfl rfl rfl (by rw [hd15]; rfl) ?_;refine ym rfl ?_;refine WS.want rfl rfl rfl (by rw [hd15]; rfl) ?_;refine yf rfl ?_;refine WS.want rfl rfl rfl (by rw [hd15]; rfl) ?_;refine WS.ev (Ev.load rfl rfl (hb4.at_ rfl)) rfl ?_;refine WS.want rfl rfl rfl (by rw [hd15]; rfl) ?_;refine ym rfl ?_;refine WS.want rfl rfl rfl (by rw [hd15]; rfl) ?_
 first | refine WS.ev (Ev.subIn rfl rfl (by omega)) rfl ?_ | refine WS.ev (Ev.sub rfl rfl) rfl ?_
 refine WS.want rfl rfl rfl (by rw [hd15]; rfl) ?_;refine WS.call hasF271 rfl rfl (Bit_spec _ _ _ _ hv (by omega)) ?_;refine WS.want rfl rfl rfl (by rw [hd15]; rfl) ?_;refine ym rfl ?_;refine WS.want rfl rfl rfl (by rw [hd15]; rfl) ?_;refine WS.ev (Ev.eql rfl rfl) rfl ?_;refine WS.want rfl rfl rfl (by rw [hd15]; rfl) ?_;refine WS.call hasF270 rfl rfl (away_spec mode neg (m / 2 ^ c) _ _ _ (by omega)) ?_;refine WS.ev (Ev.pickT rfl hd15 rfl) rfl ?_;refine WS.nil (kr39 _ _ ?_);refine kh38 ?_;refine zy rfl ?_ ?_<;>intro hc4<;>try simp only [qs] at hc4
 ·rw [val_wd, decide_eq_true (show (0 : Int) ≤ ex - e - 1 by omega), Bool.true_and, show (ex - e - 1).toNat = c - 1 by omega, show decide (ex - e = 1) = decide (c = 1) from decide_eq_decide.2 (by omega)] at hc4
  have hAW := hc4;refine zR fun _ kr40 => ?_;refine zm rfl ?_;refine WL.ev (Ev.add64In (b := 1) rfl rfl (by omega)) rfl ?_;refine za rfl ?_;refine WL.nil (kr40 _ _ _ (kh37 ?_));refine Sr fun _ kh41 => zm rfl (zm rfl (zf rfl (zl hb3 rfl rfl ?_)))
  first | refine WL.ev (Ev.subIn rfl rfl (by omega)) rfl ?_ | refine WL.ev (Ev.sub rfl rfl) rfl ?_
  refine WL.ev (Ev.conv rfl rfl) rfl ?_;rw [wrap_u64i, show (ex - -1074) % 18446744073709551616 = ((((ex + 1074).toNat) : Nat) : Int) by omega];refine zf rfl (zl hb3 rfl rfl ?_);refine WL.ev (Ev.subIn rfl rfl (by omega)) rfl ?_;rw [show (53 : Int) - 1 = ((52 : Nat) : Int) by omega];refine WL.ev (Ev.shlU64 (b := 52) rfl rfl) rfl ?_;rw [Nat.mod_eq_of_lt (show ((ex + 1074).toNat) * 2 ^ 52 < 18446744073709551616 by omega)];refine WL.ev (Ev.add64In rfl rfl (by omega)) rfl ?_;refine za rfl (zz (kh41 ?_));refine zr (zr1 rfl rfl ?_);have hN := near_cut (e := e) f1 f2 f3 (neg := neg) (mode := mode) (half := m.testBit (c - 1)) (up := awayM mode neg (m / 2 ^ c) (m.testBit (c - 1)) (decide (c = 1))) (by omega) hodd rfl (by omega) rfl rfl;rw [hAW, if_pos rfl] at hN;exact ⟨_, rfl, by rw [show m / 2 ^ c + 1 + ((ex + 1074).toNat) * 2 ^ 52 = m / 2 ^ c + 1 + ((ex + 1074).toNat) * 4503599627370496 by omega]; exact hN, by omega, hch⟩
 rw [val_wd, decide_eq_true (show (0 : Int) ≤ ex - e - 1 by omega), Bool.true_and, show (ex - e - 1).toNat = c - 1 by omega, show decide (ex - e = 1) = decide (c = 1) from decide_eq_decide.2 (by omega)] at hc4;have hAW := hc4;refine zkk (kh37 (Sr fun _ kh43 => zm rfl (zm rfl (zf rfl (zl hb3 rfl rfl ?_)))))
 first | refine WL.ev (Ev.subIn rfl rfl (by omega)) rfl ?_ | refine WL.ev (Ev.sub rfl rfl) rfl ?_
 refine WL.ev (Ev.conv rfl rfl) rfl ?_;rw [wrap_u64i, show (ex - -1074) % 18446744073709551616 = ((((ex + 1074).toNat) : Nat) : Int) by omega];refine zf rfl (zl hb3 rfl rfl ?_);refine WL.ev (Ev.subIn rfl rfl (by omega)) rfl ?_;rw [show (53 : Int) - 1 = ((52 : Nat) : Int) by omega];refine WL.ev (Ev.shlU64 (b := 52) rfl rfl) rfl ?_;rw [Nat.mod_eq_of_lt (show ((ex + 1074).toNat) * 2 ^ 52 < 18446744073709551616 by omega)];refine WL.ev (Ev.add64In rfl rfl (by omega)) rfl ?_;refine za rfl (zz (kh43 ?_));refine zr (zr1 rfl rfl ?_);have hN := near_cut (e := e) f1 f2 f3 (neg := neg) (mode := mode) (half := m.testBit (c - 1)) (up := awayM mode neg (m / 2 ^ c) (m.testBit (c - 1)) (decide (c = 1))) (by omega) hodd rfl (by omega) rfl rfl;rw [hAW] at hN;exact ⟨_, rfl, hN, by omega, hch⟩

end

/- Package dyad: told, Round. No condition. -/
section
open Go Sx Wd

theorem negF {x : Nat} (h : x < 9223372036854775808) : Op.negFloat .f64 x = x + 9223372036854775808 := by
  show x ^^^ 2 ^ 63 = _
  have e1 : x ^^^ 2 ^ 63 = x ||| 2 ^ 63 := by
    apply Nat.eq_of_testBit_eq
    intro j
    rw [Nat.testBit_xor, Nat.testBit_or, Nat.testBit_two_pow]
    by_cases hj : 63 = j
    · subst hj
      rw [Nat.testBit_lt_two_pow (show x < 2 ^ 63 from h)]
      simp
    · simp [hj]
  have := or_of_mul (x := x) (y := 1) (s := 63) h
  rw [Nat.one_mul] at this
  rw [e1, this]

theorem dtold_spec (na : Bool) (va : Value) (la : List Nat) (ea mode : Int) (w : World) (ha : NU w va la) (hg : GW w) (hea : -9223372036854775808 ≤ ea ∧ ea ≤ 9223372036854775807) : Ret Tryz.prog 186 [.agg [.bool na, va, .int .i64 ea].toArray, .int .i64 mode] w fun u w' => ((¬ (0 ≤ mode ∧ mode ≤ 4) ∧ u = .tuple [.agg [.bool false, .slice none 0 0, .int .i64 0].toArray, .int .i64 1].toArray) ∨ ((0 ≤ mode ∧ mode ≤ 4) ∧ DR w' u (formD na (val la) ea))) ∧ Chg [] w w' := by
 have hch := crf w;have hoa := ha.one;refine zE2 Tryz.func186 rfl ?_;refine Sr fun _ kh1 => ?_;refine WL.boxB rfl rfl rfl fun b2 wm2 hb2 hcm2 hge2 => ?_;have hgehch2 := Nat.le_trans hch.size hge2;have hch := hch.trans hcm2;have ha := ha.keep0 hcm2;refine WL.allocB (l := [.bool false, .slice none 0 0, .int .i64 0]) rfl rfl fun b4 wm4 hb4 hcm4 hge4 => ?_;have hgehch4 := Nat.le_trans hch.size hge4;have hch := hch.trans hcm4;have ha := ha.keep0 hcm4;have hneb24 := zdd hb2.lt hge4;have hb2 := hb2.k0 hcm4;refine za rfl (zz (kh1 (zc fun _ kh3 => ?_)));refine CW.seqM 11 (decide (mode < 0 ∨ 4 < mode)) ?_ ?_
 ·refine zS fun _ kr4 => zm rfl (zL rfl rfl (zm rfl ?_));refine zb ?_ ?_<;>intro hg1<;>try simp only [qs] at hg1
  ·refine zv rfl (zv rfl (zt rfl rfl (zz (kr4 ?_))));refine ⟨rfl, rfl, Subs.consB rfl ?_ ?_⟩
   ·first | (simp; omega) | (refine decide_eq_decide.2 ?_; omega)
   exact SMg
  refine zw rfl (zm rfl (zw rfl (zG rfl rfl (ze rfl rfl (zz (kr4 ?_))))));refine ⟨rfl, rfl, Subs.consB rfl ?_ ?_⟩
  ·first | (simp; omega) | (refine decide_eq_decide.2 ?_; omega)
  exact SMg
 refine zy rfl ?_ ?_<;>intro hc2<;>try simp only [qs] at hc2
 ·refine Sr fun _ kh5 => ?_
  refine WL.ev (Ev.build (vs := _) (cs := [_, _, _]) rfl rfl) rfl ?_;refine zss rfl rfl ao hb4 rfl fun ws57 hb4_ hcs57 => ?_;(try simp only [Sx.splice, qt] at hb4_);have hch := hch.s2 hcs57;have hb4 := hb4_;refine za rfl (zz (kh5 ?_));refine zr (bodyA.retR2 rfl (RVal.cell rfl (hb4.varA rfl rfl)) (RVal.tmp rfl) ?_);exact ⟨.inl ⟨by omega, rfl⟩, hch⟩
 refine zkk (kh3 (Sr fun _ kh7 => zf rfl (zl hb2 rfl rfl (zf rfl (zl hb2 rfl rfl (zf rfl (zl hb2 rfl rfl ?_)))))));refine WL.call hasF173 rfl rfl (form_spec _ _ _ _ _ ha (hg.keep0 hch) hea) fun v w1 h' => ?_;obtain ⟨hD, hC19⟩ := h';have hch := hch.trans hC19;have hb4 := hb4.k0 hC19;rcases hD with ⟨r, d, hd, rfl, hNr⟩ | ⟨hd, rfl⟩
 ·refine zx rfl rfl (zx rfl rfl ?_);refine zss rfl rfl ao hb4 rfl fun ws58 hb4_ hcs58 => ?_;(try simp only [Sx.splice, qt] at hb4_);have hch := hch.s2 hcs58;have hNr := hNr.keepBK hb4 hcs58 an;have hb4 := hb4_;refine za rfl (zz (kh7 ?_));refine zr (bodyA.retR2 rfl (RVal.cell rfl (hb4.varA rfl rfl)) (RVal.tmp rfl) ?_);exact ⟨.inr ⟨by omega, .inl ⟨r, d, hd, rfl, hNr⟩⟩, hch⟩
 refine zx rfl rfl (zx rfl rfl ?_);refine zss rfl rfl ao hb4 rfl fun ws59 hb4_ hcs59 => ?_;(try simp only [Sx.splice, qt] at hb4_);have hch := hch.s2 hcs59;have hb4 := hb4_;refine za rfl (zz (kh7 ?_));refine zr (bodyA.retR2 rfl (RVal.cell rfl (hb4.varA rfl rfl)) (RVal.tmp rfl) ?_);exact ⟨.inr ⟨by omega, .inr ⟨hd, rfl⟩⟩, hch⟩

def RoundR (x : Option Dy) (mode : Int) (bits : Nat) (e : Int) : Prop :=
  (¬ (0 ≤ mode ∧ mode ≤ 4) ∧ bits = 0 ∧ e = 1) ∨ ((0 ≤ mode ∧ mode ≤ 4) ∧ ((x = none ∧ bits = 0 ∧ e = 2) ∨ ∃ d r, x = some d ∧ IsNear (dyA d.m d.e) (dyB d.e) d.neg mode r ∧ r ≤ 9218868437227405312 ∧ bits = (if d.neg then r + 9223372036854775808 else r) ∧ e = 0))

theorem Round_dspec (na : Bool) (va : Value) (la : List Nat) (ea mode : Int) (w : World) (ha : NU w va la) (hg : GW w) (hea : -9223372036854775808 ≤ ea ∧ ea ≤ 9223372036854775807) : Ret Tryz.prog 95 [.agg [.bool na, va, .int .i64 ea].toArray, .int .i64 mode] w fun u w' => (∃ bits e, u = .tuple [.float .f64 bits, .int .i64 e].toArray ∧ RoundR (formD na (val la) ea) mode bits e) ∧ Chg [] w w' := by
 have hch := crf w;have hoa := ha.one;refine zE2 Tryz.func95 rfl ?_;refine Sr fun _ kh1 => ?_;refine WL.boxB rfl rfl rfl fun b2 wm2 hb2 hcm2 hge2 => ?_;have hgehch2 := Nat.le_trans hch.size hge2;have hch := hch.trans hcm2;have ha := ha.keep0 hcm2;refine za rfl (za rfl (zz (kh1 (Sr fun _ kh3 => zg hb2 rfl (zm rfl ?_)))));refine WL.call hasF186 rfl rfl (dtold_spec _ _ _ _ mode _ ha (hg.keep0 hch) hea) fun v w1 h' => ?_;obtain ⟨hD, hC12⟩ := h';have hch := hch.trans hC12;rcases hD with ⟨hm, rfl⟩ | ⟨hm, ⟨r, d, hd, rfl, hNr⟩ | ⟨hd, rfl⟩⟩
 ·refine zm rfl (zx rfl rfl (zx rfl rfl ?_));refine WL.allocB (l := [.bool false, .slice none 0 0, .int .i64 0]) rfl rfl fun b6 wm6 hb6 hcm6 hge6 => ?_;have hgehch6 := Nat.le_trans hch.size hge6;have hch := hch.trans hcm6;refine zss rfl rfl ao hb6 rfl fun ws60 hb6_ hcs60 => ?_;have hch := hch.s2 hcs60;refine za rfl (zz (kh3 (zc fun _ kh5 => Sr fun _ kh6 => zm rfl (zN rfl rfl (zz (kh6 ?_))))));refine CW.condT rfl ?_;refine Sr fun _ kh8 => zm rfl (za rfl (za rfl (zz (kh8 ?_))));refine zr (zr2 rfl rfl rfl ?_);exact ⟨⟨_, _, rfl, .inl ⟨hm, rfl, rfl⟩⟩, hch⟩
 ·have hok := formD_ok hd;refine zm rfl (zx rfl rfl (zx rfl rfl ?_));refine WL.allocB (l := [.bool false, .slice none 0 0, .int .i64 0]) rfl rfl fun b6 wm6 hb6 hcm6 hge6 => ?_;have hgehch6 := Nat.le_trans hch.size hge6;have hch := hch.trans hcm6;have hNr := hNr.keep0 hcm6;refine zss rfl rfl ao hb6 rfl fun ws61 hb6_ hcs61 => ?_;(try simp only [Sx.splice, qt] at hb6_);have hch := hch.s2 hcs61;have hNr := hNr.keepBK hb6 hcs61 an;have hb6 := hb6_;refine za rfl (zz (kh3 (zc fun _ kh10 => Sr fun _ kh11 => zm rfl (zN rfl rfl (zz (kh11 ?_))))));refine CW.condF rfl ?_;refine zkk (kh10 (Sr fun _ kh13 => ?_));refine WL.ev (Ev.build (vs := _) (cs := [_, _, _]) rfl rfl) rfl ?_;refine zg hb6 rfl (zm rfl ?_);refine WL.call hasF187 rfl rfl (on_spec d.neg r d.m d.e mode _ hNr hok hm) fun v w2 h' => ?_;obtain ⟨q, rfl, hN, hq, hC21⟩ := h';have hch := hch.trans hC21;have hb6 := hb6.k0 hC21;refine WL.ev (Ev.ext rfl (ext87 _ _)) rfl ?_;rw [show ((q : Nat) : Int).toNat = q by omega];refine za rfl (zz (kh13 (zc fun _ kh15 => Sr fun _ kh16 => zf rfl (zl hb6 rfl rfl (zz (kh16 ?_))))));refine zy rfl ?_ ?_<;>intro hc1<;>try simp only [qs] at hc1
  ·have hneg := hc1
   refine zR fun _ kr18 => ?_;refine zm rfl ?_;refine WL.ev (Ev.fneg rfl) rfl ?_;rw [negF (by omega)];refine za rfl ?_;refine WL.nil (kr18 _ _ _ (kh15 ?_));refine Sr fun _ kh19 => zm rfl (za rfl (za rfl (zz (kh19 ?_))));refine zr (zr2 rfl rfl rfl ?_);exact ⟨⟨_, _, rfl, .inr ⟨hm, .inr ⟨d, q, hd, hN, hq, by rw [if_pos hneg], rfl⟩⟩⟩, hch⟩
  have hneg := hc1;refine zkk (kh15 (Sr fun _ kh21 => zm rfl (za rfl (za rfl (zz (kh21 ?_))))));refine zr (zr2 rfl rfl rfl ?_);exact ⟨⟨_, _, rfl, .inr ⟨hm, .inr ⟨d, q, hd, hN, hq, by rw [if_neg (by rw [hneg]; decide)], rfl⟩⟩⟩, hch⟩
 refine zm rfl (zx rfl rfl (zx rfl rfl ?_));refine WL.allocB (l := [.bool false, .slice none 0 0, .int .i64 0]) rfl rfl fun b6 wm6 hb6 hcm6 hge6 => ?_;have hgehch6 := Nat.le_trans hch.size hge6;have hch := hch.trans hcm6;refine zss rfl rfl ao hb6 rfl fun ws62 hb6_ hcs62 => ?_;have hch := hch.s2 hcs62;refine za rfl (zz (kh3 (zc fun _ kh23 => Sr fun _ kh24 => zm rfl (zN rfl rfl (zz (kh24 ?_))))));refine CW.condT rfl ?_;refine Sr fun _ kh26 => zm rfl (za rfl (za rfl (zz (kh26 ?_))));refine zr (zr2 rfl rfl rfl ?_);exact ⟨⟨_, _, rfl, .inr ⟨hm, .inl ⟨hd, rfl, rfl⟩⟩⟩, hch⟩

end

/- Package bits: a number's parts. No condition. -/
section
open Go Sx Wd

structure PP where
  neg : Bool
  cls : Nat
  exp : Int
  frac : Nat
def splitP (x : Nat) : PP :=
  if x / 4503599627370496 % 2048 = 2047 ∧ x % 4503599627370496 ≠ 0 then ⟨false, 4, 0, 0⟩
  else if x / 4503599627370496 % 2048 = 2047 then ⟨decide (x / 9223372036854775808 % 2 = 1), 3, 0, 0⟩
  else if 0 < x / 4503599627370496 % 2048 then ⟨decide (x / 9223372036854775808 % 2 = 1), 2, -1074 + ((x / 4503599627370496 % 2048 : Nat) : Int) - 1, x % 4503599627370496 + 4503599627370496⟩
  else if 0 < x % 4503599627370496 then ⟨decide (x / 9223372036854775808 % 2 = 1), 1, -1074, x % 4503599627370496⟩
  else ⟨decide (x / 9223372036854775808 % 2 = 1), 0, -1074, 0⟩

theorem parts_spec (x : Nat) (w : World) (hx : x < 18446744073709551616) : Ret Tryz.prog 288 [.agg [.int .i64 11, .int .i64 52, .int .i64 (-1074)].toArray, .int .u64 (x : Int)] w fun u w' => u = .agg [.bool (splitP x).neg, .int .i64 ((splitP x).cls : Int), .int .i64 (splitP x).exp, .int .u64 ((splitP x).frac : Int)].toArray ∧ Chg [] w w' := by
 have hch := crf w;refine zE2 Tryz.func288 rfl ?_;refine Sr fun _ kh1 => ?_;refine zBh rfl rfl rfl hch fun b2 wm2 hb2 hcm2 hge2 hgehch2 hch => ?_;refine WL.allocB (l := [.bool false, .int .i64 0, .int .i64 0, .int .u64 0]) rfl rfl fun b4 wm4 hb4 hcm4 hge4 => ?_;have hgehch4 := Nat.le_trans hch.size hge4;have hch := hch.ta hcm4;have hneb24 := zdd hb2.lt hge4;have hb2 := hb2.k0 hcm4;refine zz (kh1 (Sr fun _ kh3 => zm rfl (zf rfl (zl hb2 rfl rfl ?_))));refine WL.ev (Ev.shlU64 (a := 1) (b := 52) rfl rfl) rfl ?_;rw [show 1 * 2 ^ 52 % 18446744073709551616 = 4503599627370496 by omega];refine WL.ev (Ev.sub64In (b := 1) rfl rfl (by omega) (by omega)) rfl ?_;refine WL.ev (Ev.andU rfl rfl rfl (by simp only [IntKind.bits]; omega) (by simp only [IntKind.bits]; omega)) rfl ?_;rw [show x &&& (4503599627370496 - 1) = x % 4503599627370496 from Nat.and_two_pow_sub_one_eq_mod x 52];refine za rfl (zz (kh3 (zc fun _ kh5 => ?_)));refine CW.regionSC hmix (by kernel_rfl) fun kR6 kr6 hdr => ?_;have hch := hch.ta hdr;have hb2 := hb2.k0 hdr;have hb4 := hb4.k0 hdr;refine ym rfl (yf rfl ?_);refine WS.ev (Ev.load rfl rfl (hb2.at_ rfl)) rfl ?_;refine WS.ev (Ev.shrU (b := 52) rfl rfl (by simp only [IntKind.bits]; omega)) rfl ?_;rw [show x / 2 ^ 52 = x / 4503599627370496 by omega];refine WS.ev (Ev.convIn rfl rfl (in_i64 (by omega))) rfl ?_;refine yf rfl ?_;refine WS.ev (Ev.load rfl rfl (hb2.at_ rfl)) rfl ?_;refine WS.ev (Ev.shlI (a := 1) (b := 11) (c := 2048) rfl rfl (by decide) (by decide)) rfl ?_
 first | refine WS.ev (Ev.subIn rfl rfl (by omega)) rfl ?_ | refine WS.ev (Ev.sub rfl rfl) rfl ?_
 refine WS.ev (Ev.andI (b := 2047) rfl rfl (by omega) (by omega)) rfl ?_;rw [show x / 4503599627370496 &&& 2047 = x / 4503599627370496 % 2048 from Nat.and_two_pow_sub_one_eq_mod _ 11];refine ya rfl ?_;refine WS.nil (kr6 _ _ ?_);refine kh5 (Sr fun _ kh7 => zm rfl (zf rfl (zl hb2 rfl rfl (zf rfl (zl hb2 rfl rfl ?_)))));(first | refine zi rfl rfl ?_ | refine zo rfl rfl ?_);refine WL.ev (Ev.shrU (b := 63) rfl rfl (by simp only [IntKind.bits]; omega)) rfl ?_;rw [show x / 2 ^ 63 = x / 9223372036854775808 by omega];refine WL.ev (Ev.andU (b := 1) rfl rfl rfl (by simp only [IntKind.bits]; omega) (by simp only [IntKind.bits]; omega)) rfl ?_;rw [Nat.and_one_is_mod];refine zq rfl rfl ?_;have hng : decide (((x / 9223372036854775808 % 2 : Nat) : Int) = 1) = decide (x / 9223372036854775808 % 2 = 1) := decide_eq_decide.2 (by omega);rw [hng];refine za rfl (zz (kh7 (zc fun _ kh9 => CW.block ?_)));refine CW.seqM 33 (decide (x / 4503599627370496 % 2048 = 2047 ∧ x % 4503599627370496 ≠ 0)) ?_ ?_
 ·refine zS fun _ kr10 => zm rfl (zf rfl (zl hb2 rfl rfl ?_));refine WL.ev (Ev.shlI (a := 1) (b := 11) (c := 2048) rfl rfl (by decide) (by decide)) rfl ?_
  first | refine WL.ev (Ev.subIn rfl rfl (by omega)) rfl ?_ | refine WL.ev (Ev.sub rfl rfl) rfl ?_
  refine zq rfl rfl (zm rfl ?_);refine zb ?_ ?_<;>intro hg1<;>try simp only [qs] at hg1
  ·refine zw rfl (zm rfl (zw rfl (zN rfl rfl (zt rfl rfl (za rfl (zz (kr10 ?_)))))));refine ⟨rfl, rfl, Subs.consB rfl ?_ ?_⟩
   ·first | (simp; omega) | (refine decide_eq_decide.2 ?_; omega)
   exact SMg
  refine zv rfl (zv rfl (ze rfl rfl (za rfl (zz (kr10 ?_)))));refine ⟨rfl, rfl, Subs.consB rfl ?_ ?_⟩
  ·first | (simp; omega) | (refine decide_eq_decide.2 ?_; omega)
  exact SMg
 refine zy rfl ?_ ?_<;>intro hc2<;>try simp only [qs] at hc2
 ·refine Sr fun _ kh11 => ?_
  refine WL.ev (Ev.build (vs := _) (cs := [_, _, _, _]) rfl rfl) rfl ?_;refine zss rfl rfl ao hb4 rfl fun ws1 hb4_ hcs1 => ?_;(try simp only [Sx.splice, qt] at hb4_);have hch := hch.s1 hcs1;have hb4 := hb4_;refine zz (kh11 ?_);refine zr (bodyA.retR1 rfl (RVal.cell rfl (hb4.varA rfl rfl)) ?_);unfold splitP; rw [if_pos (by omega)];exact ⟨rfl, hch⟩
 refine Sr fun _ kh13 => zm rfl (zf rfl (zl hb2 rfl rfl ?_));refine WL.ev (Ev.shlI (a := 1) (b := 11) (c := 2048) rfl rfl (by decide) (by decide)) rfl ?_
 first | refine WL.ev (Ev.subIn rfl rfl (by omega)) rfl ?_ | refine WL.ev (Ev.sub rfl rfl) rfl ?_
 refine zq rfl rfl (za rfl (zz (kh13 ?_)));refine zy rfl ?_ ?_<;>intro hc3<;>try simp only [qs] at hc3
 ·refine Sr fun _ kh15 => zm rfl ?_
  refine WL.ev (Ev.build (vs := _) (cs := [_, _, _, _]) rfl rfl) rfl ?_;refine zss rfl rfl ao hb4 rfl fun ws2 hb4_ hcs2 => ?_;(try simp only [Sx.splice, qt] at hb4_);have hch := hch.s1 hcs2;have hb4 := hb4_;refine zz (kh15 ?_);refine zr (bodyA.retR1 rfl (RVal.cell rfl (hb4.varA rfl rfl)) ?_);unfold splitP; rw [if_neg (by omega), if_pos (by omega)];exact ⟨rfl, hch⟩
 refine Sr fun _ kh17 => zm rfl (zG rfl rfl (za rfl (zz (kh17 ?_))));refine zy rfl ?_ ?_<;>intro hc4<;>try simp only [qs] at hc4
 ·refine zc fun _ kh19 => ?_
  refine CW.regionKC 12 13 rfl hmix fun kR20 kr20 hS hdr => ?_;have hch := hch.ta hdr;have hb2 := hb2.k0 hdr;have hb4 := hb4.k0 hdr;have hb2_r := hb2;refine wk 0 rfl hS (eM rfl) (wk 1 rfl hS (eF rfl) (wk 2 rfl hS (fun _ hw' => Ev.load rfl rfl ((hb2_r.keep0 hw').at_ rfl)) (wk 3 rfl hS (eM rfl) (wk 4 rfl hS (fun _ _ => Ev.addIn rfl rfl (by omega)) (wk 5 rfl hS (fun _ _ => Ev.subIn rfl rfl (by omega)) (wk 6 rfl hS (eM rfl) (wk 7 rfl hS (eF rfl) (wk 8 rfl hS (fun _ hw' => Ev.load rfl rfl ((hb2_r.keep0 hw').at_ rfl)) (wk 9 rfl hS (fun _ _ => Ev.shlU64 (a := 1) (b := 52) rfl rfl) ?_)))))))));rw [show 1 * 2 ^ 52 % 18446744073709551616 = 4503599627370496 by omega];refine wk 10 rfl hS (fun _ _ => Ev.orU rfl rfl rfl (by simp only [IntKind.bits]; omega) (by simp only [IntKind.bits]; omega)) ?_;rw [show x % 4503599627370496 ||| 4503599627370496 = x % 4503599627370496 + 4503599627370496 from or_of_mul (s := 52) (y := 1) (Nat.mod_lt _ (by decide))];refine wk 11 rfl hS (fun _ _ => Ev.build (vs := _) (cs := [_, _, _, _]) rfl rfl) ?_;refine WK.storeB 12 rfl (by kernel_rfl) (by kernel_rfl) rfl rfl rfl ao hb4 (by simp) rfl fun ws3 hb4_ hcs3 => ?_;(try simp only [Sx.splice, qt] at hb4_);have hch := hch.s1 hcs3;have hb4 := hb4_;refine WK.done (by kernel_rfl) (kr20 _ _ _ ?_);refine kh19 ?_;refine zr (bodyA.retR1 rfl (RVal.cell rfl (hb4.varA rfl rfl)) ?_);unfold splitP; rw [if_neg (by omega), if_neg (by omega), if_pos (by omega)];exact ⟨rfl, hch⟩
 refine Sr fun _ kh21 => zm rfl (zG rfl rfl (za rfl (zz (kh21 ?_))));refine zy rfl ?_ ?_<;>intro hc5<;>try simp only [qs] at hc5
 ·refine Sr fun _ kh23 => zm rfl (zf rfl (zl hb2 rfl rfl (zm rfl ?_)));refine WL.ev (Ev.build (vs := _) (cs := [_, _, _, _]) rfl rfl) rfl ?_
  refine zss rfl rfl ao hb4 rfl fun ws4 hb4_ hcs4 => ?_;(try simp only [Sx.splice, qt] at hb4_);have hch := hch.s1 hcs4;have hb4 := hb4_;refine zz (kh23 ?_);refine zr (bodyA.retR1 rfl (RVal.cell rfl (hb4.varA rfl rfl)) ?_);unfold splitP; rw [if_neg (by omega), if_neg (by omega), if_neg (by omega), if_pos (by omega)];exact ⟨rfl, hch⟩
 refine zkk (kh9 (Sr fun _ kh25 => zm rfl (zf rfl (zl hb2 rfl rfl ?_))));refine WL.ev (Ev.build (vs := _) (cs := [_, _, _, _]) rfl rfl) rfl ?_;refine zss rfl rfl ao hb4 rfl fun ws5 hb4_ hcs5 => ?_;(try simp only [Sx.splice, qt] at hb4_);have hch := hch.s1 hcs5;have hb4 := hb4_;refine zz (kh25 ?_);refine zr (bodyA.retR1 rfl (RVal.cell rfl (hb4.varA rfl rfl)) ?_);unfold splitP; rw [if_neg (by omega), if_neg (by omega), if_neg (by omega), if_neg (by omega)];exact ⟨rfl, hch⟩

end

end Go.Proofs.YtnbipejaidbihaaGreatDoor