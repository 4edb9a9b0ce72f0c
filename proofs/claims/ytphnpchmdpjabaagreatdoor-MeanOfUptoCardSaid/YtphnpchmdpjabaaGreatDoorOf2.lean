/- Part 2 of what the proof rests on. No condition. -/
import Derived.Test.YtphnpchmdpjabaaGreatDoorOf1
import Derived.ArgAppend
set_option linter.unusedVariables false
set_option linter.unusedSimpArgs false
/- What the loops over words reckon: plain laws. No condition. -/
namespace Go.Proofs.YtphnpchmdpjabaaGreatDoor.Wd

theorem getD_set_self {l : List Nat} {i x : Nat} (h : i < l.length) : (l.set i x).getD i 0 = x := by
  rw [List.getD_eq_getElem?_getD, List.getElem?_set, if_pos rfl, if_pos h]; rfl
theorem getD_set_ne {l : List Nat} {i j x : Nat} (h : i ≠ j) : (l.set i x).getD j 0 = l.getD j 0 := by
  rw [List.getD_eq_getElem?_getD, List.getElem?_set, if_neg h, ← List.getD_eq_getElem?_getD]
theorem val_set {l : List Nat} {i : Nat} (h : i < l.length) (x : Nat) : val (l.set i x) + 2 ^ (32 * i) * l.getD i 0 = val l + 2 ^ (32 * i) * x := by
  induction l generalizing i with
  | nil => simp at h
  | cons y l ih =>
    cases i with
    | zero => simp [val]; omega
    | succ i =>
      have := ih (i := i) (by simpa using h)
      simp only [List.set_cons_succ, val, List.getD_cons_succ]
      rw [show 32 * (i + 1) = 32 + 32 * i by omega, Nat.pow_add, Nat.mul_assoc, Nat.mul_assoc]
      have e : (2 : Nat) ^ 32 = 4294967296 := by decide
      rw [e]; omega
theorem take_set_le {l : List Nat} {i k x : Nat} (h : k ≤ i) : (l.set i x).take k = l.take k := by
  rw [List.take_set_of_le h]
theorem val_take_succ' (l : List Nat) (i : Nat) : val (l.take (i + 1)) = val (l.take i) + 2 ^ (32 * i) * l.getD i 0 := by
  by_cases h : i < l.length
  · exact val_take_succ h
  · rw [getD_out (by omega), List.take_of_length_le (by omega), List.take_of_length_le (by omega)]; simp
theorem getD_replicate (k j : Nat) : (List.replicate k 0).getD j 0 = 0 := by
  rw [List.getD_eq_getElem?_getD, List.getElem?_replicate]; split <;> rfl
theorem two32 (i : Nat) : 2 ^ (32 * (i + 1)) = 2 ^ (32 * i) * 4294967296 := by
  rw [show 32 * (i + 1) = 32 * i + 32 by omega, Nat.pow_add]
/-- Two numbers are added, word by word. -/
structure AddI (la lb : List Nat) (i : Nat) (L : List Nat) (c : Nat) : Prop where
  le : i ≤ la.length
  len : L.length = la.length + 1
  w : W L
  c1 : c ≤ 1
  v : val (L.take i) + 2 ^ (32 * i) * c = val (la.take i) + val (lb.take i)
theorem AddI.zero {la lb L : List Nat} (hl : L.length = la.length + 1) (hw : W L) : AddI la lb 0 L 0 := ⟨Nat.zero_le _, hl, hw, by omega, by simp [val]⟩
theorem AddI.step {la lb L : List Nat} {i c : Nat} (h : AddI la lb i L c) (ha : W la) (hb : W lb) (hi : i < la.length) : AddI la lb (i + 1) (L.set i ((la.getD i 0 + lb.getD i 0 + c) % 4294967296)) ((la.getD i 0 + lb.getD i 0 + c) / 4294967296) := by
  have h1 := ha.getD i
  have h2 := hb.getD i
  have hc := h.c1
  have hl := h.len
  refine ⟨by omega, by simp [h.len], h.w.set _ (by omega), by omega, ?_⟩
  rw [val_take_succ' (L.set _ _), val_take_succ' la, val_take_succ' lb, take_set_le (Nat.le_refl _), getD_set_self (by omega), two32]
  have hv := h.v
  generalize la.getD i 0 = x at *
  generalize lb.getD i 0 = y at *
  generalize 2 ^ (32 * i) = p at *
  have e : p * ((x + y + c) % 4294967296) + p * 4294967296 * ((x + y + c) / 4294967296) = p * x + p * y + p * c := by
    rw [Nat.mul_assoc, ← Nat.mul_add, Nat.mod_add_div, Nat.mul_add, Nat.mul_add]
  omega
theorem AddI.done {la lb L : List Nat} {c : Nat} (h : AddI la lb la.length L c) (hle : lb.length ≤ la.length) : val (L.set la.length c) = val la + val lb ∧ W (L.set la.length c) ∧ (L.set la.length c).length = la.length + 1 := by
  have hl := h.len
  have hv := h.v
  rw [List.take_length, List.take_of_length_le hle] at hv
  refine ⟨?_, h.w.set _ (by have := h.c1; omega), by simp [hl]⟩
  have e : L.set la.length c = (L.set la.length c).take (la.length + 1) := by rw [List.take_of_length_le (by simp [hl])]
  rw [e, val_take_succ', take_set_le (Nat.le_refl _), getD_set_self (by omega)]
  exact hv
/-- One number is taken from another. -/
structure SubI (la lb : List Nat) (i : Nat) (L : List Nat) (c : Nat) : Prop where
  le : i ≤ la.length
  len : L.length = la.length
  w : W L
  c1 : c ≤ 1
  v : val (L.take i) + val (lb.take i) = val (la.take i) + 2 ^ (32 * i) * c
theorem SubI.zero {la lb L : List Nat} (hl : L.length = la.length) (hw : W L) : SubI la lb 0 L 0 := ⟨Nat.zero_le _, hl, hw, by omega, by simp [val]⟩
theorem SubI.step {la lb L : List Nat} {i c : Nat} (h : SubI la lb i L c) (ha : W la) (hb : W lb) (hi : i < la.length) : SubI la lb (i + 1) (L.set i ((la.getD i 0 + 8589934592 - lb.getD i 0 - c) % 4294967296)) (if la.getD i 0 < lb.getD i 0 + c then 1 else 0) := by
  have h1 := ha.getD i
  have h2 := hb.getD i
  have hc := h.c1
  have hl := h.len
  refine ⟨by omega, by simp [h.len], h.w.set _ (by omega), by split <;> omega, ?_⟩
  rw [val_take_succ' (L.set _ _), val_take_succ' la, val_take_succ' lb, take_set_le (Nat.le_refl _), getD_set_self (by omega), two32]
  have hv := h.v
  generalize la.getD i 0 = x at *
  generalize lb.getD i 0 = y at *
  generalize 2 ^ (32 * i) = p at *
  split
  · rename_i hlt
    have e : (x + 8589934592 - y - c) % 4294967296 = x + 4294967296 - y - c := by omega
    have e2 : p * (x + 4294967296 - y - c) + p * y + p * c = p * x + p * 4294967296 := by
      rw [← Nat.mul_add, ← Nat.mul_add, ← Nat.mul_add]; congr 1; omega
    rw [e]; omega
  · rename_i hlt
    have e : (x + 8589934592 - y - c) % 4294967296 = x - y - c := by omega
    have e2 : p * (x - y - c) + p * y + p * c = p * x := by
      rw [← Nat.mul_add, ← Nat.mul_add]; congr 1; omega
    rw [e]; omega
theorem SubI.done {la lb L : List Nat} {c : Nat} (h : SubI la lb la.length L c) (ha : W la) (hb : W lb) (hle : val lb ≤ val la) : val L = val la - val lb := by
  have hv := h.v
  rw [List.take_length, List.take_of_length_le (by rw [h.len]; exact Nat.le_refl _)] at hv
  have h1 : val (lb.take la.length) ≤ val lb := by
    by_cases q : la.length ≤ lb.length
    · rw [val_take hb _ q]; exact Nat.mod_le _ _
    · rw [List.take_of_length_le (by omega)]; exact Nat.le_refl _
  have h2 := val_lt h.w
  rw [h.len] at h2
  have h3 := val_lt ha
  have h4 : val (lb.take la.length) = val lb := by
    by_cases q : la.length ≤ lb.length
    · rw [val_take hb _ q, Nat.mod_eq_of_lt (by omega)]
    · rw [List.take_of_length_le (by omega)]
  have hc := h.c1
  have : c = 0 := by
    rcases (by omega : c = 0 ∨ c = 1) with rfl | rfl
    · rfl
    · omega
  subst this
  omega
/-- A number is moved up by less than a word. -/
structure UpI (l : List Nat) (s : Nat) (i : Nat) (L : List Nat) : Prop where
  le : i ≤ l.length
  len : L.length = l.length + 1
  w : W L
  lo : L.getD i 0 < 2 ^ s
  hi : ∀ j, i < j → L.getD j 0 = 0
  v : val L = val (l.take i) * 2 ^ s
theorem UpI.zero (l : List Nat) (s : Nat) : UpI l s 0 (List.replicate (l.length + 1) 0) := ⟨Nat.zero_le _, by simp, W_replicate _, by rw [getD_replicate]; exact Nat.two_pow_pos _, fun j _ => getD_replicate _ _, by rw [val_replicate]; simp [val]⟩
theorem or_of_mul {x y s : Nat} (hx : x < 2 ^ s) : x ||| (y * 2 ^ s) = x + y * 2 ^ s := by
  have := Nat.two_pow_add_eq_or_of_lt hx y
  rw [Nat.or_comm, Nat.mul_comm y, ← this, Nat.add_comm]
theorem UpI.step {l L : List Nat} {s i : Nat} (h : UpI l s i L) (hs : s < 32) (hl : W l) (hi : i < l.length) :
    L.getD i 0 ||| (l.getD i 0 * 2 ^ s % 18446744073709551616 % 4294967296) < 4294967296 ∧
    UpI l s (i + 1) ((L.set i (L.getD i 0 ||| (l.getD i 0 * 2 ^ s % 18446744073709551616 % 4294967296))).set (i + 1) (l.getD i 0 * 2 ^ s % 18446744073709551616 / 2 ^ 32 % 4294967296)) := by
  have hx := hl.getD i
  have hlen := h.len
  have hlo := h.lo
  have hp : 2 ^ s ≤ 2147483648 := by
    have := Nat.pow_le_pow_right (n := 2) (by decide) (show s ≤ 31 by omega)
    rwa [show (2 : Nat) ^ 31 = 2147483648 by decide] at this
  have hp0 := Nat.two_pow_pos s
  have hm : l.getD i 0 * 2 ^ s ≤ 4294967295 * 2 ^ s := Nat.mul_le_mul_right _ (by omega)
  have e1 : l.getD i 0 * 2 ^ s % 18446744073709551616 = l.getD i 0 * 2 ^ s := Nat.mod_eq_of_lt (by omega)
  have e5 : l.getD i 0 * 2 ^ s % 4294967296 = (l.getD i 0 % 2 ^ (32 - s)) * 2 ^ s := by
    have : (4294967296 : Nat) = 2 ^ (32 - s) * 2 ^ s := by rw [← Nat.pow_add, show 32 - s + s = 32 by omega]
    rw [this, Nat.mul_mod_mul_right]
  have e2 : L.getD i 0 ||| (l.getD i 0 * 2 ^ s % 4294967296) = L.getD i 0 + l.getD i 0 * 2 ^ s % 4294967296 := by
    rw [e5, or_of_mul hlo]
  have e3 : L.getD i 0 + l.getD i 0 * 2 ^ s % 4294967296 < 4294967296 := by
    have h1 : l.getD i 0 % 2 ^ (32 - s) + 1 ≤ 2 ^ (32 - s) := Nat.mod_lt _ (Nat.two_pow_pos _)
    have h2 := Nat.mul_le_mul_right (2 ^ s) h1
    rw [← Nat.pow_add, show 32 - s + s = 32 by omega, Nat.add_mul, Nat.one_mul] at h2
    rw [e5]
    have : (2 : Nat) ^ 32 = 4294967296 := by decide
    omega
  have e4 : l.getD i 0 * 2 ^ s / 2 ^ 32 % 4294967296 = l.getD i 0 * 2 ^ s / 4294967296 := by
    have : (2 : Nat) ^ 32 = 4294967296 := by decide
    rw [this]; omega
  rw [e1, e2, e4]
  refine ⟨e3, by omega, by simp [hlen], (h.w.set _ e3).set _ (by omega), ?_, fun j hj => ?_, ?_⟩
  · rw [getD_set_self (by simp; omega), Nat.div_lt_iff_lt_mul (by decide)]
    calc l.getD i 0 * 2 ^ s < 4294967296 * 2 ^ s := by omega
      _ = 2 ^ s * 4294967296 := Nat.mul_comm _ _
  · rw [getD_set_ne (by omega), getD_set_ne (by omega)]; exact h.hi j (by omega)
  · have v1 := val_set (l := L.set i (L.getD i 0 + l.getD i 0 * 2 ^ s % 4294967296)) (i := i + 1) (by simp; omega) (l.getD i 0 * 2 ^ s / 4294967296)
    have v2 := val_set (l := L) (i := i) (by omega) (L.getD i 0 + l.getD i 0 * 2 ^ s % 4294967296)
    rw [getD_set_ne (by omega), h.hi (i + 1) (by omega), Nat.mul_zero, Nat.add_zero] at v1
    have hv := h.v
    rw [val_take_succ' l i, Nat.add_mul, v1, two32, Nat.mul_assoc]
    rw [Nat.mul_add] at v2
    rw [Nat.mul_assoc (2 ^ (32 * i)) (l.getD i 0)]
    generalize l.getD i 0 * 2 ^ s = t at *
    generalize 2 ^ (32 * i) = p at *
    have e6 : p * (t % 4294967296) + p * (4294967296 * (t / 4294967296)) = p * t := by rw [← Nat.mul_add, Nat.mod_add_div]
    omega
theorem UpI.done {l L : List Nat} {s : Nat} (h : UpI l s l.length L) : val L = val l * 2 ^ s := by
  have := h.v
  rwa [List.take_length] at this
/-- A number is moved down by less than a word. -/
structure DownI (l : List Nat) (s : Nat) (i : Nat) (L : List Nat) : Prop where
  le : i ≤ l.length
  len : L.length = l.length
  w : W L
  v : val (L.take i) = val l / 2 ^ s % 2 ^ (32 * i)
theorem DownI.zero (l L : List Nat) (s : Nat) (hl : L.length = l.length) (hw : W L) : DownI l s 0 L := ⟨Nat.zero_le _, hl, hw, by simp [val, Nat.mod_one]⟩
theorem getD_val {l : List Nat} (h : W l) (i : Nat) : l.getD i 0 = val l / 2 ^ (32 * i) % 4294967296 := by
  by_cases hi : i < l.length
  · rw [← val_drop h i (by omega), val_drop_succ hi]
    have := h.getD i
    omega
  · rw [getD_out (by omega), Nat.div_eq_of_lt, Nat.zero_mod]
    exact Nat.lt_of_lt_of_le (val_lt h) (Nat.pow_le_pow_right (by decide) (by omega))
theorem two_words {l : List Nat} (h : W l) (i : Nat) : l.getD i 0 + l.getD (i + 1) 0 * 4294967296 = val l / 2 ^ (32 * i) % 18446744073709551616 := by
  rw [getD_val h i, getD_val h (i + 1), two32, ← Nat.div_div_eq_div_mul]
  generalize val l / 2 ^ (32 * i) = q
  omega
theorem DownI.step {l L : List Nat} {s i x : Nat} (h : DownI l s i L) (hs : s < 32) (hl : W l) (hi : i < l.length) (hx : x = (l.getD i 0 + l.getD (i + 1) 0 * 4294967296) / 2 ^ s % 4294967296) : DownI l s (i + 1) (L.set i x) := by
  have hlen := h.len
  refine ⟨by omega, by simp [hlen], h.w.set _ (by omega), ?_⟩
  rw [val_take_succ', take_set_le (Nat.le_refl _), getD_set_self (by omega), h.v, hx, two_words hl]
  have e1 : val l / 2 ^ (32 * i) % 18446744073709551616 / 2 ^ s % 4294967296 = val l / 2 ^ s / 2 ^ (32 * i) % 4294967296 := by
    rw [Nat.div_div_eq_div_mul (val l) (2 ^ s), Nat.mul_comm (2 ^ s), ← Nat.div_div_eq_div_mul]
    generalize val l / 2 ^ (32 * i) = q
    have e64 : (18446744073709551616 : Nat) = 2 ^ s * (4294967296 * 2 ^ (32 - s)) := by
      rw [Nat.mul_left_comm, ← Nat.pow_add, show s + (32 - s) = 32 by omega]
    rw [e64, Nat.mod_mul_right_div_self, Nat.mod_mul_right_mod]
  rw [e1, two32, Nat.mod_mul]
theorem DownI.done {l L : List Nat} {s : Nat} (h : DownI l s l.length L) (hl : W l) : val L = val l / 2 ^ s := by
  have := h.v
  rw [List.take_of_length_le (by rw [h.len]; exact Nat.le_refl _)] at this
  rw [this, Nat.mod_eq_of_lt (Nat.lt_of_le_of_lt (Nat.div_le_self _ _) (val_lt hl))]
/-- One row of a product. -/
structure MulJ (x : Nat) (lb : List Nat) (i : Nat) (L0 : List Nat) (j : Nat) (L : List Nat) (c : Nat) : Prop where
  le : j ≤ lb.length
  len : L.length = L0.length
  w : W L
  c1 : c < 4294967296
  hi : ∀ k, i + j ≤ k → L.getD k 0 = L0.getD k 0
  v : val L + 2 ^ (32 * (i + j)) * c = val L0 + 2 ^ (32 * i) * (x * val (lb.take j))
theorem MulJ.zero {x : Nat} {lb L0 : List Nat} {i : Nat} (hw : W L0) : MulJ x lb i L0 0 L0 0 := ⟨Nat.zero_le _, rfl, hw, by omega, fun _ _ => rfl, by simp [val]⟩
theorem MulJ.fits {x y z c : Nat} (hx : x < 4294967296) (hy : y < 4294967296) (hz : z < 4294967296) (hc : c < 4294967296) : x * y + z + c < 18446744073709551616 ∧ x * y < 18446744073709551616 ∧ x * y + z < 18446744073709551616 := by
  have : x * y ≤ 4294967295 * 4294967295 := Nat.mul_le_mul (by omega) (by omega)
  omega
theorem MulJ.step {x : Nat} {lb L0 L : List Nat} {i j c : Nat} (h : MulJ x lb i L0 j L c) (hx : x < 4294967296) (hb : W lb) (hj : j < lb.length) (hlen : i + lb.length ≤ L0.length) :
    MulJ x lb i L0 (j + 1) (L.set (i + j) ((x * lb.getD j 0 + L.getD (i + j) 0 + c) % 4294967296)) ((x * lb.getD j 0 + L.getD (i + j) 0 + c) / 4294967296) := by
  have hl := h.len
  have hf := (MulJ.fits hx (hb.getD j) (h.w.getD (i + j)) h.c1).1
  refine ⟨by omega, by simp [hl], h.w.set _ (by omega), by omega, fun k hk => ?_, ?_⟩
  · rw [getD_set_ne (by omega)]; exact h.hi k (by omega)
  · have v1 := val_set (l := L) (i := i + j) (by omega) ((x * lb.getD j 0 + L.getD (i + j) 0 + c) % 4294967296)
    have hv := h.v
    rw [show i + (j + 1) = i + j + 1 by omega, two32 (i + j), val_take_succ' lb j, Nat.mul_add x, Nat.mul_add (2 ^ (32 * i))]
    have e1 : 2 ^ (32 * i) * (x * (2 ^ (32 * j) * lb.getD j 0)) = 2 ^ (32 * (i + j)) * (x * lb.getD j 0) := by
      rw [show 32 * (i + j) = 32 * i + 32 * j by omega, Nat.pow_add, Nat.mul_assoc, Nat.mul_left_comm x]
    rw [e1]
    generalize x * lb.getD j 0 = t at *
    generalize L.getD (i + j) 0 = z at *
    generalize 2 ^ (32 * (i + j)) = p at *
    have e2 : p * ((t + z + c) % 4294967296) + p * 4294967296 * ((t + z + c) / 4294967296) = p * t + p * z + p * c := by
      rw [Nat.mul_assoc, ← Nat.mul_add, Nat.mod_add_div, Nat.mul_add, Nat.mul_add]
    omega
/-- A product. -/
structure MulI (la lb : List Nat) (i : Nat) (L : List Nat) : Prop where
  le : i ≤ la.length
  len : L.length = la.length + lb.length
  w : W L
  hi : ∀ k, i + lb.length ≤ k → L.getD k 0 = 0
  v : val L = val (la.take i) * val lb
theorem MulI.zero (la lb : List Nat) : MulI la lb 0 (List.replicate (la.length + lb.length) 0) := ⟨Nat.zero_le _, by simp, W_replicate _, fun _ _ => getD_replicate _ _, by rw [val_replicate]; simp [val]⟩
theorem MulI.step {la lb L0 L : List Nat} {i c : Nat} (h : MulI la lb i L0) (hi : i < la.length) (k : MulJ (la.getD i 0) lb i L0 lb.length L c) : MulI la lb (i + 1) (L.set (i + lb.length) c) := by
  have hl := h.len
  have hl2 := k.len
  refine ⟨by omega, by simp [hl2, hl], k.w.set _ k.c1, fun q hq => ?_, ?_⟩
  · rw [getD_set_ne (by omega), k.hi q (by omega)]; exact h.hi q (by omega)
  · have v1 := val_set (l := L) (i := i + lb.length) (by omega) c
    rw [k.hi _ (Nat.le_refl _), h.hi _ (Nat.le_refl _), Nat.mul_zero, Nat.add_zero] at v1
    have v2 := k.v
    rw [List.take_length] at v2
    rw [val_take_succ' la i, Nat.add_mul, v1, v2, h.v, Nat.mul_assoc]
theorem MulI.done {la lb L : List Nat} (h : MulI la lb la.length L) : val L = val la * val lb := by
  have := h.v
  rwa [List.take_length] at this
/-- Two numbers of like length, from the top: which is less. -/
def sgn (a b : Nat) : Int := if a < b then -1 else if b < a then 1 else 0
theorem sgn_drop {la lb : List Nat} {k : Nat} (ha : W la) (hb : W lb) (hl : la.length = lb.length) (hk : k < la.length) (he : la.drop (k + 1) = lb.drop (k + 1)) : (la.getD k 0 < lb.getD k 0 → sgn (val la) (val lb) = -1) ∧ (lb.getD k 0 < la.getD k 0 → sgn (val la) (val lb) = 1) ∧ (la.getD k 0 = lb.getD k 0 → la.drop k = lb.drop k) := by
  have h1 := val_take_drop la k (by omega)
  have h2 := val_take_drop lb k (by omega)
  have h3 := val_lt (ha.take k)
  have h4 := val_lt (hb.take k)
  rw [List.length_take, Nat.min_eq_left (by omega)] at h3 h4
  rw [val_drop_succ hk] at h1
  rw [val_drop_succ (by omega), ← he] at h2
  generalize val (la.drop (k + 1)) = r at *
  have hp := Nat.two_pow_pos (32 * k)
  refine ⟨fun h => ?_, fun h => ?_, fun h => by rw [drop_getD hk, drop_getD (l := lb) (i := k) (by omega), h, he]⟩
  · have : 2 ^ (32 * k) * (la.getD k 0 + 4294967296 * r + 1) ≤ 2 ^ (32 * k) * (lb.getD k 0 + 4294967296 * r) := Nat.mul_le_mul_left _ (by omega)
    rw [Nat.mul_add, Nat.mul_one] at this
    unfold sgn
    rw [if_pos (by omega)]
  · have : 2 ^ (32 * k) * (lb.getD k 0 + 4294967296 * r + 1) ≤ 2 ^ (32 * k) * (la.getD k 0 + 4294967296 * r) := Nat.mul_le_mul_left _ (by omega)
    rw [Nat.mul_add, Nat.mul_one] at this
    unfold sgn
    rw [if_neg (by omega), if_pos (by omega)]
theorem sgn_len {a b : Nat} : ((wd a).length < (wd b).length → sgn a b = -1) ∧ ((wd b).length < (wd a).length → sgn a b = 1) := by
  constructor
  · intro h
    have : a < b := Nat.lt_of_not_le fun hle => by have := wd_length_mono hle; omega
    unfold sgn; rw [if_pos this]
  · intro h
    have : b < a := Nat.lt_of_not_le fun hle => by have := wd_length_mono hle; omega
    unfold sgn; rw [if_neg (by omega), if_pos this]
theorem sgn_self (a : Nat) : sgn a a = 0 := by simp [sgn]
/-- The first word that is not nought. -/
theorem tz_words {l : List Nat} {i : Nat} (hw : W l) (hi : i < l.length) (hz : val (l.take i) = 0) (hx : l.getD i 0 ≠ 0) : tz (val l) = 32 * i + tz (l.getD i 0) := by
  have h1 := val_take_drop l i (by omega)
  rw [hz, Nat.zero_add, val_drop_succ hi] at h1
  have hlt := hw.getD i
  generalize l.getD i 0 = x at *
  generalize val (l.drop (i + 1)) = r at *
  obtain ⟨a, b⟩ := tz_spec hx
  have ht : tz x < 32 := Nat.lt_of_lt_of_le (tz_lt_bl hx) (bl_le.2 (by omega))
  generalize tz x = t at *
  generalize x / 2 ^ t = q at *
  have e : val l = (q + 2 ^ (32 - t) * r) * 2 ^ (32 * i + t) := by
    rw [h1, b, Nat.pow_add, Nat.add_mul, Nat.mul_add]
    have e32 : (4294967296 : Nat) = 2 ^ (32 - t) * 2 ^ t := by rw [← Nat.pow_add, show 32 - t + t = 32 by omega]
    rw [e32]
    simp only [Nat.mul_comm, Nat.mul_left_comm, Nat.mul_assoc]
  refine tz_unique e ?_
  have : 2 ^ (32 - t) = 2 * 2 ^ (31 - t) := by rw [show 32 - t = (31 - t) + 1 by omega, Nat.pow_succ, Nat.mul_comm]
  rw [this, Nat.mul_assoc]
  omega
theorem val_one {l : List Nat} (h : l.length = 1) : val l = l.getD 0 0 := by
  match l, h with
  | [x], _ => simp [val]
theorem val_two {l : List Nat} (h : l.length = 2) : val l = l.getD 0 0 + 4294967296 * l.getD 1 0 := by
  match l, h with
  | [x, y], _ => simp [val]
end Go.Proofs.YtphnpchmdpjabaaGreatDoor.Wd

/- Package wide: numbers of many words. No condition. -/
namespace Go.Proofs.YtphnpchmdpjabaaGreatDoor
open Go Sx Wd

structure K0 (l : List Nat) (w : World) (k : Nat) (wr : World) : Prop where
  le : k ≤ l.length
  vl : val (l.take k) = val l
  eq : w = wr

theorem cut_spec (v : Value) (l : List Nat) (w : World) (h : NU w v l) : Ret Tryz.prog 95 [v] w fun u w' => NU w u (wd (val l)) ∧ w = w' := by
 obtain ⟨⟨al, cl, rfl, hcapl, hrl⟩, hWl, hll⟩ := h
 have hch : Chg [] w w := Chg.refl _ _
 refine Ret.enter Tryz.func95 rfl rfl ?_
 simp only [args0, Nat.zero_add, Nat.reduceAdd]
 refine Sq fun _ kh1 _ kr2 => ?_
 refine As rfl rfl ?_
 refine WL.nil (kr2 _ _ _ (kh1 _ _ _ ?_))
 refine CW.seq fun _ kh3 => ?_
 refine CW.block ?_
 refine CW.loop (S := fun k : Nat => [(0, .slice al k cl)]) (Inv := K0 l w) (mu := fun k => k) (l.length) ?_ ?_ ?_
 ·
  exact ⟨Nat.le_refl _, by rw [List.take_length], rfl⟩
 ·
  repeat (first | exact Subs.nil | refine Subs.cons rfl ?_ | refine Subs.consI rfl (by omega) ?_)
 ·
  rintro k _ ⟨hkl, hvl, rfl⟩
  refine CW.seq fun _ kh4 => ?_
  refine CW.seqM 14 (decide (0 < k ∧ l.getD (k - 1) 0 = 0)) ?_ ?_
  ·
   refine CW.region fun kR5 kr5 => ?_
   refine Mv rfl rfl ?_
   refine WL.ev (Ev.len rfl) rfl ?_
   refine WL.ev (Ev.gtr rfl rfl) rfl ?_
   refine Mv rfl rfl ?_
   refine WL.boolCase (fun hg1 => ?_) (fun hg1 => ?_)
   ·
    try simp only [qs] at hg1
    refine WL.want rfl rfl rfl rfl ?_
    refine Mv rfl rfl ?_
    refine WL.want rfl rfl rfl rfl ?_
    refine Mv rfl rfl ?_
    refine WL.want rfl rfl rfl rfl ?_
    refine WL.ev (Ev.len rfl) rfl ?_
    refine WL.want rfl rfl rfl rfl ?_
    first | refine WL.ev (Ev.subIn rfl rfl (by omega)) rfl ?_ | refine WL.ev (Ev.sub rfl rfl) rfl ?_
    refine WL.want rfl rfl rfl rfl ?_
    refine WL.ev (Ev.ixR ((k - 1)) rfl rfl (hrl.keep0 hch) (by omega) (by omega) (by simp; omega)) rfl ?_
    refine WL.want rfl rfl rfl rfl ?_
    refine WL.ev (Ev.load rfl rfl ((hrl.keep0 hch).u32 (by first | omega | (simp; omega)))) rfl ?_
    have hw12 := hWl.getD ((k - 1))
    refine WL.want rfl rfl rfl rfl ?_
    refine WL.ev (Ev.eql rfl rfl) rfl ?_
    refine WL.ev (Ev.pickT rfl rfl rfl) rfl ?_
    refine WL.nil (kr5 _ _ _ ?_)
    refine ⟨rfl, rfl, Subs.consB rfl ?_ ?_⟩
    ·
     first | (simp; omega) | (refine decide_eq_decide.2 ?_; omega)
    ·
     first | ((repeat (first | exact Subs.refl | refine Subs.drop1 (by rfl) ?_)); done) | ((repeat (first | exact Subs.nil | refine Subs.cons rfl ?_)); done)
   ·
    try simp only [qs] at hg1
    refine WL.pass rfl rfl rfl rfl rfl ?_
    refine WL.pass rfl rfl rfl rfl rfl ?_
    refine WL.pass rfl rfl rfl rfl rfl ?_
    refine WL.pass rfl rfl rfl rfl rfl ?_
    refine WL.pass rfl rfl rfl rfl rfl ?_
    refine WL.pass rfl rfl rfl rfl rfl ?_
    refine WL.pass rfl rfl rfl rfl rfl ?_
    refine WL.ev (Ev.pickF rfl rfl rfl) rfl ?_
    refine WL.nil (kr5 _ _ _ ?_)
    refine ⟨rfl, rfl, Subs.consB rfl ?_ ?_⟩
    ·
     first | (simp; omega) | (refine decide_eq_decide.2 ?_; omega)
    ·
     first | ((repeat (first | exact Subs.refl | refine Subs.drop1 (by rfl) ?_)); done) | ((repeat (first | exact Subs.nil | refine Subs.cons rfl ?_)); done)
  ·
   refine CW.cond rfl (fun hc2 => ?_) (fun hc2 => ?_)
   ·
    try simp only [qs] at hc2
    refine CW.skip ?_
    refine kh4 _ _ _ ?_
    refine CW.block ?_
    refine CW.region fun kR6 kr6 => ?_
    refine Mv rfl rfl ?_
    refine Mv rfl rfl ?_
    refine WL.ev (Ev.len rfl) rfl ?_
    first | refine WL.ev (Ev.subIn rfl rfl (by omega)) rfl ?_ | refine WL.ev (Ev.sub rfl rfl) rfl ?_
    refine WL.ev (Ev.sliceHn ((k - 1)) rfl rfl (by omega) (by omega)) rfl ?_
    refine As rfl rfl ?_
    refine WL.nil (kr6 _ _ _ ?_)
    refine ⟨rfl, k - 1, ?_, ?_, ?_⟩
    ·
     repeat (first | exact Subs.nil | refine Subs.cons rfl ?_ | refine Subs.consI rfl (by omega) ?_)
    ·
     exact ⟨by omega, by rw [take_pred hkl (by omega) (by omega)]; exact hvl, rfl⟩
    ·
     omega
   ·
    try simp only [qs] at hc2
    refine CW.exit ?_
    refine kh3 _ _ _ ?_
    refine Sq fun _ kh7 _ kr8 => ?_
    refine Mv rfl rfl ?_
    refine As rfl rfl ?_
    refine WL.nil (kr8 _ _ _ (kh7 _ _ _ ?_))
    refine CW.ret ?_
    refine bodyA.ret1 rfl rfl ?_
    rw [cut_wd hWl hkl hvl (by omega)]
    exact ⟨NU.part hrl hWl hll hkl (by omega), rfl⟩

theorem Norm_spec (v : Value) (l : List Nat) (w : World) (h : NU w v l) : Ret Tryz.prog 92 [v] w fun u w' => NU w' u (wd (val l)) ∧ Chg [] w w' := by
 obtain ⟨⟨al, cl, rfl, hcapl, hrl⟩, hWl, hll⟩ := h
 have hch : Chg [] w w := Chg.refl _ _
 refine Ret.enter Tryz.func92 rfl rfl ?_
 simp only [args0, Nat.zero_add, Nat.reduceAdd]
 refine Sq fun _ kh1 _ kr2 => ?_
 refine As rfl rfl ?_
 refine WL.nil (kr2 _ _ _ (kh1 _ _ _ ?_))
 refine Sq fun _ kh3 _ kr4 => ?_
 refine Mv rfl rfl ?_
 refine WL.ev (Ev.len rfl) rfl ?_
 refine As rfl rfl ?_
 refine WL.nil (kr4 _ _ _ (kh3 _ _ _ ?_))
 refine CW.seq fun _ kh5 => ?_
 refine CW.block ?_
 refine CW.loop (S := fun k : Nat => [(0, .slice al l.length cl), (3, .int .i64 (k : Int))]) (Inv := K0 l w) (mu := fun k => k) (l.length) ?_ ?_ ?_
 ·
  exact ⟨Nat.le_refl _, by rw [List.take_length], rfl⟩
 ·
  repeat (first | exact Subs.nil | refine Subs.cons rfl ?_ | refine Subs.consI rfl (by omega) ?_)
 ·
  rintro k _ ⟨hkl, hvl, rfl⟩
  refine CW.seq fun _ kh6 => ?_
  refine CW.seqM 16 (decide (0 < k ∧ l.getD (k - 1) 0 = 0)) ?_ ?_
  ·
   refine CW.region fun kR7 kr7 => ?_
   refine Mv rfl rfl ?_
   refine WL.ev (Ev.gtr rfl rfl) rfl ?_
   refine Mv rfl rfl ?_
   refine WL.boolCase (fun hg1 => ?_) (fun hg1 => ?_)
   ·
    try simp only [qs] at hg1
    refine WL.want rfl rfl rfl rfl ?_
    refine Mv rfl rfl ?_
    refine WL.want rfl rfl rfl rfl ?_
    refine Mv rfl rfl ?_
    refine WL.want rfl rfl rfl rfl ?_
    first | refine WL.ev (Ev.subIn rfl rfl (by omega)) rfl ?_ | refine WL.ev (Ev.sub rfl rfl) rfl ?_
    refine WL.want rfl rfl rfl rfl ?_
    refine WL.ev (Ev.ixR ((k - 1)) rfl rfl (hrl.keep0 hch) (by omega) (by omega) (by simp; omega)) rfl ?_
    refine WL.want rfl rfl rfl rfl ?_
    refine WL.ev (Ev.load rfl rfl ((hrl.keep0 hch).u32 (by first | omega | (simp; omega)))) rfl ?_
    have hw14 := hWl.getD ((k - 1))
    refine WL.want rfl rfl rfl rfl ?_
    refine WL.ev (Ev.eql rfl rfl) rfl ?_
    refine WL.ev (Ev.pickT rfl rfl rfl) rfl ?_
    refine WL.nil (kr7 _ _ _ ?_)
    refine ⟨rfl, rfl, Subs.consB rfl ?_ ?_⟩
    ·
     first | (simp; omega) | (refine decide_eq_decide.2 ?_; omega)
    ·
     first | ((repeat (first | exact Subs.refl | refine Subs.drop1 (by rfl) ?_)); done) | ((repeat (first | exact Subs.nil | refine Subs.cons rfl ?_)); done)
   ·
    try simp only [qs] at hg1
    refine WL.pass rfl rfl rfl rfl rfl ?_
    refine WL.pass rfl rfl rfl rfl rfl ?_
    refine WL.pass rfl rfl rfl rfl rfl ?_
    refine WL.pass rfl rfl rfl rfl rfl ?_
    refine WL.pass rfl rfl rfl rfl rfl ?_
    refine WL.pass rfl rfl rfl rfl rfl ?_
    refine WL.ev (Ev.pickF rfl rfl rfl) rfl ?_
    refine WL.nil (kr7 _ _ _ ?_)
    refine ⟨rfl, rfl, Subs.consB rfl ?_ ?_⟩
    ·
     first | (simp; omega) | (refine decide_eq_decide.2 ?_; omega)
    ·
     first | ((repeat (first | exact Subs.refl | refine Subs.drop1 (by rfl) ?_)); done) | ((repeat (first | exact Subs.nil | refine Subs.cons rfl ?_)); done)
  ·
   refine CW.cond rfl (fun hc2 => ?_) (fun hc2 => ?_)
   ·
    try simp only [qs] at hc2
    refine CW.skip ?_
    refine kh6 _ _ _ ?_
    refine CW.block ?_
    refine CW.region fun kR8 kr8 => ?_
    refine Mv rfl rfl ?_
    first | refine WL.ev (Ev.subIn rfl rfl (by omega)) rfl ?_ | refine WL.ev (Ev.sub rfl rfl) rfl ?_
    refine As rfl rfl ?_
    refine WL.nil (kr8 _ _ _ ?_)
    refine ⟨rfl, k - 1, ?_, ?_, ?_⟩
    ·
     repeat (first | exact Subs.nil | refine Subs.cons rfl ?_ | refine Subs.consI rfl (by omega) ?_)
    ·
     exact ⟨by omega, by rw [take_pred hkl (by omega) (by omega)]; exact hvl, rfl⟩
    ·
     omega
   ·
    try simp only [qs] at hc2
    refine CW.exit ?_
    refine kh5 _ _ _ ?_
    refine Sq fun _ kh9 _ kr10 => ?_
    refine Mv rfl rfl ?_
    refine WL.makeU (k) (k) rfl rfl (by omega) (by omega) (by omega) (by omega) (by omega) rfl fun b20 wm20 hb20 hcm20 hge20 => ?_
    have hgehch20 := Nat.le_trans hch.size hge20
    have hch := hch.trans (Chg.any hcm20)
    refine As rfl rfl ?_
    refine WL.nil (kr10 _ _ _ (kh9 _ _ _ ?_))
    refine Sq fun _ kh11 _ kr12 => ?_
    refine Mv rfl rfl ?_
    refine Mv rfl rfl ?_
    refine WL.copyU rfl rfl hb20 (hrl.keep0 hch) (by simp; try omega) (by simp; try omega) rfl fun ws1 hb20_ hcs1 => ?_
    have hch := hch.s1 hcs1
    have hb20 := hb20_
    rw [show ((l).take (min ((l).length) (k)) ++ (List.replicate (k) 0).drop (min ((l).length) (k))) = l.take k from by rw [show min l.length k = k by omega, List.drop_eq_nil_of_le (by simp), List.append_nil]] at hb20
    refine WL.nil (kr12 _ _ _ (kh11 _ _ _ ?_))
    refine Sq fun _ kh13 _ kr14 => ?_
    refine Mv rfl rfl ?_
    refine As rfl rfl ?_
    refine WL.nil (kr14 _ _ _ (kh13 _ _ _ ?_))
    refine CW.ret ?_
    refine bodyA.ret1 rfl rfl ?_
    rw [cut_wd hWl hkl hvl (by omega)]
    exact ⟨NU.of_block hb20 (hWl.take k) (by simp; omega) (by simp; omega) (Nat.le_refl _), hch⟩

theorem Of_spec (n : Nat) (w : World) (hn : n < 18446744073709551616) : Ret Tryz.prog 46 [.int .u64 (n : Int)] w fun u w' => NU w' u (wd n) ∧ Chg [] w w' := by
 refine Ret.enter Tryz.func46 rfl rfl ?_
 simp only [args0, Nat.zero_add, Nat.reduceAdd]
 refine Sq fun _ kh1 _ kr2 => ?_
 refine As rfl rfl ?_
 refine WL.nil (kr2 _ _ _ (kh1 _ _ _ ?_))
 refine Sq fun _ kh3 _ kr4 => ?_
 refine Mv rfl rfl ?_
 refine WL.ev (Ev.conv32 rfl rfl) rfl ?_
 refine Mv rfl rfl ?_
 refine WL.ev (Ev.shrU (b := 32) rfl rfl (by simp only [IntKind.bits]; omega)) rfl ?_
 refine WL.ev (Ev.conv32 rfl rfl) rfl ?_
 refine WL.buildSlice (cs := [.int .u32 ((n % 4294967296 : Nat) : Int), .int .u32 ((n / 2 ^ 32 % 4294967296 : Nat) : Int)]) (by decide) (by decide) rfl (by kernel_rfl) rfl fun b8 w8 n8 => ?_
 have hN8 : NU w8 (.slice (some ⟨b8, 0, none⟩) 2 2) [n % 4294967296, n / 2 ^ 32 % 4294967296] := NU.of_block (E := 116) n8.at_ (W_cons.2 ⟨by omega, W_cons.2 ⟨by omega, W_nil⟩⟩) (by simp) rfl (by omega)
 have hv8 : val [n % 4294967296, n / 2 ^ 32 % 4294967296] = n := by simp only [val]; omega
 refine WL.call hasF92 rfl rfl (Norm_spec _ _ _ hN8) fun v w1 h' => ?_
 obtain ⟨hN, hC⟩ := h'
 rw [hv8] at hN
 refine As rfl rfl ?_
 refine WL.nil (kr4 _ _ _ (kh3 _ _ _ ?_))
 refine CW.ret ?_
 refine bodyA.ret1 rfl rfl ?_
 exact ⟨hN, n8.chg.trans hC⟩

theorem Small_spec (v : Value) (l : List Nat) (w : World) (h : NU w v l) : Ret Tryz.prog 190 [v] w fun u w' => u = .tuple [.int .u64 ((if val l < 18446744073709551616 then val l else 0 : Nat) : Int), .int .i64 (if val l < 18446744073709551616 then 0 else 2)].toArray ∧ w = w' := by
 have hlen2 : (wd (val l)).length ≤ 2 ↔ val l < 18446744073709551616 := wd_length_le (n := val l) (k := 2)
 have hvw := val_wd (val l)
 obtain ⟨L, hL⟩ : ∃ L, L = wd (val l) := ⟨_, rfl⟩
 rw [← hL] at hlen2 hvw
 refine Ret.enter Tryz.func190 rfl rfl ?_
 simp only [args0, Nat.zero_add, Nat.reduceAdd]
 refine Sq fun _ kh1 _ kr2 => ?_
 refine As rfl rfl ?_
 refine As rfl rfl ?_
 refine WL.nil (kr2 _ _ _ (kh1 _ _ _ ?_))
 refine Sq fun _ kh3 _ kr4 => ?_
 refine As rfl rfl ?_
 refine WL.nil (kr4 _ _ _ (kh3 _ _ _ ?_))
 refine CW.seq fun _ kh5 => ?_
 refine Sq fun _ kh6 _ kr7 => ?_
 refine Mv rfl rfl ?_
 refine WL.call hasF95 rfl rfl (cut_spec _ _ _ h) fun v w1 h' => ?_
 obtain ⟨hN, rfl⟩ := h'
 rw [← hL] at hN
 obtain ⟨⟨a1, c1, rfl, hcap1, hr1⟩, hW1, hl1⟩ := hN
 refine As rfl rfl ?_
 refine WL.nil (kr7 _ _ _ (kh6 _ _ _ ?_))
 refine CW.block ?_
 refine Sq fun _ kh8 _ kr9 => ?_
 refine Mv rfl rfl ?_
 refine WL.ev (Ev.len rfl) rfl ?_
 refine WL.ev (Ev.gtr rfl rfl) rfl ?_
 refine As rfl rfl ?_
 refine WL.nil (kr9 _ _ _ (kh8 _ _ _ ?_))
 refine CW.cond rfl (fun hc1 => ?_) (fun hc1 => ?_)
 ·
  try simp only [qs] at hc1
  refine Sq fun _ kh10 _ kr11 => ?_
  refine As rfl rfl ?_
  refine As rfl rfl ?_
  refine WL.nil (kr11 _ _ _ (kh10 _ _ _ ?_))
  refine CW.ret ?_
  refine bodyA.ret2 rfl rfl rfl ?_
  rw [if_neg (by omega), if_neg (by omega)]
  exact ⟨rfl, rfl⟩
 ·
  try simp only [qs] at hc1
  refine Sq fun _ kh12 _ kr13 => ?_
  refine Mv rfl rfl ?_
  refine WL.ev (Ev.len rfl) rfl ?_
  refine WL.ev (Ev.eql rfl rfl) rfl ?_
  refine As rfl rfl ?_
  refine WL.nil (kr13 _ _ _ (kh12 _ _ _ ?_))
  refine CW.cond rfl (fun hc2 => ?_) (fun hc2 => ?_)
  ·
   try simp only [qs] at hc2
   have hv2 := val_two (l := L) (by omega)
   have hw0 := hW1.getD 0
   have hw1 := hW1.getD 1
   refine CW.region fun kR14 kr14 => ?_
   refine Mv rfl rfl ?_
   refine WL.ev (Ev.ixR (1) rfl rfl hr1 (by omega) (by omega) (by simp; omega)) rfl ?_
   refine WL.ev (Ev.load rfl rfl (hr1.u32 (by first | omega | (simp; omega)))) rfl ?_
   have hw17 := hW1.getD (1)
   refine WL.ev (Ev.convIn rfl rfl (in_u64 (by omega))) rfl ?_
   refine WL.ev (Ev.shlU64 (b := 32) rfl rfl) rfl ?_
   refine As rfl rfl ?_
   refine WL.nil (kr14 _ _ _ (kh5 _ _ _ ?_))
   refine CW.seq fun _ kh15 => ?_
   refine Sq fun _ kh16 _ kr17 => ?_
   refine Mv rfl rfl ?_
   refine WL.ev (Ev.len rfl) rfl ?_
   refine WL.ev (Ev.gtr rfl rfl) rfl ?_
   refine WL.nil (kr17 _ _ _ (kh16 _ _ _ ?_))
   refine CW.cond rfl (fun hc3 => ?_) (fun hc3 => ?_)
   ·
    try simp only [qs] at hc3
    refine CW.region fun kR18 kr18 => ?_
    refine Mv rfl rfl ?_
    refine Mv rfl rfl ?_
    refine WL.ev (Ev.ixR (0) rfl rfl hr1 (by omega) (by omega) (by simp; omega)) rfl ?_
    refine WL.ev (Ev.load rfl rfl (hr1.u32 (by first | omega | (simp; omega)))) rfl ?_
    have hw26 := hW1.getD (0)
    refine WL.ev (Ev.convIn rfl rfl (in_u64 (by omega))) rfl ?_
    refine WL.ev (Ev.orU rfl rfl rfl (by simp only [IntKind.bits]; omega) (by simp only [IntKind.bits]; omega)) rfl ?_
    refine As rfl rfl ?_
    refine WL.nil (kr18 _ _ _ (kh15 _ _ _ ?_))
    refine Sq fun _ kh19 _ kr20 => ?_
    refine Mv rfl rfl ?_
    refine As rfl rfl ?_
    refine As rfl rfl ?_
    refine WL.nil (kr20 _ _ _ (kh19 _ _ _ ?_))
    refine CW.ret ?_
    refine bodyA.ret2 rfl rfl rfl ?_
    have e : L.getD 1 0 * 2 ^ 32 % 18446744073709551616 ||| L.getD 0 0 = val l := by
     rw [Nat.mod_eq_of_lt (by omega), Nat.or_comm, or_of_mul (by omega)]; omega
    rw [e, if_pos (by omega), if_pos (by omega)]
    exact ⟨rfl, rfl⟩
   ·
    try simp only [qs] at hc3
    exfalso; omega
  ·
   try simp only [qs] at hc2
   refine CW.skip ?_
   refine kh5 _ _ _ ?_
   refine CW.seq fun _ kh21 => ?_
   refine Sq fun _ kh22 _ kr23 => ?_
   refine Mv rfl rfl ?_
   refine WL.ev (Ev.len rfl) rfl ?_
   refine WL.ev (Ev.gtr rfl rfl) rfl ?_
   refine WL.nil (kr23 _ _ _ (kh22 _ _ _ ?_))
   refine CW.cond rfl (fun hc4 => ?_) (fun hc4 => ?_)
   ·
    try simp only [qs] at hc4
    have hv1 := val_one (l := L) (by omega)
    refine CW.region fun kR24 kr24 => ?_
    refine Mv rfl rfl ?_
    refine Mv rfl rfl ?_
    refine WL.ev (Ev.ixR (0) rfl rfl hr1 (by omega) (by omega) (by simp; omega)) rfl ?_
    refine WL.ev (Ev.load rfl rfl (hr1.u32 (by first | omega | (simp; omega)))) rfl ?_
    have hw26 := hW1.getD (0)
    refine WL.ev (Ev.convIn rfl rfl (in_u64 (by omega))) rfl ?_
    refine WL.ev (Ev.orU rfl rfl rfl (by simp only [IntKind.bits]; omega) (by simp only [IntKind.bits]; omega)) rfl ?_
    refine As rfl rfl ?_
    refine WL.nil (kr24 _ _ _ (kh21 _ _ _ ?_))
    refine Sq fun _ kh25 _ kr26 => ?_
    refine Mv rfl rfl ?_
    refine As rfl rfl ?_
    refine As rfl rfl ?_
    refine WL.nil (kr26 _ _ _ (kh25 _ _ _ ?_))
    refine CW.ret ?_
    refine bodyA.ret2 rfl rfl rfl ?_
    rw [Nat.zero_or, if_pos (by omega), if_pos (by omega), ← hvw, hv1]
    exact ⟨rfl, rfl⟩
   ·
    try simp only [qs] at hc4
    have hv0 : L = [] := List.length_eq_zero_iff.1 (by omega)
    have hv1 : val l = 0 := by rw [← hvw, hv0]; rfl
    refine CW.skip ?_
    refine kh21 _ _ _ ?_
    refine Sq fun _ kh27 _ kr28 => ?_
    refine Mv rfl rfl ?_
    refine As rfl rfl ?_
    refine As rfl rfl ?_
    refine WL.nil (kr28 _ _ _ (kh27 _ _ _ ?_))
    refine CW.ret ?_
    refine bodyA.ret2 rfl rfl rfl ?_
    rw [if_pos (by omega), if_pos (by omega), hv1]
    exact ⟨rfl, rfl⟩

theorem Len_spec (v : Value) (l : List Nat) (w : World) (h : NU w v l) : Ret Tryz.prog 96 [v] w fun u w' => u = .int .i64 (bl (val l) : Int) ∧ w = w' := by
 have hvw := val_wd (val l)
 obtain ⟨L, hL⟩ : ∃ L, L = wd (val l) := ⟨_, rfl⟩
 rw [← hL] at hvw
 refine Ret.enter Tryz.func96 rfl rfl ?_
 simp only [args0, Nat.zero_add, Nat.reduceAdd]
 refine Sq fun _ kh1 _ kr2 => ?_
 refine As rfl rfl ?_
 refine WL.nil (kr2 _ _ _ (kh1 _ _ _ ?_))
 refine CW.seq fun _ kh3 => ?_
 refine Sq fun _ kh4 _ kr5 => ?_
 refine Mv rfl rfl ?_
 refine WL.call hasF95 rfl rfl (cut_spec _ _ _ h) fun v w1 h' => ?_
 obtain ⟨hN, rfl⟩ := h'
 rw [← hL] at hN
 obtain ⟨⟨a1, c1, rfl, hcap1, hr1⟩, hW1, hl1⟩ := hN
 refine As rfl rfl ?_
 refine WL.nil (kr5 _ _ _ (kh4 _ _ _ ?_))
 refine Sq fun _ kh6 _ kr7 => ?_
 refine Mv rfl rfl ?_
 refine WL.ev (Ev.len rfl) rfl ?_
 refine WL.ev (Ev.eql rfl rfl) rfl ?_
 refine WL.nil (kr7 _ _ _ (kh6 _ _ _ ?_))
 refine CW.cond rfl (fun hc1 => ?_) (fun hc1 => ?_)
 ·
  try simp only [qs] at hc1
  refine Sq fun _ kh8 _ kr9 => ?_
  refine As rfl rfl ?_
  refine WL.nil (kr9 _ _ _ (kh8 _ _ _ ?_))
  refine CW.ret ?_
  refine bodyA.ret1 rfl rfl ?_
  have hv0 : L = [] := List.length_eq_zero_iff.1 (by omega)
  rw [← hvw, hv0]
  exact ⟨rfl, rfl⟩
 ·
  try simp only [qs] at hc1
  have hlast : L.getD (L.length - 1) 0 ≠ 0 := by rw [hL]; exact wd_last fun e => by rw [e, wd_zero] at hL; rw [hL] at hc1; exact hc1 rfl
  have hbl := bl_val hW1 (fun e => by rw [e] at hc1; exact hc1 rfl) hlast
  rw [hvw] at hbl
  have hb32 := bl_le.2 (show L.getD (L.length - 1) 0 < 2 ^ 32 from hW1.getD _)
  refine CW.skip ?_
  refine kh3 _ _ _ ?_
  refine Sq fun _ kh10 _ kr11 => ?_
  refine Mv rfl rfl ?_
  refine WL.ev (Ev.len rfl) rfl ?_
  first | refine WL.ev (Ev.subIn rfl rfl (by omega)) rfl ?_ | refine WL.ev (Ev.sub rfl rfl) rfl ?_
  refine WL.ev (Ev.mulIn rfl rfl (by omega)) rfl ?_
  refine Mv rfl rfl ?_
  refine Mv rfl rfl ?_
  refine WL.ev (Ev.len rfl) rfl ?_
  first | refine WL.ev (Ev.subIn rfl rfl (by omega)) rfl ?_ | refine WL.ev (Ev.sub rfl rfl) rfl ?_
  refine WL.ev (Ev.ixR (((L).length - 1)) rfl rfl hr1 (by omega) (by omega) (by simp; omega)) rfl ?_
  refine WL.ev (Ev.load rfl rfl (hr1.u32 (by first | omega | (simp; omega)))) rfl ?_
  have hw17 := hW1.getD (((L).length - 1))
  refine WL.call hasF131 rfl rfl (Len32_spec _ _ (hW1.getD _)) fun v w2 h' => ?_
  obtain ⟨rfl, rfl⟩ := h'
  first | refine WL.ev (Ev.addIn rfl rfl (by omega)) rfl ?_ | refine WL.ev (Ev.add rfl rfl) rfl ?_
  refine As rfl rfl ?_
  refine WL.nil (kr11 _ _ _ (kh10 _ _ _ ?_))
  refine CW.ret ?_
  refine bodyA.ret1 rfl rfl ?_
  refine ⟨?_, rfl⟩
  rw [hbl]; first | rfl | (congr 1; omega)

structure KL (l : List Nat) (w : World) (i : Nat) (wr : World) : Prop where
  le : i ≤ l.length
  z : val (l.take i) = 0
  eq : w = wr

theorem Low_spec (v : Value) (l : List Nat) (w : World) (h : NU w v l) (hg : GW w) : Ret Tryz.prog 93 [v] w fun u w' => u = .int .i64 (tz (val l) : Int) ∧ w = w' := by
 obtain ⟨⟨al, cl, rfl, hcapl, hrl⟩, hWl, hll⟩ := h
 have hch : Chg [] w w := Chg.refl _ _
 refine Ret.enter Tryz.func93 rfl rfl ?_
 simp only [args0, Nat.zero_add, Nat.reduceAdd]
 refine Sq fun _ kh1 _ kr2 => ?_
 refine As rfl rfl ?_
 refine WL.nil (kr2 _ _ _ (kh1 _ _ _ ?_))
 refine CW.seq fun _ kh3 => ?_
 refine Sq fun _ kh4 _ kr5 => ?_
 refine Mv rfl rfl ?_
 refine WL.ev (Ev.len rfl) rfl ?_
 refine Mv rfl rfl ?_
 refine WL.nil (kr5 _ _ _ (kh4 _ _ _ ?_))
 refine CW.block ?_
 refine CW.loop (S := fun i : Nat => [(5, .slice al l.length cl), (6, .int .i64 (l.length : Int)), (7, .int .i64 (i : Int))]) (Inv := KL l w) (mu := fun i => l.length - i) (0) ?_ ?_ ?_
 ·
  exact ⟨Nat.zero_le _, rfl, rfl⟩
 ·
  repeat (first | exact Subs.nil | refine Subs.cons rfl ?_ | refine Subs.consI rfl (by omega) ?_)
 ·
  rintro i _ ⟨hil, hz, rfl⟩
  refine Sq fun _ kh6 _ kr7 => ?_
  refine WL.ev (Ev.lss rfl rfl) rfl ?_
  refine WL.nil (kr7 _ _ _ (kh6 _ _ _ ?_))
  refine CW.seq fun _ kh8 => ?_
  refine CW.cond rfl (fun hc1 => ?_) (fun hc1 => ?_)
  ·
   try simp only [qs] at hc1
   refine CW.skip ?_
   refine kh8 _ _ _ ?_
   refine CW.seq fun _ kh9 => ?_
   refine CW.block ?_
   refine Sq fun _ kh10 _ kr11 => ?_
   refine Mv rfl rfl ?_
   refine WL.ev (Ev.ixR (i) rfl rfl (hrl.keep0 hch) (by omega) (by omega) (by simp; omega)) rfl ?_
   refine WL.ev (Ev.load rfl rfl ((hrl.keep0 hch).u32 (by first | omega | (simp; omega)))) rfl ?_
   have hw11 := hWl.getD (i)
   refine As rfl rfl ?_
   refine As rfl rfl ?_
   refine WL.nil (kr11 _ _ _ (kh10 _ _ _ ?_))
   refine Sq fun _ kh12 _ kr13 => ?_
   refine Mv rfl rfl ?_
   refine WL.ev (Ev.neq rfl rfl) rfl ?_
   refine WL.nil (kr13 _ _ _ (kh12 _ _ _ ?_))
   refine CW.cond rfl (fun hc2 => ?_) (fun hc2 => ?_)
   ·
    try simp only [qs] at hc2
    have htz := tz_words hWl (by omega) hz (by omega)
    have htl := tz_lt_bl (n := l.getD i 0) (by omega)
    have hb32 := bl_le.2 (show l.getD i 0 < 2 ^ 32 from hWl.getD _)
    refine Sq fun _ kh14 _ kr15 => ?_
    refine Mv rfl rfl ?_
    refine WL.ev (Ev.mulIn rfl rfl (by omega)) rfl ?_
    refine Mv rfl rfl ?_
    refine WL.call hasF130 rfl rfl (TrailingZeros32_spec _ _ hg (by omega) (hWl.getD _)) fun v w1 h' => ?_
    obtain ⟨rfl, rfl⟩ := h'
    first | refine WL.ev (Ev.addIn rfl rfl (by omega)) rfl ?_ | refine WL.ev (Ev.add rfl rfl) rfl ?_
    refine As rfl rfl ?_
    refine WL.nil (kr15 _ _ _ (kh14 _ _ _ ?_))
    refine CW.ret ?_
    refine bodyA.ret1 rfl rfl ?_
    refine ⟨?_, rfl⟩
    rw [htz]; first | rfl | (congr 1; omega)
   ·
    try simp only [qs] at hc2
    refine CW.skip ?_
    refine kh9 _ _ _ ?_
    refine CW.region fun kR16 kr16 => ?_
    first | refine WL.ev (Ev.addIn rfl rfl (by omega)) rfl ?_ | refine WL.ev (Ev.add rfl rfl) rfl ?_
    refine Mv rfl rfl ?_
    refine WL.nil (kr16 _ _ _ ?_)
    refine ⟨rfl, i + 1, ?_, ?_, ?_⟩
    ·
     repeat (first | exact Subs.nil | refine Subs.cons rfl ?_ | refine Subs.consI rfl (by omega) ?_)
    ·
     exact ⟨by omega, by rw [val_take_succ' l i, hz, (by omega : l.getD i 0 = 0)]; simp, rfl⟩
    ·
     show l.length - (i + 1) < l.length - i; omega
  ·
   try simp only [qs] at hc1
   refine CW.exit ?_
   refine kh3 _ _ _ ?_
   refine Sq fun _ kh17 _ kr18 => ?_
   refine As rfl rfl ?_
   refine WL.nil (kr18 _ _ _ (kh17 _ _ _ ?_))
   refine CW.ret ?_
   refine bodyA.ret1 rfl rfl ?_
   have e : i = l.length := by omega
   subst e
   rw [List.take_length] at hz
   rw [hz, tz_zero]
   exact ⟨rfl, rfl⟩

end Go.Proofs.YtphnpchmdpjabaaGreatDoor

/- Package wide: sums, differences, products, moves. No condition. -/
namespace Go.Proofs.YtphnpchmdpjabaaGreatDoor
open Go Sx Wd

theorem testBit_words {l : List Nat} (h : W l) (n : Nat) : (val l).testBit n = decide (l.getD (n / 32) 0 / 2 ^ (n % 32) % 2 = 1) := by
  rw [getD_val h, Nat.testBit_eq_decide_div_mod_eq]
  refine decide_eq_decide.2 ?_
  have e : val l / 2 ^ n = val l / 2 ^ (32 * (n / 32)) / 2 ^ (n % 32) := by
    rw [Nat.div_div_eq_div_mul, ← Nat.pow_add, show 32 * (n / 32) + n % 32 = n by omega]
  rw [e]
  generalize val l / 2 ^ (32 * (n / 32)) = q
  have hn : n % 32 < 32 := Nat.mod_lt _ (by decide)
  generalize n % 32 = r at *
  have e32 : (4294967296 : Nat) = 2 ^ r * (2 * 2 ^ (31 - r)) := by
    rw [show 2 * 2 ^ (31 - r) = 2 ^ (32 - r) by rw [Nat.mul_comm, ← Nat.pow_succ, show (31 - r).succ = 32 - r by omega], ← Nat.pow_add, show r + (32 - r) = 32 by omega]
  rw [e32, Nat.mod_mul_right_div_self, Nat.mod_mul_right_mod]

theorem Bit_spec (v : Value) (l : List Nat) (i : Int) (w : World) (h : NU w v l) (hi : -9223372036854775808 ≤ i ∧ i ≤ 9223372036854775807) : Ret Tryz.prog 192 [v, .int .i64 i] w fun u w' => u = .bool (decide (0 ≤ i) && (val l).testBit i.toNat) ∧ w = w' := by
 obtain ⟨⟨al, cl, rfl, hcapl, hrl⟩, hWl, hll⟩ := h
 have hch : Chg [] w w := Chg.refl _ _
 refine Ret.enter Tryz.func192 rfl rfl ?_
 simp only [args0, Nat.zero_add, Nat.reduceAdd]
 refine Sq fun _ kh1 _ kr2 => ?_
 refine As rfl rfl ?_
 refine WL.nil (kr2 _ _ _ (kh1 _ _ _ ?_))
 refine Sq fun _ kh3 _ kr4 => ?_
 refine Mv rfl rfl ?_
 refine WL.ev (Ev.geq rfl rfl) rfl ?_
 refine Mv rfl rfl ?_
 refine WL.boolCase (fun hg1 => ?_) (fun hg1 => ?_)
 ·
  try simp only [qs] at hg1
  obtain ⟨n, rfl⟩ : ∃ n : Nat, i = (n : Int) := ⟨i.toNat, by omega⟩
  have htb := testBit_words hWl n
  refine WL.want rfl rfl rfl rfl ?_
  refine Mv rfl rfl ?_
  refine WL.want rfl rfl rfl rfl ?_
  refine WL.ev (Ev.quoU (b := 32) rfl rfl (by omega) (in_i64 (by omega)).2) rfl ?_
  refine WL.want rfl rfl rfl rfl ?_
  refine Mv rfl rfl ?_
  refine WL.want rfl rfl rfl rfl ?_
  refine WL.ev (Ev.len rfl) rfl ?_
  refine WL.want rfl rfl rfl rfl ?_
  refine WL.ev (Ev.lss rfl rfl) rfl ?_
  refine WL.ev (Ev.pickT rfl rfl rfl) rfl ?_
  refine Mv rfl rfl ?_
  refine WL.boolCase (fun hg2 => ?_) (fun hg2 => ?_)
  ·
   try simp only [qs] at hg2
   refine WL.want rfl rfl rfl rfl ?_
   refine Mv rfl rfl ?_
   refine WL.want rfl rfl rfl rfl ?_
   refine Mv rfl rfl ?_
   refine WL.want rfl rfl rfl rfl ?_
   refine WL.ev (Ev.quoU (b := 32) rfl rfl (by omega) (in_i64 (by omega)).2) rfl ?_
   refine WL.want rfl rfl rfl rfl ?_
   refine WL.ev (Ev.ixR ((n / 32)) rfl rfl (hrl.keep0 hch) (by omega) (by omega) (by simp; omega)) rfl ?_
   refine WL.want rfl rfl rfl rfl ?_
   refine WL.ev (Ev.load rfl rfl ((hrl.keep0 hch).u32 (by first | omega | (simp; omega)))) rfl ?_
   have hw19 := hWl.getD ((n / 32))
   refine WL.want rfl rfl rfl rfl ?_
   refine Mv rfl rfl ?_
   refine WL.want rfl rfl rfl rfl ?_
   refine WL.ev (Ev.remU (b := 32) rfl rfl (by omega)) rfl ?_
   refine WL.want rfl rfl rfl rfl ?_
   refine WL.ev (Ev.shrU rfl rfl (by simp only [IntKind.bits]; omega)) rfl ?_
   have hq2 : l.getD (n / 32) 0 / 2 ^ (n % 32) ≤ l.getD (n / 32) 0 := Nat.div_le_self _ _
   refine WL.want rfl rfl rfl rfl ?_
   refine WL.ev (Ev.andU (b := 1) rfl rfl rfl (by simp only [IntKind.bits]; omega) (by simp only [IntKind.bits]; omega)) rfl ?_
   rw [Nat.and_one_is_mod]
   refine WL.want rfl rfl rfl rfl ?_
   refine WL.ev (Ev.eql rfl rfl) rfl ?_
   refine WL.ev (Ev.pickT rfl rfl rfl) rfl ?_
   refine As rfl rfl ?_
   refine WL.nil (kr4 _ _ _ (kh3 _ _ _ ?_))
   refine CW.ret ?_
   refine bodyA.ret1 rfl rfl ?_
   refine ⟨?_, rfl⟩
   rw [show (n : Int).toNat = n by omega, htb, decide_eq_true (show (0 : Int) ≤ (n : Int) by omega), Bool.true_and]
   congr 1
   refine decide_eq_decide.2 ?_
   omega
  ·
   try simp only [qs] at hg2
   refine WL.pass rfl rfl rfl rfl rfl ?_
   refine WL.pass rfl rfl rfl rfl rfl ?_
   refine WL.pass rfl rfl rfl rfl rfl ?_
   refine WL.pass rfl rfl rfl rfl rfl ?_
   refine WL.pass rfl rfl rfl rfl rfl ?_
   refine WL.pass rfl rfl rfl rfl rfl ?_
   refine WL.pass rfl rfl rfl rfl rfl ?_
   refine WL.pass rfl rfl rfl rfl rfl ?_
   refine WL.pass rfl rfl rfl rfl rfl ?_
   refine WL.pass rfl rfl rfl rfl rfl ?_
   refine WL.ev (Ev.pickF rfl rfl rfl) rfl ?_
   refine As rfl rfl ?_
   refine WL.nil (kr4 _ _ _ (kh3 _ _ _ ?_))
   refine CW.ret ?_
   refine bodyA.ret1 rfl rfl ?_
   refine ⟨?_, rfl⟩
   rw [show (n : Int).toNat = n by omega, htb, getD_out (by omega)]
   simp
 ·
  try simp only [qs] at hg1
  refine WL.pass rfl rfl rfl rfl rfl ?_
  refine WL.pass rfl rfl rfl rfl rfl ?_
  refine WL.pass rfl rfl rfl rfl rfl ?_
  refine WL.pass rfl rfl rfl rfl rfl ?_
  refine WL.pass rfl rfl rfl rfl rfl ?_
  refine WL.ev (Ev.pickF rfl rfl rfl) rfl ?_
  refine Mv rfl rfl ?_
  refine WL.pass rfl rfl rfl rfl rfl ?_
  refine WL.pass rfl rfl rfl rfl rfl ?_
  refine WL.pass rfl rfl rfl rfl rfl ?_
  refine WL.pass rfl rfl rfl rfl rfl ?_
  refine WL.pass rfl rfl rfl rfl rfl ?_
  refine WL.pass rfl rfl rfl rfl rfl ?_
  refine WL.pass rfl rfl rfl rfl rfl ?_
  refine WL.pass rfl rfl rfl rfl rfl ?_
  refine WL.pass rfl rfl rfl rfl rfl ?_
  refine WL.pass rfl rfl rfl rfl rfl ?_
  refine WL.ev (Ev.pickF rfl rfl rfl) rfl ?_
  refine As rfl rfl ?_
  refine WL.nil (kr4 _ _ _ (kh3 _ _ _ ?_))
  refine CW.ret ?_
  refine bodyA.ret1 rfl rfl ?_
  refine ⟨?_, rfl⟩
  rw [decide_eq_false (by omega), Bool.false_and]

theorem both_spec (va vb : Value) (la lb : List Nat) (w : World) (ha : NU w va la) (hb : NU w vb lb) : Ret Tryz.prog 101 [va, vb] w fun u w' => ((((wd (val la)).length ≤ 8192 ∧ (wd (val lb)).length ≤ 8192) ∧ ∃ x y, u = .tuple [x, y, .int .i64 0].toArray ∧ NU w x (wd (val la)) ∧ NU w y (wd (val lb))) ∨ (¬ ((wd (val la)).length ≤ 8192 ∧ (wd (val lb)).length ≤ 8192) ∧ u = .tuple [.slice none 0 0, .slice none 0 0, .int .i64 2].toArray)) ∧ w = w' := by
 obtain ⟨A, hA⟩ : ∃ A, A = wd (val la) := ⟨_, rfl⟩
 have hvA : val A = val la := by rw [hA]; exact val_wd _
 obtain ⟨B, hB⟩ : ∃ B, B = wd (val lb) := ⟨_, rfl⟩
 have hvB : val B = val lb := by rw [hB]; exact val_wd _
 have hch : Chg [] w w := Chg.refl _ _
 refine Ret.enter Tryz.func101 rfl rfl ?_
 simp only [args0, Nat.zero_add, Nat.reduceAdd]
 refine Sq fun _ kh1 _ kr2 => ?_
 refine As rfl rfl ?_
 refine As rfl rfl ?_
 refine As rfl rfl ?_
 refine WL.nil (kr2 _ _ _ (kh1 _ _ _ ?_))
 refine Sq fun _ kh3 _ kr4 => ?_
 refine Mv rfl rfl ?_
 refine WL.call hasF95 rfl rfl (cut_spec _ _ _ ha) fun v w1 h' => ?_
 obtain ⟨hN1, rfl⟩ := h'
 rw [← hA] at hN1
 obtain ⟨⟨a1, c1, rfl, hcap1, hr1⟩, hW1, hl1⟩ := hN1
 refine Mv rfl rfl ?_
 refine WL.call hasF95 rfl rfl (cut_spec _ _ _ hb) fun v w2 h' => ?_
 obtain ⟨hN2, rfl⟩ := h'
 rw [← hB] at hN2
 obtain ⟨⟨a2, c2, rfl, hcap2, hr2⟩, hW2, hl2⟩ := hN2
 refine As rfl rfl ?_
 refine As rfl rfl ?_
 refine WL.nil (kr4 _ _ _ (kh3 _ _ _ ?_))
 refine CW.seq fun _ kh5 => ?_
 refine Sq fun _ kh6 _ kr7 => ?_
 refine Mv rfl rfl ?_
 refine WL.ev (Ev.len rfl) rfl ?_
 refine Mv rfl rfl ?_
 refine WL.ev (Ev.len rfl) rfl ?_
 refine WL.ev (Ev.maxI rfl rfl) rfl ?_
 refine WL.ev (Ev.gtr rfl rfl) rfl ?_
 refine WL.nil (kr7 _ _ _ (kh6 _ _ _ ?_))
 refine CW.cond rfl (fun hc1 => ?_) (fun hc1 => ?_)
 ·
  try simp only [qs] at hc1
  refine Sq fun _ kh8 _ kr9 => ?_
  refine As rfl rfl ?_
  refine As rfl rfl ?_
  refine As rfl rfl ?_
  refine WL.nil (kr9 _ _ _ (kh8 _ _ _ ?_))
  refine CW.ret ?_
  refine bodyA.ret3 rfl rfl rfl rfl ?_
  rw [← hA, ← hB]
  exact ⟨.inr ⟨by omega, rfl⟩, rfl⟩
 ·
  try simp only [qs] at hc1
  refine CW.skip ?_
  refine kh5 _ _ _ ?_
  refine Sq fun _ kh10 _ kr11 => ?_
  refine Mv rfl rfl ?_
  refine Mv rfl rfl ?_
  refine As rfl rfl ?_
  refine As rfl rfl ?_
  refine As rfl rfl ?_
  refine WL.nil (kr11 _ _ _ (kh10 _ _ _ ?_))
  refine CW.ret ?_
  refine bodyA.ret3 rfl rfl rfl rfl ?_
  rw [← hA, ← hB]
  exact ⟨.inl ⟨by omega, _, _, rfl, NU.of_row hr1 hW1 hl1 rfl hcap1, NU.of_row hr2 hW2 hl2 rfl hcap2⟩, rfl⟩

theorem fits_spec (v : Value) (l : List Nat) (w : World) (h : NU w v l) : Ret Tryz.prog 98 [v] w fun u w' => (((wd (val l)).length ≤ 8192 ∧ ∃ r, u = .tuple [r, .int .i64 0].toArray ∧ NU w r (wd (val l))) ∨ (8192 < (wd (val l)).length ∧ u = .tuple [.slice none 0 0, .int .i64 2].toArray)) ∧ w = w' := by
 obtain ⟨A, hA⟩ : ∃ A, A = wd (val l) := ⟨_, rfl⟩
 have hvA : val A = val l := by rw [hA]; exact val_wd _
 have hch : Chg [] w w := Chg.refl _ _
 refine Ret.enter Tryz.func98 rfl rfl ?_
 simp only [args0, Nat.zero_add, Nat.reduceAdd]
 refine Sq fun _ kh1 _ kr2 => ?_
 refine As rfl rfl ?_
 refine As rfl rfl ?_
 refine WL.nil (kr2 _ _ _ (kh1 _ _ _ ?_))
 refine CW.seq fun _ kh3 => ?_
 refine Sq fun _ kh4 _ kr5 => ?_
 refine Mv rfl rfl ?_
 refine WL.call hasF95 rfl rfl (cut_spec _ _ _ h) fun v w1 h' => ?_
 obtain ⟨hN1, rfl⟩ := h'
 rw [← hA] at hN1
 obtain ⟨⟨a1, c1, rfl, hcap1, hr1⟩, hW1, hl1⟩ := hN1
 refine As rfl rfl ?_
 refine WL.nil (kr5 _ _ _ (kh4 _ _ _ ?_))
 refine Sq fun _ kh6 _ kr7 => ?_
 refine Mv rfl rfl ?_
 refine WL.ev (Ev.len rfl) rfl ?_
 refine WL.ev (Ev.gtr rfl rfl) rfl ?_
 refine WL.nil (kr7 _ _ _ (kh6 _ _ _ ?_))
 refine CW.cond rfl (fun hc1 => ?_) (fun hc1 => ?_)
 ·
  try simp only [qs] at hc1
  refine Sq fun _ kh8 _ kr9 => ?_
  refine As rfl rfl ?_
  refine As rfl rfl ?_
  refine WL.nil (kr9 _ _ _ (kh8 _ _ _ ?_))
  refine CW.ret ?_
  refine bodyA.ret2 rfl rfl rfl ?_
  rw [← hA]
  exact ⟨.inr ⟨by omega, rfl⟩, rfl⟩
 ·
  try simp only [qs] at hc1
  refine CW.skip ?_
  refine kh3 _ _ _ ?_
  refine Sq fun _ kh10 _ kr11 => ?_
  refine Mv rfl rfl ?_
  refine Mv rfl rfl ?_
  refine WL.ev (Ev.len rfl) rfl ?_
  refine Mv rfl rfl ?_
  refine WL.ev (Ev.len rfl) rfl ?_
  refine WL.ev (Ev.slice3n ((A).length) ((A).length) rfl rfl rfl (by omega) (by omega) (by omega) (by omega)) rfl ?_
  refine As rfl rfl ?_
  refine As rfl rfl ?_
  refine WL.nil (kr11 _ _ _ (kh10 _ _ _ ?_))
  refine CW.ret ?_
  refine bodyA.ret2 rfl rfl rfl ?_
  rw [← hA]
  exact ⟨.inl ⟨by omega, _, rfl, NU.of_row hr1 hW1 hl1 rfl (Nat.le_refl _)⟩, rfl⟩

structure KA (X Y : List Nat) (w : World) (b : Nat) (g : Nat × List Nat × Nat) (wr : World) : Prop where
  a : AddI X Y g.1 g.2.1 g.2.2
  ob : OB wr b 116 g.2.1
  chg : Chg [] w wr

set_option maxRecDepth 4000 in
theorem Add_spec (va vb : Value) (la lb : List Nat) (w : World) (ha : NU w va la) (hb : NU w vb lb) : Ret Tryz.prog 201 [va, vb] w fun u w' => (((wd (val la)).length ≤ 8192 ∧ (wd (val lb)).length ≤ 8192 ∧ (wd (val la + val lb)).length ≤ 8192 ∧ ∃ r, u = .tuple [r, .int .i64 0].toArray ∧ NU w' r (wd (val la + val lb))) ∨ (¬ ((wd (val la)).length ≤ 8192 ∧ (wd (val lb)).length ≤ 8192 ∧ (wd (val la + val lb)).length ≤ 8192) ∧ u = .tuple [.slice none 0 0, .int .i64 2].toArray)) ∧ Chg [] w w' := by
 have hch : Chg [] w w := Chg.refl _ _
 refine Ret.enter Tryz.func201 rfl rfl ?_
 simp only [args0, Nat.zero_add, Nat.reduceAdd]
 refine Sq fun _ kh1 _ kr2 => ?_
 refine As rfl rfl ?_
 refine As rfl rfl ?_
 refine WL.nil (kr2 _ _ _ (kh1 _ _ _ ?_))
 refine Sq fun _ kh3 _ kr4 => ?_
 refine Mv rfl rfl ?_
 refine Mv rfl rfl ?_
 refine WL.call hasF101 rfl rfl (both_spec _ _ _ _ _ ha hb) fun v w14 h' => ?_
 obtain ⟨h', rfl⟩ := h'
 rcases h' with ⟨hfit, x, y, rfl, hNx, hNy⟩ | ⟨hno, rfl⟩
 ·
  obtain ⟨A, hA⟩ : ∃ A, A = wd (val la) := ⟨_, rfl⟩
  have hvA : val A = val la := by rw [hA]; exact val_wd _
  obtain ⟨B, hB⟩ : ∃ B, B = wd (val lb) := ⟨_, rfl⟩
  have hvB : val B = val lb := by rw [hB]; exact val_wd _
  have hfit0 := hfit
  rw [← hA, ← hB] at hfit
  rw [← hA] at hNx
  rw [← hB] at hNy
  obtain ⟨⟨a1, c1, rfl, hcap1, hr1⟩, hW1, hl1⟩ := hNx
  obtain ⟨⟨a2, c2, rfl, hcap2, hr2⟩, hW2, hl2⟩ := hNy
  refine Mv rfl rfl ?_
  refine WL.ev (Ev.extract rfl rfl) rfl ?_
  refine WL.ev (Ev.extract rfl rfl) rfl ?_
  refine WL.ev (Ev.extract rfl rfl) rfl ?_
  refine As rfl rfl ?_
  refine As rfl rfl ?_
  refine As rfl rfl ?_
  refine WL.nil (kr4 _ _ _ (kh3 _ _ _ ?_))
  refine CW.seq fun _ kh5 => ?_
  refine Sq fun _ kh6 _ kr7 => ?_
  refine Mv rfl rfl ?_
  refine WL.ev (Ev.neq rfl rfl) rfl ?_
  refine WL.nil (kr7 _ _ _ (kh6 _ _ _ ?_))
  refine CW.condF rfl ?_
  refine CW.skip ?_
  refine kh5 _ _ _ ?_
  refine CW.seqJ (fun D s' w' => D = [] ∧ w = w' ∧ ∃ xa ca xb cb X Y, RW w xa (X.map u32v) ∧ W X ∧ RW w xb (Y.map u32v) ∧ W Y ∧ Y.length ≤ X.length ∧ X.length ≤ 8192 ∧ val X + val Y = val la + val lb ∧ Subs [(0, .slice xa X.length ca), (1, .slice xb Y.length cb)] s') ?_ ?_
  ·
   refine Sq fun _ kh9 _ kr10 => ?_
   refine Mv rfl rfl ?_
   refine WL.ev (Ev.len rfl) rfl ?_
   refine Mv rfl rfl ?_
   refine WL.ev (Ev.len rfl) rfl ?_
   refine WL.ev (Ev.lss rfl rfl) rfl ?_
   refine WL.nil (kr10 _ _ _ (kh9 _ _ _ ?_))
   refine CW.cond rfl (fun hc1 => ?_) (fun hc1 => ?_)
   ·
    try simp only [qs] at hc1
    refine CW.region fun kR11 kr11 => ?_
    refine Mv rfl rfl ?_
    refine Mv rfl rfl ?_
    refine As rfl rfl ?_
    refine As rfl rfl ?_
    refine WL.nil (kr11 _ _ _ ?_)
    exact ⟨rfl, rfl, a2, c2, a1, c1, B, A, hr2, hW2, hr1, hW1, by omega, by omega, by omega, (by repeat (first | exact Subs.nil | refine Subs.cons rfl ?_))⟩
   ·
    try simp only [qs] at hc1
    refine CW.skip ?_
    exact ⟨rfl, rfl, a1, c1, a2, c2, A, B, hr1, hW1, hr2, hW2, by omega, by omega, by omega, (by repeat (first | exact Subs.nil | refine Subs.cons rfl ?_))⟩
  ·
   rintro _ s' _ ⟨rfl, rfl, xa, ca, xb, cb, X, Y, hrX, hWX, hrY, hWY, hYX, hX81, hXY, hsub⟩
   refine CW.sub hsub ?_
   refine Sq fun _ kh12 _ kr13 => ?_
   refine Mv rfl rfl ?_
   refine WL.ev (Ev.len rfl) rfl ?_
   first | refine WL.ev (Ev.addIn rfl rfl (by omega)) rfl ?_ | refine WL.ev (Ev.add rfl rfl) rfl ?_
   refine WL.makeU (((X).length + 1)) (((X).length + 1)) rfl rfl (by omega) (by omega) (by omega) (by omega) (by omega) rfl fun b31 wm31 hb31 hcm31 hge31 => ?_
   have hgehch31 := Nat.le_trans hch.size hge31
   have hch := hch.trans (Chg.any hcm31)
   refine As rfl rfl ?_
   refine WL.nil (kr13 _ _ _ (kh12 _ _ _ ?_))
   refine Sq fun _ kh14 _ kr15 => ?_
   refine Mv rfl rfl ?_
   refine Mv rfl rfl ?_
   refine WL.copyU rfl rfl hb31 (hrX.keep0 hch) (by simp; try omega) (by simp; try omega) rfl fun ws2 hb31_ hcs2 => ?_
   have hch := hch.s1 hcs2
   have hb31 := hb31_
   rw [show ((X).take (min ((X).length) (((X).length + 1))) ++ (List.replicate (((X).length + 1)) 0).drop (min ((X).length) (((X).length + 1)))) = (X ++ [0]) from by rw [show min X.length (X.length + 1) = X.length by omega, List.take_length, List.drop_replicate, show X.length + 1 - X.length = 1 by omega]; rfl] at hb31
   refine WL.nil (kr15 _ _ _ (kh14 _ _ _ ?_))
   refine Sq fun _ kh16 _ kr17 => ?_
   refine As rfl rfl ?_
   refine WL.nil (kr17 _ _ _ (kh16 _ _ _ ?_))
   refine CW.seq fun _ kh18 => ?_
   refine Sq fun _ kh19 _ kr20 => ?_
   refine Mv rfl rfl ?_
   refine WL.ev (Ev.len rfl) rfl ?_
   refine Mv rfl rfl ?_
   refine WL.nil (kr20 _ _ _ (kh19 _ _ _ ?_))
   refine CW.block ?_
   refine CW.loop (S := fun g : Nat × List Nat × Nat => [(0, .slice xa X.length ca), (1, .slice xb Y.length cb), (7, .slice (some ⟨b31, 0, none⟩) (X.length + 1) (X.length + 1)), (8, .int .u32 (g.2.2 : Int)), (36, .int .i64 (X.length : Int)), (37, .int .i64 (g.1 : Int))]) (Inv := KA X Y w b31) (mu := fun g => X.length - g.1) ((0, X ++ [0], 0)) ?_ ?_ ?_
   ·
    exact ⟨AddI.zero (by simp) (W_append.2 ⟨hWX, W_cons.2 ⟨by omega, W_nil⟩⟩), hb31, hch⟩
   ·
    repeat (first | exact Subs.nil | refine Subs.cons rfl ?_ | refine Subs.consI rfl (by omega) ?_)
   ·
    rintro ⟨i, L, c⟩ wr ⟨hA, hb31, hch⟩
    dsimp only at hA hb31 hch
    have hiX := hA.le
    have hLl := hA.len
    have hc1 := hA.c1
    refine Sq fun _ kh21 _ kr22 => ?_
    refine WL.ev (Ev.lss rfl rfl) rfl ?_
    refine WL.nil (kr22 _ _ _ (kh21 _ _ _ ?_))
    refine CW.seq fun _ kh23 => ?_
    refine CW.cond rfl (fun hc2 => ?_) (fun hc2 => ?_)
    ·
     try simp only [qs] at hc2
     refine CW.skip ?_
     refine kh23 _ _ _ ?_
     refine CW.seq fun _ kh24 => ?_
     refine CW.block ?_
     refine Sq fun _ kh25 _ kr26 => ?_
     refine Mv rfl rfl ?_
     refine As rfl rfl ?_
     refine WL.nil (kr26 _ _ _ (kh25 _ _ _ ?_))
     refine Sq fun _ kh27 _ kr28 => ?_
     refine As rfl rfl ?_
     refine WL.nil (kr28 _ _ _ (kh27 _ _ _ ?_))
     refine CW.seq fun _ kh29 => ?_
     refine Sq fun _ kh30 _ kr31 => ?_
     refine Mv rfl rfl ?_
     refine Mv rfl rfl ?_
     refine WL.ev (Ev.len rfl) rfl ?_
     refine WL.ev (Ev.lss rfl rfl) rfl ?_
     refine WL.nil (kr31 _ _ _ (kh30 _ _ _ ?_))
     refine CW.cond rfl (fun hc3 => ?_) (fun hc3 => ?_)
     ·
      try simp only [qs] at hc3
      refine CW.region fun kR32 kr32 => ?_
      refine Mv rfl rfl ?_
      refine Mv rfl rfl ?_
      refine WL.ev (Ev.ixR (i) rfl rfl (hrY.keep0 hch) (by omega) (by omega) (by simp; omega)) rfl ?_
      refine WL.ev (Ev.load rfl rfl ((hrY.keep0 hch).u32 (by first | omega | (simp; omega)))) rfl ?_
      have hw47 := hWY.getD (i)
      refine As rfl rfl ?_
      refine WL.nil (kr32 _ _ _ (kh29 _ _ _ ?_))
      refine CW.region fun kR33 kr33 => ?_
      refine Mv rfl rfl ?_
      refine Mv rfl rfl ?_
      refine Mv rfl rfl ?_
      refine Mv rfl rfl ?_
      refine WL.ev (Ev.ixR (i) rfl rfl (hrX.keep0 hch) (by omega) (by omega) (by simp; omega)) rfl ?_
      refine WL.ev (Ev.load rfl rfl ((hrX.keep0 hch).u32 (by first | omega | (simp; omega)))) rfl ?_
      have hw54 := hWX.getD (i)
      refine Mv rfl rfl ?_
      refine Mv rfl rfl ?_
      refine WL.call hasF100 rfl rfl (Add32_spec (X.getD i 0) (Y.getD i 0) c _ (hWX.getD i) (hWY.getD i) (by omega)) fun v w1 h' => ?_
      obtain ⟨rfl, rfl⟩ := h'
      refine Mv rfl rfl ?_
      refine WL.ev (Ev.extract rfl rfl) rfl ?_
      refine WL.ev (Ev.extract rfl rfl) rfl ?_
      refine WL.ev (Ev.ixB (i) rfl rfl (by omega) (by omega)) rfl ?_
      refine WL.storeU rfl rfl hb31 (by first | omega | (simp; omega)) fun ws3 hb31_ hcs3 => ?_
      have hch := hch.s1 hcs3
      have hb31 := hb31_
      refine As rfl rfl ?_
      refine WL.nil (kr33 _ _ _ (kh24 _ _ _ ?_))
      refine CW.region fun kR34 kr34 => ?_
      first | refine WL.ev (Ev.addIn rfl rfl (by omega)) rfl ?_ | refine WL.ev (Ev.add rfl rfl) rfl ?_
      refine Mv rfl rfl ?_
      refine WL.nil (kr34 _ _ _ ?_)
      refine ⟨rfl, (i + 1, L.set i ((X.getD i 0 + Y.getD i 0 + c) % 4294967296), (X.getD i 0 + Y.getD i 0 + c) / 4294967296), ?_, ?_, ?_⟩
      ·
       repeat (first | exact Subs.nil | refine Subs.cons rfl ?_ | refine Subs.consI rfl (by omega) ?_)
      ·
       exact ⟨hA.step hWX hWY (by omega), hb31, hch⟩
      ·
       show X.length - (i + 1) < X.length - i; omega
     ·
      try simp only [qs] at hc3
      have hy0 : Y.getD i 0 = 0 := getD_out (by omega)
      refine CW.skip ?_
      refine kh29 _ _ _ ?_
      refine CW.region fun kR35 kr35 => ?_
      refine Mv rfl rfl ?_
      refine Mv rfl rfl ?_
      refine Mv rfl rfl ?_
      refine Mv rfl rfl ?_
      refine WL.ev (Ev.ixR (i) rfl rfl (hrX.keep0 hch) (by omega) (by omega) (by simp; omega)) rfl ?_
      refine WL.ev (Ev.load rfl rfl ((hrX.keep0 hch).u32 (by first | omega | (simp; omega)))) rfl ?_
      have hw54 := hWX.getD (i)
      refine Mv rfl rfl ?_
      refine Mv rfl rfl ?_
      refine WL.call hasF100 rfl rfl (Add32_spec (X.getD i 0) 0 c _ (hWX.getD i) (by omega) (by omega)) fun v w2 h' => ?_
      obtain ⟨rfl, rfl⟩ := h'
      rw [show X.getD i 0 + 0 + c = X.getD i 0 + Y.getD i 0 + c by omega]
      refine Mv rfl rfl ?_
      refine WL.ev (Ev.extract rfl rfl) rfl ?_
      refine WL.ev (Ev.extract rfl rfl) rfl ?_
      refine WL.ev (Ev.ixB (i) rfl rfl (by omega) (by omega)) rfl ?_
      refine WL.storeU rfl rfl hb31 (by first | omega | (simp; omega)) fun ws4 hb31_ hcs4 => ?_
      have hch := hch.s1 hcs4
      have hb31 := hb31_
      refine As rfl rfl ?_
      refine WL.nil (kr35 _ _ _ (kh24 _ _ _ ?_))
      refine CW.region fun kR36 kr36 => ?_
      first | refine WL.ev (Ev.addIn rfl rfl (by omega)) rfl ?_ | refine WL.ev (Ev.add rfl rfl) rfl ?_
      refine Mv rfl rfl ?_
      refine WL.nil (kr36 _ _ _ ?_)
      refine ⟨rfl, (i + 1, L.set i ((X.getD i 0 + Y.getD i 0 + c) % 4294967296), (X.getD i 0 + Y.getD i 0 + c) / 4294967296), ?_, ?_, ?_⟩
      ·
       repeat (first | exact Subs.nil | refine Subs.cons rfl ?_ | refine Subs.consI rfl (by omega) ?_)
      ·
       exact ⟨hA.step hWX hWY (by omega), hb31, hch⟩
      ·
       show X.length - (i + 1) < X.length - i; omega
    ·
     try simp only [qs] at hc2
     refine CW.exit ?_
     refine kh18 _ _ _ ?_
     refine CW.seq fun _ kh37 => ?_
     have hiX2 : i = X.length := by omega
     subst hiX2
     obtain ⟨hv9, hW9, hl9⟩ := hA.done hYX
     rw [hXY] at hv9
     refine CW.region fun kR38 kr38 => ?_
     refine Mv rfl rfl ?_
     refine Mv rfl rfl ?_
     refine WL.ev (Ev.len rfl) rfl ?_
     refine Mv rfl rfl ?_
     refine WL.ev (Ev.ixB (X.length) rfl rfl (by omega) (by omega)) rfl ?_
     refine WL.storeU rfl rfl hb31 (by first | omega | (simp; omega)) fun ws5 hb31_ hcs5 => ?_
     have hch := hch.s1 hcs5
     have hb31 := hb31_
     refine WL.nil (kr38 _ _ _ (kh37 _ _ _ ?_))
     refine Sq fun _ kh39 _ kr40 => ?_
     refine Mv rfl rfl ?_
     refine WL.call hasF98 rfl rfl (fits_spec _ _ _ (NU.of_block hb31 hW9 (by rw [hl9]; omega) (by rw [hl9]) (Nat.le_refl _))) fun v w68 h' => ?_
     obtain ⟨h', rfl⟩ := h'
     rw [hv9] at h'
     rcases h' with ⟨hfs, r, rfl, hNr⟩ | ⟨hfs, rfl⟩
     ·
      refine WL.ev (Ev.extract rfl rfl) rfl ?_
      refine WL.ev (Ev.extract rfl rfl) rfl ?_
      refine As rfl rfl ?_
      refine As rfl rfl ?_
      refine WL.nil (kr40 _ _ _ (kh39 _ _ _ ?_))
      refine CW.ret ?_
      refine bodyA.ret2 rfl rfl rfl ?_
      exact ⟨.inl ⟨hfit0.1, hfit0.2, hfs, r, rfl, hNr⟩, hch⟩
     ·
      refine WL.ev (Ev.extract rfl rfl) rfl ?_
      refine WL.ev (Ev.extract rfl rfl) rfl ?_
      refine As rfl rfl ?_
      refine As rfl rfl ?_
      refine WL.nil (kr40 _ _ _ (kh39 _ _ _ ?_))
      refine CW.ret ?_
      refine bodyA.ret2 rfl rfl rfl ?_
      exact ⟨.inr ⟨by omega, rfl⟩, hch⟩
 ·
  refine Mv rfl rfl ?_
  refine WL.ev (Ev.extract rfl rfl) rfl ?_
  refine WL.ev (Ev.extract rfl rfl) rfl ?_
  refine WL.ev (Ev.extract rfl rfl) rfl ?_
  refine As rfl rfl ?_
  refine As rfl rfl ?_
  refine As rfl rfl ?_
  refine WL.nil (kr4 _ _ _ (kh3 _ _ _ ?_))
  refine CW.seq fun _ kh41 => ?_
  refine Sq fun _ kh42 _ kr43 => ?_
  refine Mv rfl rfl ?_
  refine WL.ev (Ev.neq rfl rfl) rfl ?_
  refine WL.nil (kr43 _ _ _ (kh42 _ _ _ ?_))
  refine CW.condT rfl ?_
  refine Sq fun _ kh44 _ kr45 => ?_
  refine Mv rfl rfl ?_
  refine As rfl rfl ?_
  refine As rfl rfl ?_
  refine WL.nil (kr45 _ _ _ (kh44 _ _ _ ?_))
  refine CW.ret ?_
  refine bodyA.ret2 rfl rfl rfl ?_
  exact ⟨.inr ⟨by omega, rfl⟩, Chg.refl _ _⟩

end Go.Proofs.YtphnpchmdpjabaaGreatDoor

/- Package wide: less, Sub, Cmp. No condition. -/
namespace Go.Proofs.YtphnpchmdpjabaaGreatDoor
open Go Sx Wd

end Go.Proofs.YtphnpchmdpjabaaGreatDoor

/- Package wide: up, down, Shift, times, Mul. No condition. -/
namespace Go.Proofs.YtphnpchmdpjabaaGreatDoor
open Go Sx Wd

structure KU (l : List Nat) (s : Nat) (w : World) (b : Nat) (g : Nat × List Nat) (wr : World) : Prop where
  a : UpI l s g.1 g.2
  ob : OB wr b 116 g.2
  chg : Chg [] w wr
structure KD (l : List Nat) (s : Nat) (w : World) (b : Nat) (g : Nat × List Nat) (wr : World) : Prop where
  a : DownI l s g.1 g.2
  ob : OB wr b 116 g.2
  chg : Chg [] w wr

set_option maxRecDepth 4000 in
theorem up_spec (v : Value) (l : List Nat) (s : Nat) (w : World) (h : NU w v l) (hs : s < 32) (hlm : l.length < 70368744177664) : Ret Tryz.prog 99 [v, .int .i64 (s : Int)] w fun u w' => ∃ L, NU w' u L ∧ L.length = l.length + 1 ∧ val L = val l * 2 ^ s ∧ Chg [] w w' := by
 obtain ⟨⟨al, cl, rfl, hcapl, hrl⟩, hWl, hll⟩ := h
 have hch : Chg [] w w := Chg.refl _ _
 refine Ret.enter Tryz.func99 rfl rfl ?_
 simp only [args0, Nat.zero_add, Nat.reduceAdd]
 refine Sq fun _ kh1 _ kr2 => ?_
 refine As rfl rfl ?_
 refine WL.nil (kr2 _ _ _ (kh1 _ _ _ ?_))
 refine Sq fun _ kh3 _ kr4 => ?_
 refine Mv rfl rfl ?_
 refine WL.ev (Ev.len rfl) rfl ?_
 first | refine WL.ev (Ev.addIn rfl rfl (by omega)) rfl ?_ | refine WL.ev (Ev.add rfl rfl) rfl ?_
 refine WL.makeU (((l).length + 1)) (((l).length + 1)) rfl rfl (by omega) (by omega) (by omega) (by omega) (by omega) rfl fun b12 wm12 hb12 hcm12 hge12 => ?_
 have hgehch12 := Nat.le_trans hch.size hge12
 have hch := hch.trans (Chg.any hcm12)
 refine As rfl rfl ?_
 refine WL.nil (kr4 _ _ _ (kh3 _ _ _ ?_))
 refine CW.seq fun _ kh5 => ?_
 refine Sq fun _ kh6 _ kr7 => ?_
 refine Mv rfl rfl ?_
 refine WL.ev (Ev.len rfl) rfl ?_
 refine Mv rfl rfl ?_
 refine WL.nil (kr7 _ _ _ (kh6 _ _ _ ?_))
 refine CW.block ?_
 refine CW.loop (S := fun g : Nat × List Nat => [(1, .int .i64 (s : Int)), (5, .slice (some ⟨b12, 0, none⟩) (l.length + 1) (l.length + 1)), (13, .slice al l.length cl), (14, .int .i64 (l.length : Int)), (15, .int .i64 (g.1 : Int))]) (Inv := KU l s w b12) (mu := fun g => l.length - g.1) ((0, List.replicate (l.length + 1) 0)) ?_ ?_ ?_
 ·
  exact ⟨UpI.zero l s, hb12, hch⟩
 ·
  repeat (first | exact Subs.nil | refine Subs.cons rfl ?_ | refine Subs.consI rfl (by omega) ?_)
 ·
  rintro ⟨i, L⟩ wr ⟨hAd, hb12, hch⟩
  dsimp only at hAd hb12 hch
  have hiX := hAd.le
  have hLl := hAd.len
  have hWL := hAd.w
  refine Sq fun _ kh8 _ kr9 => ?_
  refine WL.ev (Ev.lss rfl rfl) rfl ?_
  refine WL.nil (kr9 _ _ _ (kh8 _ _ _ ?_))
  refine CW.seq fun _ kh10 => ?_
  refine CW.cond rfl (fun hc1 => ?_) (fun hc1 => ?_)
  ·
   try simp only [qs] at hc1
   have hst := hAd.step hs hWl (by omega)
   refine CW.skip ?_
   refine kh10 _ _ _ ?_
   refine CW.seq fun _ kh11 => ?_
   refine CW.block ?_
   refine Sq fun _ kh12 _ kr13 => ?_
   refine Mv rfl rfl ?_
   refine WL.ev (Ev.ixR (i) rfl rfl (hrl.keep0 hch) (by omega) (by omega) (by simp; omega)) rfl ?_
   refine WL.ev (Ev.load rfl rfl ((hrl.keep0 hch).u32 (by first | omega | (simp; omega)))) rfl ?_
   have hw19 := hWl.getD (i)
   refine As rfl rfl ?_
   refine As rfl rfl ?_
   refine WL.nil (kr13 _ _ _ (kh12 _ _ _ ?_))
   refine Sq fun _ kh14 _ kr15 => ?_
   refine Mv rfl rfl ?_
   refine WL.ev (Ev.convIn rfl rfl (in_u64 (by omega))) rfl ?_
   refine Mv rfl rfl ?_
   refine WL.ev (Ev.shlU64 rfl rfl) rfl ?_
   refine As rfl rfl ?_
   refine WL.nil (kr15 _ _ _ (kh14 _ _ _ ?_))
   refine Sq fun _ kh16 _ kr17 => ?_
   refine Mv rfl rfl ?_
   refine Mv rfl rfl ?_
   refine WL.ev (Ev.ixB (i) rfl rfl (by omega) (by omega)) rfl ?_
   refine WL.ev (Ev.load rfl rfl (hb12.u32 (by first | omega | (simp; omega)))) rfl ?_
   have hw27 := hWL.getD (i)
   refine Mv rfl rfl ?_
   refine WL.ev (Ev.conv32 rfl rfl) rfl ?_
   refine WL.ev (Ev.orU rfl rfl rfl (by simp only [IntKind.bits]; omega) (by simp only [IntKind.bits]; omega)) rfl ?_
   refine WL.ev (Ev.ixB (i) rfl rfl (by omega) (by omega)) rfl ?_
   refine WL.storeU rfl rfl hb12 (by first | omega | (simp; omega)) fun ws8 hb12_ hcs8 => ?_
   have hch := hch.s1 hcs8
   have hb12 := hb12_
   refine WL.nil (kr17 _ _ _ (kh16 _ _ _ ?_))
   refine CW.region fun kR18 kr18 => ?_
   refine Mv rfl rfl ?_
   refine Mv rfl rfl ?_
   first | refine WL.ev (Ev.addIn rfl rfl (by omega)) rfl ?_ | refine WL.ev (Ev.add rfl rfl) rfl ?_
   refine Mv rfl rfl ?_
   refine WL.ev (Ev.shrU (b := 32) rfl rfl (by simp only [IntKind.bits]; omega)) rfl ?_
   refine WL.ev (Ev.conv32 rfl rfl) rfl ?_
   refine WL.ev (Ev.ixB ((i + 1)) rfl rfl (by omega) (by omega)) rfl ?_
   refine WL.storeU rfl rfl hb12 (by first | omega | (simp; omega)) fun ws9 hb12_ hcs9 => ?_
   have hch := hch.s1 hcs9
   have hb12 := hb12_
   refine WL.nil (kr18 _ _ _ (kh11 _ _ _ ?_))
   refine CW.region fun kR19 kr19 => ?_
   first | refine WL.ev (Ev.addIn rfl rfl (by omega)) rfl ?_ | refine WL.ev (Ev.add rfl rfl) rfl ?_
   refine Mv rfl rfl ?_
   refine WL.nil (kr19 _ _ _ ?_)
   refine ⟨rfl, (i + 1, (L.set i (L.getD i 0 ||| (l.getD i 0 * 2 ^ s % 18446744073709551616 % 4294967296))).set (i + 1) (l.getD i 0 * 2 ^ s % 18446744073709551616 / 2 ^ 32 % 4294967296)), ?_, ?_, ?_⟩
   ·
    repeat (first | exact Subs.nil | refine Subs.cons rfl ?_ | refine Subs.consI rfl (by omega) ?_)
   ·
    exact ⟨hst.2, hb12, hch⟩
   ·
    show l.length - (i + 1) < l.length - i; omega
  ·
   try simp only [qs] at hc1
   refine CW.exit ?_
   refine kh5 _ _ _ ?_
   refine Sq fun _ kh20 _ kr21 => ?_
   refine Mv rfl rfl ?_
   refine As rfl rfl ?_
   refine WL.nil (kr21 _ _ _ (kh20 _ _ _ ?_))
   refine CW.ret ?_
   refine bodyA.ret1 rfl rfl ?_
   have hiX2 : i = l.length := by omega
   subst hiX2
   exact ⟨L, NU.of_block hb12 hAd.w (by omega) (by omega) (Nat.le_refl _), hAd.len, hAd.done, hch⟩

set_option maxRecDepth 4000 in
theorem down_spec (v : Value) (l : List Nat) (s : Nat) (w : World) (h : NU w v l) (hs : s < 32) : Ret Tryz.prog 97 [v, .int .i64 (s : Int)] w fun u w' => ∃ L, NU w' u L ∧ val L = val l / 2 ^ s ∧ Chg [] w w' := by
 obtain ⟨⟨al, cl, rfl, hcapl, hrl⟩, hWl, hll⟩ := h
 have hch : Chg [] w w := Chg.refl _ _
 refine Ret.enter Tryz.func97 rfl rfl ?_
 simp only [args0, Nat.zero_add, Nat.reduceAdd]
 refine Sq fun _ kh1 _ kr2 => ?_
 refine As rfl rfl ?_
 refine WL.nil (kr2 _ _ _ (kh1 _ _ _ ?_))
 refine Sq fun _ kh3 _ kr4 => ?_
 refine Mv rfl rfl ?_
 refine WL.ev (Ev.len rfl) rfl ?_
 refine WL.makeU ((l).length) ((l).length) rfl rfl (by omega) (by omega) (by omega) (by omega) (by omega) rfl fun b11 wm11 hb11 hcm11 hge11 => ?_
 have hgehch11 := Nat.le_trans hch.size hge11
 have hch := hch.trans (Chg.any hcm11)
 refine As rfl rfl ?_
 refine WL.nil (kr4 _ _ _ (kh3 _ _ _ ?_))
 refine CW.seq fun _ kh5 => ?_
 refine Sq fun _ kh6 _ kr7 => ?_
 refine Mv rfl rfl ?_
 refine WL.ev (Ev.len rfl) rfl ?_
 refine Mv rfl rfl ?_
 refine WL.nil (kr7 _ _ _ (kh6 _ _ _ ?_))
 refine CW.block ?_
 refine CW.loop (S := fun g : Nat × List Nat => [(0, .slice al l.length cl), (1, .int .i64 (s : Int)), (5, .slice (some ⟨b11, 0, none⟩) l.length l.length), (12, .slice al l.length cl), (13, .int .i64 (l.length : Int)), (14, .int .i64 (g.1 : Int))]) (Inv := KD l s w b11) (mu := fun g => l.length - g.1) ((0, List.replicate l.length 0)) ?_ ?_ ?_
 ·
  exact ⟨DownI.zero l _ s (by simp) (W_replicate _), hb11, hch⟩
 ·
  repeat (first | exact Subs.nil | refine Subs.cons rfl ?_ | refine Subs.consI rfl (by omega) ?_)
 ·
  rintro ⟨i, L⟩ wr ⟨hAd, hb11, hch⟩
  dsimp only at hAd hb11 hch
  have hiX := hAd.le
  have hLl := hAd.len
  have hWL := hAd.w
  refine Sq fun _ kh8 _ kr9 => ?_
  refine WL.ev (Ev.lss rfl rfl) rfl ?_
  refine WL.nil (kr9 _ _ _ (kh8 _ _ _ ?_))
  refine CW.seq fun _ kh10 => ?_
  refine CW.cond rfl (fun hc1 => ?_) (fun hc1 => ?_)
  ·
   try simp only [qs] at hc1
   refine CW.skip ?_
   refine kh10 _ _ _ ?_
   refine CW.seq fun _ kh11 => ?_
   refine CW.block ?_
   refine Sq fun _ kh12 _ kr13 => ?_
   refine Mv rfl rfl ?_
   refine WL.ev (Ev.ixR (i) rfl rfl (hrl.keep0 hch) (by omega) (by omega) (by simp; omega)) rfl ?_
   refine WL.ev (Ev.load rfl rfl ((hrl.keep0 hch).u32 (by first | omega | (simp; omega)))) rfl ?_
   have hw18 := hWl.getD (i)
   refine As rfl rfl ?_
   refine As rfl rfl ?_
   refine WL.nil (kr13 _ _ _ (kh12 _ _ _ ?_))
   refine Sq fun _ kh14 _ kr15 => ?_
   refine Mv rfl rfl ?_
   refine WL.ev (Ev.convIn rfl rfl (in_u64 (by omega))) rfl ?_
   refine As rfl rfl ?_
   refine WL.nil (kr15 _ _ _ (kh14 _ _ _ ?_))
   refine CW.seq fun _ kh16 => ?_
   refine Sq fun _ kh17 _ kr18 => ?_
   refine Mv rfl rfl ?_
   first | refine WL.ev (Ev.addIn rfl rfl (by omega)) rfl ?_ | refine WL.ev (Ev.add rfl rfl) rfl ?_
   refine Mv rfl rfl ?_
   refine WL.ev (Ev.len rfl) rfl ?_
   refine WL.ev (Ev.lss rfl rfl) rfl ?_
   refine WL.nil (kr18 _ _ _ (kh17 _ _ _ ?_))
   refine CW.cond rfl (fun hc2 => ?_) (fun hc2 => ?_)
   ·
    try simp only [qs] at hc2
    refine CW.region fun kR19 kr19 => ?_
    refine Mv rfl rfl ?_
    refine Mv rfl rfl ?_
    refine Mv rfl rfl ?_
    first | refine WL.ev (Ev.addIn rfl rfl (by omega)) rfl ?_ | refine WL.ev (Ev.add rfl rfl) rfl ?_
    refine WL.ev (Ev.ixR ((i + 1)) rfl rfl (hrl.keep0 hch) (by omega) (by omega) (by simp; omega)) rfl ?_
    refine WL.ev (Ev.load rfl rfl ((hrl.keep0 hch).u32 (by first | omega | (simp; omega)))) rfl ?_
    have hw31 := hWl.getD ((i + 1))
    refine WL.ev (Ev.convIn rfl rfl (in_u64 (by omega))) rfl ?_
    refine WL.ev (Ev.shlU64 (b := 32) rfl rfl) rfl ?_
    refine WL.ev (Ev.orU rfl rfl rfl (by simp only [IntKind.bits]; omega) (by simp only [IntKind.bits]; omega)) rfl ?_
    rw [Nat.mod_eq_of_lt (show l.getD (i + 1) 0 * 2 ^ 32 < 18446744073709551616 by omega), or_of_mul (show l.getD i 0 < 2 ^ 32 by omega), show l.getD (i + 1) 0 * 2 ^ 32 = l.getD (i + 1) 0 * 4294967296 from rfl]
    refine As rfl rfl ?_
    refine WL.nil (kr19 _ _ _ (kh16 _ _ _ ?_))
    refine CW.region fun kR20 kr20 => ?_
    refine Mv rfl rfl ?_
    refine Mv rfl rfl ?_
    refine Mv rfl rfl ?_
    refine Mv rfl rfl ?_
    have hdl : (l.getD i 0 + l.getD (i + 1) 0 * 4294967296) / 2 ^ s ≤ l.getD i 0 + l.getD (i + 1) 0 * 4294967296 := Nat.div_le_self _ _
    have hw1 := hWl.getD (i + 1)
    refine WL.ev (Ev.shrU rfl rfl (by simp only [IntKind.bits]; omega)) rfl ?_
    refine WL.ev (Ev.conv32 rfl rfl) rfl ?_
    refine WL.ev (Ev.ixB (i) rfl rfl (by omega) (by omega)) rfl ?_
    refine WL.storeU rfl rfl hb11 (by first | omega | (simp; omega)) fun ws10 hb11_ hcs10 => ?_
    have hch := hch.s1 hcs10
    have hb11 := hb11_
    refine WL.nil (kr20 _ _ _ (kh11 _ _ _ ?_))
    refine CW.region fun kR21 kr21 => ?_
    first | refine WL.ev (Ev.addIn rfl rfl (by omega)) rfl ?_ | refine WL.ev (Ev.add rfl rfl) rfl ?_
    refine Mv rfl rfl ?_
    refine WL.nil (kr21 _ _ _ ?_)
    refine ⟨rfl, (i + 1, L.set i ((l.getD i 0 + l.getD (i + 1) 0 * 4294967296) / 2 ^ s % 4294967296)), ?_, ?_, ?_⟩
    ·
     repeat (first | exact Subs.nil | refine Subs.cons rfl ?_ | refine Subs.consI rfl (by omega) ?_)
    ·
     exact ⟨hAd.step hs hWl (by omega) rfl, hb11, hch⟩
    ·
     show l.length - (i + 1) < l.length - i; omega
   ·
    try simp only [qs] at hc2
    have hz1 : l.getD (i + 1) 0 = 0 := getD_out (by omega)
    have e0 : (l.getD i 0) = l.getD i 0 + l.getD (i + 1) 0 * 4294967296 := by omega
    refine CW.skip ?_
    refine kh16 _ _ _ ?_
    refine CW.region fun kR22 kr22 => ?_
    refine Mv rfl rfl ?_
    refine Mv rfl rfl ?_
    refine Mv rfl rfl ?_
    rw [show (Value.int IntKind.u64 ((l.getD i 0 : Nat) : Int)) = Value.int IntKind.u64 ((l.getD i 0 + l.getD (i + 1) 0 * 4294967296 : Nat) : Int) from congrArg (fun q : Nat => Value.int IntKind.u64 (q : Int)) e0]
    refine Mv rfl rfl ?_
    have hdl : (l.getD i 0 + l.getD (i + 1) 0 * 4294967296) / 2 ^ s ≤ l.getD i 0 + l.getD (i + 1) 0 * 4294967296 := Nat.div_le_self _ _
    have hw1 := hWl.getD (i + 1)
    refine WL.ev (Ev.shrU rfl rfl (by simp only [IntKind.bits]; omega)) rfl ?_
    refine WL.ev (Ev.conv32 rfl rfl) rfl ?_
    refine WL.ev (Ev.ixB (i) rfl rfl (by omega) (by omega)) rfl ?_
    refine WL.storeU rfl rfl hb11 (by first | omega | (simp; omega)) fun ws11 hb11_ hcs11 => ?_
    have hch := hch.s1 hcs11
    have hb11 := hb11_
    refine WL.nil (kr22 _ _ _ (kh11 _ _ _ ?_))
    refine CW.region fun kR23 kr23 => ?_
    first | refine WL.ev (Ev.addIn rfl rfl (by omega)) rfl ?_ | refine WL.ev (Ev.add rfl rfl) rfl ?_
    refine Mv rfl rfl ?_
    refine WL.nil (kr23 _ _ _ ?_)
    refine ⟨rfl, (i + 1, L.set i ((l.getD i 0 + l.getD (i + 1) 0 * 4294967296) / 2 ^ s % 4294967296)), ?_, ?_, ?_⟩
    ·
     repeat (first | exact Subs.nil | refine Subs.cons rfl ?_ | refine Subs.consI rfl (by omega) ?_)
    ·
     exact ⟨hAd.step hs hWl (by omega) rfl, hb11, hch⟩
    ·
     show l.length - (i + 1) < l.length - i; omega
  ·
   try simp only [qs] at hc1
   refine CW.exit ?_
   refine kh5 _ _ _ ?_
   refine Sq fun _ kh24 _ kr25 => ?_
   refine Mv rfl rfl ?_
   refine As rfl rfl ?_
   refine WL.nil (kr25 _ _ _ (kh24 _ _ _ ?_))
   refine CW.ret ?_
   refine bodyA.ret1 rfl rfl ?_
   have hiX2 : i = l.length := by omega
   subst hiX2
   exact ⟨L, NU.of_block hb11 hAd.w (by omega) (by omega) (Nat.le_refl _), hAd.done hWl, hch⟩

end Go.Proofs.YtphnpchmdpjabaaGreatDoor

/- Package wide: Mul, Shift; math/bits: Mul64. No condition. -/
namespace Go.Proofs.YtphnpchmdpjabaaGreatDoor
open Go Sx Wd

/-- A number moved, up or down. -/
def shiftN (n : Nat) (s : Int) : Nat := if s < 0 then n / 2 ^ (-s).toNat else n * 2 ^ s.toNat
theorem shiftN_neg (n q : Nat) (h : 0 < q) : shiftN n (-(q : Int)) = n / 2 ^ q := by
  unfold shiftN; rw [if_pos (by omega), show (- -(q : Int)).toNat = q by omega]
theorem shiftN_pos (n q : Nat) : shiftN n (q : Int) = n * 2 ^ q := by
  unfold shiftN; rw [if_neg (by omega), show (q : Int).toNat = q by omega]
theorem shiftN_out {n : Nat} {s : Int} (h : n = 0 ∨ s ≤ -(bl n : Int)) : shiftN n s = 0 := by
  rcases h with rfl | h
  · unfold shiftN; split <;> simp
  · by_cases h0 : n = 0
    · subst h0; unfold shiftN; split <;> simp
    · have := bl_pos h0
      obtain ⟨q, rfl⟩ : ∃ q : Nat, s = -(q : Int) := ⟨(-s).toNat, by omega⟩
      rw [shiftN_neg _ _ (by omega)]
      exact Nat.div_eq_of_lt (bl_le.1 (by omega))
theorem div_words {n q : Nat} : n / 2 ^ (32 * (q / 32)) / 2 ^ (q % 32) = n / 2 ^ q := by
  rw [Nat.div_div_eq_div_mul, ← Nat.pow_add, show 32 * (q / 32) + q % 32 = q by omega]
theorem bl_words {n k : Nat} : bl n ≤ 32 * k ↔ (wd n).length ≤ k := by rw [bl_le, wd_length_le]

set_option maxRecDepth 4000 in
theorem Shift_spec (v : Value) (l : List Nat) (s : Int) (w : World) (h : NU w v l) (hs : -9223372036854775808 ≤ s ∧ s ≤ 9223372036854775807) : Ret Tryz.prog 48 [v, .int .i64 s] w fun u w' => ((((wd (val l)).length ≤ 8192 ∧ (val l = 0 ∨ s ≤ 262144 - (bl (val l) : Int))) ∧ ∃ r, u = .tuple [r, .int .i64 0].toArray ∧ NU w' r (wd (shiftN (val l) s))) ∨ (¬ (((wd (val l)).length ≤ 8192 ∧ (val l = 0 ∨ s ≤ 262144 - (bl (val l) : Int)))) ∧ u = .tuple [.slice none 0 0, .int .i64 2].toArray)) ∧ Chg [] w w' := by
 obtain ⟨A, hA⟩ : ∃ A, A = wd (val l) := ⟨_, rfl⟩
 have hvA : val A = val l := by rw [hA]; exact val_wd _
 have hb32 := bl_words (n := val l) (k := 8192)
 have hbz := bl_eq_zero (n := val l)
 rw [← hA] at hb32
 have hbA : bl (val l) ≤ 32 * A.length := by rw [bl_words, ← hA]; exact Nat.le_refl _
 have hch : Chg [] w w := Chg.refl _ _
 refine Ret.enter Tryz.func48 rfl rfl ?_
 simp only [args0, Nat.zero_add, Nat.reduceAdd]
 refine Sq fun _ kh1 _ kr2 => ?_
 refine As rfl rfl ?_
 refine As rfl rfl ?_
 refine WL.nil (kr2 _ _ _ (kh1 _ _ _ ?_))
 refine Sq fun _ kh3 _ kr4 => ?_
 refine Mv rfl rfl ?_
 refine WL.call hasF95 rfl rfl (cut_spec _ _ _ h) fun v w1 h' => ?_
 obtain ⟨hN1, rfl⟩ := h'
 rw [← hA] at hN1
 obtain ⟨⟨a1, c1, rfl, hcap1, hr1⟩, hW1, hl1⟩ := hN1
 refine As rfl rfl ?_
 refine WL.nil (kr4 _ _ _ (kh3 _ _ _ ?_))
 refine CW.seq fun _ kh5 => ?_
 refine CW.block ?_
 refine Sq fun _ kh6 _ kr7 => ?_
 refine Mv rfl rfl ?_
 refine WL.ev (Ev.len rfl) rfl ?_
 refine WL.ev (Ev.gtr rfl rfl) rfl ?_
 refine As rfl rfl ?_
 refine WL.nil (kr7 _ _ _ (kh6 _ _ _ ?_))
 refine CW.cond rfl (fun hc1 => ?_) (fun hc1 => ?_)
 ·
  try simp only [qs] at hc1
  refine Sq fun _ kh8 _ kr9 => ?_
  refine As rfl rfl ?_
  refine As rfl rfl ?_
  refine WL.nil (kr9 _ _ _ (kh8 _ _ _ ?_))
  refine CW.ret ?_
  refine bodyA.ret2 rfl rfl rfl ?_
  rw [← hA]
  exact ⟨.inr ⟨by omega, rfl⟩, hch⟩
 ·
  try simp only [qs] at hc1
  have hN1 : NU w (.slice a1 A.length c1) A := NU.of_row hr1 hW1 hl1 rfl hcap1
  have hAz : A.length = 0 ↔ val l = 0 := by rw [← hvA]; rw [hA]; rw [val_wd]; rw [List.length_eq_zero_iff, wd_eq_nil]
  refine Sq fun _ kh10 _ kr11 => ?_
  refine Mv rfl rfl ?_
  refine WL.ev (Ev.len rfl) rfl ?_
  refine WL.ev (Ev.eql rfl rfl) rfl ?_
  refine Mv rfl rfl ?_
  refine WL.boolCase (fun hg2 => ?_) (fun hg2 => ?_)
  ·
   try simp only [qs] at hg2
   refine WL.pass rfl rfl rfl rfl rfl ?_
   refine WL.pass rfl rfl rfl rfl rfl ?_
   refine WL.pass rfl rfl rfl rfl rfl ?_
   refine WL.pass rfl rfl rfl rfl rfl ?_
   refine WL.pass rfl rfl rfl rfl rfl ?_
   refine WL.ev (Ev.pickT rfl rfl rfl) rfl ?_
   refine As rfl rfl ?_
   refine WL.nil (kr11 _ _ _ (kh10 _ _ _ ?_))
   refine CW.condT rfl ?_
   refine Sq fun _ kh12 _ kr13 => ?_
   refine As rfl rfl ?_
   refine As rfl rfl ?_
   refine WL.nil (kr13 _ _ _ (kh12 _ _ _ ?_))
   refine CW.ret ?_
   refine bodyA.ret2 rfl rfl rfl ?_
   have h0 : val l = 0 := by omega
   rw [shiftN_out (.inl h0), wd_zero, ← hA]
   exact ⟨.inl ⟨⟨by omega, .inl h0⟩, _, rfl, NU.nil⟩, hch⟩
  ·
   try simp only [qs] at hg2
   refine WL.want rfl rfl rfl rfl ?_
   refine Mv rfl rfl ?_
   refine WL.want rfl rfl rfl rfl ?_
   refine Mv rfl rfl ?_
   refine WL.want rfl rfl rfl rfl ?_
   refine WL.call hasF96 rfl rfl (Len_spec _ _ _ hN1) fun v w2 h' => ?_
   obtain ⟨rfl, rfl⟩ := h'
   rw [hvA]
   refine WL.want rfl rfl rfl rfl ?_
   refine WL.ev (Ev.negIn rfl (by omega)) rfl ?_
   refine WL.want rfl rfl rfl rfl ?_
   refine WL.ev (Ev.leq rfl rfl) rfl ?_
   refine WL.ev (Ev.pickF rfl rfl rfl) rfl ?_
   refine As rfl rfl ?_
   refine WL.nil (kr11 _ _ _ (kh10 _ _ _ ?_))
   refine CW.cond rfl (fun hc3 => ?_) (fun hc3 => ?_)
   ·
    try simp only [qs] at hc3
    refine Sq fun _ kh14 _ kr15 => ?_
    refine As rfl rfl ?_
    refine As rfl rfl ?_
    refine WL.nil (kr15 _ _ _ (kh14 _ _ _ ?_))
    refine CW.ret ?_
    refine bodyA.ret2 rfl rfl rfl ?_
    rw [shiftN_out (.inr (by omega)), wd_zero, ← hA]
    exact ⟨.inl ⟨⟨by omega, .inr (by omega)⟩, _, rfl, NU.nil⟩, hch⟩
   ·
    try simp only [qs] at hc3
    refine Sq fun _ kh16 _ kr17 => ?_
    refine Mv rfl rfl ?_
    refine WL.ev (Ev.lss rfl rfl) rfl ?_
    refine As rfl rfl ?_
    refine WL.nil (kr17 _ _ _ (kh16 _ _ _ ?_))
    refine CW.cond rfl (fun hc4 => ?_) (fun hc4 => ?_)
    ·
     try simp only [qs] at hc4
     obtain ⟨q, rfl⟩ : ∃ q : Nat, s = -(q : Int) := ⟨(-s).toNat, by omega⟩
     have hN1d : NU w (.slice (cutAt a1 (q / 32) c1 1) (A.length - q / 32) (c1 - q / 32)) (A.drop (q / 32)) := NU.of_row (by rw [List.map_drop]; exact hr1.cut _ _ (by simp; omega) (by simpa using hcap1)) (hW1.drop _) (by simp; omega) (by simp) (by omega)
     refine Sq fun _ kh18 _ kr19 => ?_
     refine Mv rfl rfl ?_
     refine Mv rfl rfl ?_
     refine WL.ev (Ev.negIn rfl (by omega)) rfl ?_
     rw [Int.neg_neg]
     refine WL.ev (Ev.quoU (b := 32) rfl rfl (by omega) (in_i64 (by omega)).2) rfl ?_
     refine WL.ev (Ev.sliceLn ((q / 32)) rfl rfl (by omega) (by omega)) rfl ?_
     refine Mv rfl rfl ?_
     refine WL.ev (Ev.negIn rfl (by omega)) rfl ?_
     rw [Int.neg_neg]
     refine WL.ev (Ev.remU (b := 32) rfl rfl (by omega)) rfl ?_
     refine WL.call hasF97 rfl rfl (down_spec _ _ _ _ hN1d (by omega)) fun v w3 h' => ?_
     obtain ⟨L, hNL, hvL, hC35⟩ := h'
     have hch := hch.trans hC35
     rw [val_drop hW1 _ (by omega), hvA, div_words] at hvL
     refine WL.call hasF92 rfl rfl (Norm_spec _ _ _ hNL) fun v w4 h' => ?_
     obtain ⟨hNR, hC36⟩ := h'
     have hch := hch.trans hC36
     rw [hvL] at hNR
     refine As rfl rfl ?_
     refine As rfl rfl ?_
     refine WL.nil (kr19 _ _ _ (kh18 _ _ _ ?_))
     refine CW.ret ?_
     refine bodyA.ret2 rfl rfl rfl ?_
     rw [shiftN_neg _ _ (by omega), ← hA]
     exact ⟨.inl ⟨⟨by omega, .inr (by omega)⟩, _, rfl, hNR⟩, hch⟩
    ·
     try simp only [qs] at hc4
     obtain ⟨q, rfl⟩ : ∃ q : Nat, s = (q : Int) := ⟨s.toNat, by omega⟩
     refine Sq fun _ kh20 _ kr21 => ?_
     refine Mv rfl rfl ?_
     refine Mv rfl rfl ?_
     refine WL.call hasF96 rfl rfl (Len_spec _ _ _ hN1) fun v w5 h' => ?_
     obtain ⟨rfl, rfl⟩ := h'
     rw [hvA]
     first | refine WL.ev (Ev.subIn rfl rfl (by omega)) rfl ?_ | refine WL.ev (Ev.sub rfl rfl) rfl ?_
     refine WL.ev (Ev.gtr rfl rfl) rfl ?_
     refine As rfl rfl ?_
     refine WL.nil (kr21 _ _ _ (kh20 _ _ _ ?_))
     refine CW.cond rfl (fun hc5 => ?_) (fun hc5 => ?_)
     ·
      try simp only [qs] at hc5
      refine Sq fun _ kh22 _ kr23 => ?_
      refine As rfl rfl ?_
      refine As rfl rfl ?_
      refine WL.nil (kr23 _ _ _ (kh22 _ _ _ ?_))
      refine CW.ret ?_
      refine bodyA.ret2 rfl rfl rfl ?_
      rw [← hA]
      exact ⟨.inr ⟨by omega, rfl⟩, hch⟩
     ·
      try simp only [qs] at hc5
      refine CW.skip ?_
      refine kh5 _ _ _ ?_
      refine Sq fun _ kh24 _ kr25 => ?_
      refine Mv rfl rfl ?_
      refine WL.ev (Ev.quoU (b := 32) rfl rfl (by omega) (in_i64 (by omega)).2) rfl ?_
      refine Mv rfl rfl ?_
      refine WL.ev (Ev.quoU (b := 32) rfl rfl (by omega) (in_i64 (by omega)).2) rfl ?_
      refine Mv rfl rfl ?_
      refine WL.ev (Ev.len rfl) rfl ?_
      first | refine WL.ev (Ev.addIn rfl rfl (by omega)) rfl ?_ | refine WL.ev (Ev.add rfl rfl) rfl ?_
      first | refine WL.ev (Ev.addIn rfl rfl (by omega)) rfl ?_ | refine WL.ev (Ev.add rfl rfl) rfl ?_
      refine WL.makeU ((q / 32)) ((((q / 32) + (A).length) + 1)) rfl rfl (by omega) (by omega) (by omega) (by omega) (by omega) rfl fun b51 wm51 hb51 hcm51 hge51 => ?_
      have hgehch51 := Nat.le_trans hch.size hge51
      have hch := hch.trans (Chg.any hcm51)
      refine As rfl rfl ?_
      refine WL.nil (kr25 _ _ _ (kh24 _ _ _ ?_))
      refine Sq fun _ kh26 _ kr27 => ?_
      refine Mv rfl rfl ?_
      refine Mv rfl rfl ?_
      refine Mv rfl rfl ?_
      refine WL.ev (Ev.remU (b := 32) rfl rfl (by omega)) rfl ?_
      refine WL.call hasF99 rfl rfl (up_spec _ _ _ _ (hN1.keep0 hch) (by omega) (by omega)) fun v w6 h' => ?_
      obtain ⟨L, hNL, hlL, hvL, hC56⟩ := h'
      have hch := hch.trans hC56
      have hb51 := hb51.keep0 hC56
      obtain ⟨⟨a2, c2, rfl, hcap2, hr2⟩, hW2, hl2⟩ := hNL
      rw [hvA] at hvL
      obtain ⟨ad2, rfl⟩ := hr2.some_ (by simp; omega)
      have hown := own_of_OB (k := q / 32) hb51 (by simp; omega) (by simp; omega)
      rw [List.length_replicate] at hown
      refine WL.append (m := q / 32) (mm := L.length) (news := L.map u32v) (by rfl) (by decide) rfl rfl hown (by simp) (fun j u hu => by obtain ⟨ad3, e3, h3⟩ := hr2 j u hu; cases e3; exact h3) (u32_one _) (by unfold maxLen; omega) (by omega) rfl fun v57 w57 hown2 hcs57 hloc57 => ?_
      have hfr57 : ∀ y ∈ (Value.slice (some ⟨b51, 0, none⟩) (q / 32) (q / 32 + A.length + 1)).ownBlock.toList, w.heap.size ≤ y := fun y hy => by
       have hy2 : y = b51 := by simpa [Value.ownBlock] using hy
       subst hy2; assumption
      have hch := hch.step hcs57 (fun y hy => .inr (hfr57 y hy))
      rw [← List.map_append] at hown2
      have hN57 := NU.of_own hown2 (W_append.2 ⟨(W_replicate _).take _, hW2⟩) (by simp; omega)
      have hv57 : val ((List.replicate (q / 32 + A.length + 1) 0).take (q / 32) ++ L) = val l * 2 ^ q := by
       rw [List.take_replicate, show min (q / 32) (q / 32 + A.length + 1) = q / 32 by omega, val_append, val_replicate, List.length_replicate, hvL, Nat.zero_add, Nat.mul_left_comm, ← Nat.pow_add, show 32 * (q / 32) + q % 32 = q by omega]
      refine WL.call hasF98 rfl rfl (fits_spec _ _ _ hN57) fun v w7 h' => ?_
      obtain ⟨h', rfl⟩ := h'
      rw [hv57] at h'
      obtain ⟨hfs, r, rfl, hNr⟩ := h'.resolve_right (fun q1 => by
       have q2 := q1.1
       have q3 : (wd (val l * 2 ^ q)).length ≤ 8192 := by
        refine bl_words.1 ?_
        by_cases h0 : val l = 0
        · rw [h0]; simp [bl_zero]
        · rw [bl_mul_pow h0]; omega
       omega)
      refine WL.ev (Ev.extract rfl rfl) rfl ?_
      refine WL.ev (Ev.extract rfl rfl) rfl ?_
      refine As rfl rfl ?_
      refine As rfl rfl ?_
      refine WL.nil (kr27 _ _ _ (kh26 _ _ _ ?_))
      refine CW.ret ?_
      refine bodyA.ret2 rfl rfl rfl ?_
      rw [shiftN_pos, ← hA]
      exact ⟨.inl ⟨⟨by omega, .inr (by omega)⟩, r, rfl, hNr⟩, hch⟩

end Go.Proofs.YtphnpchmdpjabaaGreatDoor

/- Dyads as plain numbers: their form, sums, products. No condition. -/
namespace Go.Proofs.YtphnpchmdpjabaaGreatDoor.Wd

theorem eq_of_val {a b : List Nat} (ha : W a) (hb : W b) (hl : a.length = b.length) (hv : val a = val b) : a = b := by
  induction a generalizing b with
  | nil => cases b with
    | nil => rfl
    | cons y b => simp at hl
  | cons x a ih =>
    cases b with
    | nil => simp at hl
    | cons y b =>
      obtain ⟨h1, h2⟩ := W_cons.1 ha
      obtain ⟨h3, h4⟩ := W_cons.1 hb
      simp only [val] at hv
      have e1 : x = y := by omega
      have e2 := ih h2 h4 (by simpa using hl) (by omega)
      rw [e1, e2]
/-- A word moved down, with the next one's low bits over it. -/
theorem low_or {x y s : Nat} (hx : x < 4294967296) (hs : s < 32) : x / 2 ^ s ||| (y * 2 ^ (32 - s) % 4294967296) = (x + y * 4294967296) / 2 ^ s % 4294967296 := by
  have hp := Nat.two_pow_pos s
  have e32 : (4294967296 : Nat) = 2 ^ s * 2 ^ (32 - s) := by rw [← Nat.pow_add, show s + (32 - s) = 32 by omega]
  have e1 : y * 2 ^ (32 - s) % 4294967296 = (y % 2 ^ s) * 2 ^ (32 - s) := by rw [e32, Nat.mul_mod_mul_right]
  have hq : x / 2 ^ s < 2 ^ (32 - s) := by
    rw [Nat.div_lt_iff_lt_mul hp, Nat.mul_comm, ← e32]; exact hx
  have e2 : (x + y * 4294967296) / 2 ^ s = x / 2 ^ s + y * 2 ^ (32 - s) := by
    rw [e32, show y * (2 ^ s * 2 ^ (32 - s)) = 2 ^ s * (y * 2 ^ (32 - s)) by rw [Nat.mul_left_comm], Nat.add_mul_div_left _ _ hp]
  rw [e1, or_of_mul hq, e2]
  have hm : y % 2 ^ s + 1 ≤ 2 ^ s := Nat.mod_lt _ hp
  have hm2 := Nat.mul_le_mul_right (2 ^ (32 - s)) hm
  rw [← e32, Nat.add_mul, Nat.one_mul] at hm2
  have e3 : x / 2 ^ s + y * 2 ^ (32 - s) = (x / 2 ^ s + y % 2 ^ s * 2 ^ (32 - s)) + 4294967296 * (y / 2 ^ s) := by
    have := Nat.mod_add_div y (2 ^ s)
    have e4 : y * 2 ^ (32 - s) = y % 2 ^ s * 2 ^ (32 - s) + 4294967296 * (y / 2 ^ s) := by
      conv => lhs; rw [← this]
      rw [Nat.add_mul, e32]
      simp only [Nat.mul_comm, Nat.mul_left_comm, Nat.mul_assoc]
    omega
  have e5 : (x / 2 ^ s + y * 2 ^ (32 - s)) % 4294967296 = x / 2 ^ s + y % 2 ^ s * 2 ^ (32 - s) := by
    rw [e3, Nat.add_mul_mod_self_left]
    exact Nat.mod_eq_of_lt (by omega)
  exact e5.symm
/-- What is left of words moved down has one word less, or none. -/
theorem lower_words {l L : List Nat} {s : Nat} (hl : W l) (hL : W L) (hlen : L.length = l.length) (hp : 0 < l.length) (hlast : l.getD (l.length - 1) 0 ≠ 0) (hs : s < 32) (hv : val L = val l / 2 ^ s) :
    (L.getD (l.length - 1) 0 ≠ 0 → L = wd (val l / 2 ^ s)) ∧ (L.getD (l.length - 1) 0 = 0 → L.take (l.length - 1) = wd (val l / 2 ^ s)) := by
  refine ⟨fun h => ?_, fun h => ?_⟩
  · rw [← hv]; exact (wd_of_last hL (.inr (by rw [hlen]; exact h))).symm
  · have h1 : val L = val (L.take (l.length - 1)) := by
      have := val_take_succ' L (l.length - 1)
      rw [h, show l.length - 1 + 1 = L.length by omega, List.take_length] at this
      simpa using this
    have h2 : 2 ^ (32 * (l.length - 1)) ≤ val l := by
      have := bl_val hl (List.length_pos_iff.1 hp) hlast
      have hb := bl_pos hlast
      exact lt_bl.1 (by omega)
    refine eq_of_val (hL.take _) (W_wd _) ?_ (by rw [val_wd, ← hv, h1])
    rw [List.length_take, Nat.min_eq_left (by omega)]
    refine Nat.le_antisymm ?_ (wd_length_le.2 ?_)
    · by_cases hk : l.length - 1 = 0
      · omega
      · have h3 : 2 ^ (32 * (l.length - 1 - 1)) ≤ val l / 2 ^ s := by
          rw [Nat.le_div_iff_mul_le (Nat.two_pow_pos s), ← Nat.pow_add]
          exact Nat.le_trans (Nat.pow_le_pow_right (by decide) (by omega)) h2
        have h4 : ¬ (wd (val l / 2 ^ s)).length ≤ l.length - 1 - 1 := by rw [wd_length_le]; omega
        omega
    · rw [← hv, h1]
      have := val_lt (hL.take (l.length - 1))
      rwa [List.length_take, Nat.min_eq_left (by omega)] at this
/-- Mag times two to the power of e, below nought if neg. -/
structure Dy where
  neg : Bool
  m : Nat
  e : Int
def Dy.zero : Dy := ⟨false, 0, 0⟩
/-- The form of a value; none: it may not be. -/
def formD (neg : Bool) (n : Nat) (e : Int) : Option Dy :=
  if n = 0 then some Dy.zero else if 1048576 - (tz n : Int) < e ∨ e < -1048576 - (tz n : Int) ∨ 8192 < (wd (n / 2 ^ tz n)).length then none else some ⟨neg, n / 2 ^ tz n, e + tz n⟩
theorem formD_zero (neg : Bool) (e : Int) : formD neg 0 e = some Dy.zero := by simp [formD]
theorem formD_none {neg : Bool} {n : Nat} {e : Int} (h0 : n ≠ 0) (h : 1048576 - (tz n : Int) < e ∨ e < -1048576 - (tz n : Int) ∨ 8192 < (wd (n / 2 ^ tz n)).length) : formD neg n e = none := by
  unfold formD; rw [if_neg h0, if_pos h]
theorem formD_some {neg : Bool} {n : Nat} {e : Int} (h0 : n ≠ 0) (h : ¬ (1048576 - (tz n : Int) < e ∨ e < -1048576 - (tz n : Int) ∨ 8192 < (wd (n / 2 ^ tz n)).length)) : formD neg n e = some ⟨neg, n / 2 ^ tz n, e + tz n⟩ := by
  unfold formD; rw [if_neg h0, if_neg h]
/-- A dyad in its form. -/
structure Dy.ok (d : Dy) : Prop where
  z : d.m = 0 → d = Dy.zero
  odd : d.m ≠ 0 → d.m % 2 = 1
  len : (wd d.m).length ≤ 8192
  e : -1048576 ≤ d.e ∧ d.e ≤ 1048576
theorem formD_ok {neg : Bool} {n : Nat} {e : Int} {d : Dy} (h : formD neg n e = some d) : d.ok := by
  unfold formD at h
  split at h
  · cases h; exact ⟨fun _ => rfl, fun h => absurd rfl h, by simp [Dy.zero, wd_zero], by simp [Dy.zero]⟩
  · split at h
    · cases h
    · rename_i h0 h1
      cases h
      obtain ⟨a, b⟩ := tz_spec h0
      refine ⟨fun hz => ?_, fun _ => a, by simpa using (by omega : (wd (n / 2 ^ tz n)).length ≤ 8192), by simp; omega⟩
      simp only at hz
      rw [hz] at a; simp at a
theorem formD_self {d : Dy} (h : d.ok) : formD d.neg d.m d.e = some d := by
  by_cases h0 : d.m = 0
  · rw [h.z h0]; rfl
  · have ho := h.odd h0
    have ht := tz_odd ho
    have he := h.e
    have hl := h.len
    rw [formD_some h0 (by rw [ht]; simp; omega), ht]
    simp
end Go.Proofs.YtphnpchmdpjabaaGreatDoor.Wd

/- Package dyad: forms. No condition. -/
namespace Go.Proofs.YtphnpchmdpjabaaGreatDoor
open Go Sx Wd

set_option maxRecDepth 4000 in
theorem lower_spec (v : Value) (l : List Nat) (s : Nat) (w : World) (h : NU w v l) (hs : s < 32) (hp : 0 < l.length) (hlast : l.getD (l.length - 1) 0 ≠ 0) : Ret Tryz.prog 94 [v, .int .i64 (s : Int)] w fun u w' => NU w' u (wd (val l / 2 ^ s)) ∧ Chg [] w w' := by
  obtain ⟨⟨al, cl, rfl, hcapl, hrl⟩, hWl, hll⟩ := h
  have hch : Chg [] w w := Chg.refl _ _
  refine Ret.enter Tryz.func94 rfl rfl ?_
  simp only [args0, Nat.zero_add, Nat.reduceAdd]
  refine Sq fun _ kh1 _ kr2 => ?_
  refine As rfl rfl ?_
  refine WL.nil (kr2 _ _ _ (kh1 _ _ _ ?_))
  refine Sq fun _ kh3 _ kr4 => ?_
  refine Mv rfl rfl ?_
  refine WL.ev (Ev.len rfl) rfl ?_
  refine WL.makeU ((l).length) ((l).length) rfl rfl (by omega) (by omega) (by omega) (by omega) (by omega) rfl fun b11 wm11 hb11 hcm11 hge11 => ?_
  have hgehch11 := Nat.le_trans hch.size hge11
  have hch := hch.trans hcm11
  refine As rfl rfl ?_
  refine WL.nil (kr4 _ _ _ (kh3 _ _ _ ?_))
  refine CW.seq fun _ kh5 => ?_
  refine Sq fun _ kh6 _ kr7 => ?_
  refine Mv rfl rfl ?_
  refine WL.ev (Ev.len rfl) rfl ?_
  refine Mv rfl rfl ?_
  refine WL.nil (kr7 _ _ _ (kh6 _ _ _ ?_))
  refine CW.block ?_
  refine CW.loop (S := fun g : Nat × List Nat => [(0, .slice al l.length cl), (1, .int .i64 (s : Int)), (5, .slice (some ⟨b11, 0, none⟩) l.length l.length), (12, .slice al l.length cl), (13, .int .i64 (l.length : Int)), (14, .int .i64 (g.1 : Int))]) (Inv := KD l s w b11) (mu := fun g => l.length - g.1) ((0, List.replicate l.length 0)) ?_ ?_ ?_
  ·
    exact ⟨DownI.zero l _ s (by simp) (W_replicate _), hb11, hch⟩
  ·
    repeat (first | exact Subs.nil | refine Subs.cons rfl ?_ | refine Subs.consI rfl (by omega) ?_)
  ·
    rintro ⟨i, L⟩ wr ⟨hAd, hb11, hch⟩
    dsimp only at hAd hb11 hch
    have hiX := hAd.le
    have hLl := hAd.len
    have hWL := hAd.w
    refine Sq fun _ kh8 _ kr9 => ?_
    refine WL.ev (Ev.lss rfl rfl) rfl ?_
    refine WL.nil (kr9 _ _ _ (kh8 _ _ _ ?_))
    refine CW.seq fun _ kh10 => ?_
    refine CW.cond rfl (fun hc1 => ?_) (fun hc1 => ?_)
    ·
      try simp only [qs] at hc1
      refine CW.skip ?_
      refine kh10 _ _ _ ?_
      refine CW.seq fun _ kh11 => ?_
      refine CW.block ?_
      refine Sq fun _ kh12 _ kr13 => ?_
      refine Mv rfl rfl ?_
      refine WL.ev (Ev.ixR (i) rfl rfl (hrl.keep0 hch) (by omega) (by omega) (by simp; omega)) rfl ?_
      refine WL.ev (Ev.load rfl rfl ((hrl.keep0 hch).u32 (by first | omega | (simp; omega)))) rfl ?_
      have hw18 := hWl.getD (i)
      refine As rfl rfl ?_
      refine As rfl rfl ?_
      refine WL.nil (kr13 _ _ _ (kh12 _ _ _ ?_))
      refine Sq fun _ kh14 _ kr15 => ?_
      refine Mv rfl rfl ?_
      refine Mv rfl rfl ?_
      refine Mv rfl rfl ?_
      refine Mv rfl rfl ?_
      refine WL.ev (Ev.shrU rfl rfl (by simp only [IntKind.bits]; omega)) rfl ?_
      have hdl : l.getD i 0 / 2 ^ s ≤ l.getD i 0 := Nat.div_le_self _ _
      refine WL.ev (Ev.ixB (i) rfl rfl (by omega) (by omega)) rfl ?_
      refine WL.storeU rfl rfl hb11 (by first | omega | (simp; omega)) fun ws1 hb11_ hcs1 => ?_
      have hch := hch.step hcs1 (fun y hy => .inr (by simp only [List.mem_singleton] at hy; subst hy; first | assumption | omega))
      have hb11 := hb11_
      refine WL.nil (kr15 _ _ _ (kh14 _ _ _ ?_))
      refine CW.seqM 33 (decide (0 < s ∧ i + 1 < l.length)) ?_ ?_
      ·
        refine CW.region fun kR16 kr16 => ?_
        refine Mv rfl rfl ?_
        refine WL.ev (Ev.gtr rfl rfl) rfl ?_
        refine Mv rfl rfl ?_
        refine WL.boolCase (fun hg2 => ?_) (fun hg2 => ?_)
        ·
          try simp only [qs] at hg2
          refine WL.want rfl rfl rfl rfl ?_
          refine Mv rfl rfl ?_
          refine WL.want rfl rfl rfl rfl ?_
          first | refine WL.ev (Ev.addIn rfl rfl (by omega)) rfl ?_ | refine WL.ev (Ev.add rfl rfl) rfl ?_
          refine WL.want rfl rfl rfl rfl ?_
          refine Mv rfl rfl ?_
          refine WL.want rfl rfl rfl rfl ?_
          refine WL.ev (Ev.len rfl) rfl ?_
          refine WL.want rfl rfl rfl rfl ?_
          refine WL.ev (Ev.lss rfl rfl) rfl ?_
          refine WL.ev (Ev.pickT rfl rfl rfl) rfl ?_
          refine WL.nil (kr16 _ _ _ ?_)
          refine ⟨rfl, rfl, Subs.consB rfl ?_ ?_⟩
          ·
            first | (simp; omega) | (refine decide_eq_decide.2 ?_; omega)
          ·
            first | ((repeat (first | exact Subs.refl | refine Subs.drop1 (by rfl) ?_)); done) | ((repeat (first | exact Subs.nil | refine Subs.cons rfl ?_)); done)
        ·
          try simp only [qs] at hg2
          refine WL.pass rfl rfl rfl rfl rfl ?_
          refine WL.pass rfl rfl rfl rfl rfl ?_
          refine WL.pass rfl rfl rfl rfl rfl ?_
          refine WL.pass rfl rfl rfl rfl rfl ?_
          refine WL.pass rfl rfl rfl rfl rfl ?_
          refine WL.ev (Ev.pickF rfl rfl rfl) rfl ?_
          refine WL.nil (kr16 _ _ _ ?_)
          refine ⟨rfl, rfl, Subs.consB rfl ?_ ?_⟩
          ·
            first | (simp; omega) | (refine decide_eq_decide.2 ?_; omega)
          ·
            first | ((repeat (first | exact Subs.refl | refine Subs.drop1 (by rfl) ?_)); done) | ((repeat (first | exact Subs.nil | refine Subs.cons rfl ?_)); done)
      ·
        refine CW.cond rfl (fun hc3 => ?_) (fun hc3 => ?_)
        ·
          try simp only [qs] at hc3
          refine CW.regionKC 14 15 rfl hmix fun kR17 kr17 hS hdr => ?_
          have hch := hch.trans hdr
          have hb11 := hb11.keep0 hdr
          have hch_r := hch
          have hb11_r := hb11
          refine WK.take 0 rfl (by kernel_rfl) (by kernel_rfl) (by kernel_rfl) (by kernel_rfl) (by kernel_rfl) (by kernel_rfl) hS (fun w' hw' => Ev.move rfl) rfl ?_
          refine WK.take 1 rfl (by kernel_rfl) (by kernel_rfl) (by kernel_rfl) (by kernel_rfl) (by kernel_rfl) (by kernel_rfl) hS (fun w' hw' => Ev.move rfl) rfl ?_
          refine WK.take 2 rfl (by kernel_rfl) (by kernel_rfl) (by kernel_rfl) (by kernel_rfl) (by kernel_rfl) (by kernel_rfl) hS (fun w' hw' => Ev.ixB (i) rfl rfl (by omega) (by omega)) rfl ?_
          refine WK.take 3 rfl (by kernel_rfl) (by kernel_rfl) (by kernel_rfl) (by kernel_rfl) (by kernel_rfl) (by kernel_rfl) hS (fun w' hw' => Ev.load rfl rfl ((hb11_r.keep0 hw').u32 (by simp; omega))) rfl ?_
          rw [getD_set_self (by omega)]
          refine WK.take 4 rfl (by kernel_rfl) (by kernel_rfl) (by kernel_rfl) (by kernel_rfl) (by kernel_rfl) (by kernel_rfl) hS (fun w' hw' => Ev.move rfl) rfl ?_
          refine WK.take 5 rfl (by kernel_rfl) (by kernel_rfl) (by kernel_rfl) (by kernel_rfl) (by kernel_rfl) (by kernel_rfl) hS (fun w' hw' => Ev.move rfl) rfl ?_
          refine WK.take 6 rfl (by kernel_rfl) (by kernel_rfl) (by kernel_rfl) (by kernel_rfl) (by kernel_rfl) (by kernel_rfl) hS (fun w' hw' => Ev.addIn rfl rfl (by omega)) rfl ?_
          refine WK.take 7 rfl (by kernel_rfl) (by kernel_rfl) (by kernel_rfl) (by kernel_rfl) (by kernel_rfl) (by kernel_rfl) hS (fun w' hw' => Ev.ixR ((i + 1)) rfl rfl (hrl.keep0 (hch_r.trans hw')) (by omega) (by omega) (by simp; omega)) rfl ?_
          refine WK.take 8 rfl (by kernel_rfl) (by kernel_rfl) (by kernel_rfl) (by kernel_rfl) (by kernel_rfl) (by kernel_rfl) hS (fun w' hw' => Ev.load rfl rfl ((hrl.keep0 (hch_r.trans hw')).u32 (by first | omega | (simp; omega)))) rfl ?_
          have hw42 := hWl.getD ((i + 1))
          refine WK.take 9 rfl (by kernel_rfl) (by kernel_rfl) (by kernel_rfl) (by kernel_rfl) (by kernel_rfl) (by kernel_rfl) hS (fun w' hw' => Ev.move rfl) rfl ?_
          refine WK.take 10 rfl (by kernel_rfl) (by kernel_rfl) (by kernel_rfl) (by kernel_rfl) (by kernel_rfl) (by kernel_rfl) hS (fun w' hw' => Ev.subIn rfl rfl (by omega)) rfl ?_
          rw [show (32 : Int) - (s : Int) = ((32 - s : Nat) : Int) by omega]
          refine WK.take 11 rfl (by kernel_rfl) (by kernel_rfl) (by kernel_rfl) (by kernel_rfl) (by kernel_rfl) (by kernel_rfl) hS (fun w' hw' => Ev.shlU32 rfl rfl) rfl ?_
          refine WK.take 12 rfl (by kernel_rfl) (by kernel_rfl) (by kernel_rfl) (by kernel_rfl) (by kernel_rfl) (by kernel_rfl) hS (fun w' hw' => Ev.orU rfl rfl rfl (by simp only [IntKind.bits]; omega) (by simp only [IntKind.bits]; omega)) rfl ?_
          rw [low_or (hWl.getD i) hs]
          refine WK.take 13 rfl (by kernel_rfl) (by kernel_rfl) (by kernel_rfl) (by kernel_rfl) (by kernel_rfl) (by kernel_rfl) hS (fun w' hw' => Ev.ixB (i) rfl rfl (by omega) (by omega)) rfl ?_
          refine WK.storeU 14 rfl (by kernel_rfl) (by kernel_rfl) rfl rfl hb11 (by first | omega | (simp; omega)) fun ws2 hb11_ hcs2 => ?_
          have hch := hch.step hcs2 (fun y hy => .inr (by simp only [List.mem_singleton] at hy; subst hy; first | assumption | omega))
          have hb11 := hb11_
          refine WK.done (by kernel_rfl) (kr17 _ _ _ ?_)
          refine kh11 _ _ _ ?_
          refine CW.region fun kR18 kr18 => ?_
          first | refine WL.ev (Ev.addIn rfl rfl (by omega)) rfl ?_ | refine WL.ev (Ev.add rfl rfl) rfl ?_
          refine Mv rfl rfl ?_
          refine WL.nil (kr18 _ _ _ ?_)
          refine ⟨rfl, (i + 1, L.set i ((l.getD i 0 + l.getD (i + 1) 0 * 4294967296) / 2 ^ s % 4294967296)), ?_, ?_, ?_⟩
          ·
            repeat (first | exact Subs.nil | refine Subs.cons rfl ?_ | refine Subs.consI rfl (by omega) ?_)
          ·
            rw [List.set_set] at hb11
            exact ⟨hAd.step hs hWl (by omega) rfl, hb11, hch⟩
          ·
            show l.length - (i + 1) < l.length - i; omega
        ·
          try simp only [qs] at hc3
          have hfin : l.getD i 0 / 2 ^ s = (l.getD i 0 + l.getD (i + 1) 0 * 4294967296) / 2 ^ s % 4294967296 := by
            by_cases q0 : i + 1 < l.length
            · have : s = 0 := by omega
              subst this; rw [Nat.pow_zero, Nat.div_one, Nat.div_one]; omega
            · rw [getD_out (i := i + 1) (by omega), Nat.zero_mul, Nat.add_zero, Nat.mod_eq_of_lt (by omega)]
          refine CW.skip ?_
          refine kh11 _ _ _ ?_
          refine CW.region fun kR19 kr19 => ?_
          first | refine WL.ev (Ev.addIn rfl rfl (by omega)) rfl ?_ | refine WL.ev (Ev.add rfl rfl) rfl ?_
          refine Mv rfl rfl ?_
          refine WL.nil (kr19 _ _ _ ?_)
          refine ⟨rfl, (i + 1, L.set i ((l.getD i 0 + l.getD (i + 1) 0 * 4294967296) / 2 ^ s % 4294967296)), ?_, ?_, ?_⟩
          ·
            repeat (first | exact Subs.nil | refine Subs.cons rfl ?_ | refine Subs.consI rfl (by omega) ?_)
          ·
            rw [hfin] at hb11
            exact ⟨hAd.step hs hWl (by omega) rfl, hb11, hch⟩
          ·
            show l.length - (i + 1) < l.length - i; omega
    ·
      try simp only [qs] at hc1
      refine CW.exit ?_
      refine kh5 _ _ _ ?_
      refine CW.seq fun _ kh20 => ?_
      refine CW.seq fun _ kh21 => ?_
      have hiX2 : i = l.length := by omega
      subst hiX2
      have hvL := hAd.done hWl
      have hlw := lower_words hWl hWL hLl hp hlast hs hvL
      refine CW.region fun kR22 kr22 => ?_
      refine Mv rfl rfl ?_
      refine WL.ev (Ev.len rfl) rfl ?_
      first | refine WL.ev (Ev.subIn rfl rfl (by omega)) rfl ?_ | refine WL.ev (Ev.sub rfl rfl) rfl ?_
      refine As rfl rfl ?_
      refine WL.nil (kr22 _ _ _ (kh21 _ _ _ ?_))
      refine Sq fun _ kh23 _ kr24 => ?_
      refine Mv rfl rfl ?_
      refine Mv rfl rfl ?_
      refine WL.ev (Ev.ixB ((l.length - 1)) rfl rfl (by omega) (by omega)) rfl ?_
      refine WL.ev (Ev.load rfl rfl (hb11.u32 (by first | omega | (simp; omega)))) rfl ?_
      have hw55 := hWL.getD ((l.length - 1))
      refine WL.ev (Ev.eql rfl rfl) rfl ?_
      refine WL.nil (kr24 _ _ _ (kh23 _ _ _ ?_))
      refine CW.cond rfl (fun hc4 => ?_) (fun hc4 => ?_)
      ·
        try simp only [qs] at hc4
        refine CW.region fun kR25 kr25 => ?_
        refine Mv rfl rfl ?_
        refine Mv rfl rfl ?_
        refine Mv rfl rfl ?_
        refine WL.ev (Ev.slice3n ((l.length - 1)) ((l.length - 1)) rfl rfl rfl (by omega) (by omega) (by omega) (by omega)) rfl ?_
        refine As rfl rfl ?_
        refine WL.nil (kr25 _ _ _ (kh20 _ _ _ ?_))
        refine Sq fun _ kh26 _ kr27 => ?_
        refine Mv rfl rfl ?_
        refine As rfl rfl ?_
        refine WL.nil (kr27 _ _ _ (kh26 _ _ _ ?_))
        refine CW.ret ?_
        refine bodyA.ret1 rfl rfl ?_
        rw [← hlw.2 (by omega)]
        exact ⟨NU.part hb11.row hWL (by omega) (by omega) (Nat.le_refl _), hch⟩
      ·
        try simp only [qs] at hc4
        refine CW.skip ?_
        refine kh20 _ _ _ ?_
        refine Sq fun _ kh28 _ kr29 => ?_
        refine Mv rfl rfl ?_
        refine As rfl rfl ?_
        refine WL.nil (kr29 _ _ _ (kh28 _ _ _ ?_))
        refine CW.ret ?_
        refine bodyA.ret1 rfl rfl ?_
        rw [← hlw.1 (by omega)]
        exact ⟨NU.of_block hb11 hWL (by omega) (by omega) (Nat.le_refl _), hch⟩

/-- A value that is the dyad d. -/
structure DY (w : World) (u : Value) (d : Dy) : Prop where
  ex : ∃ r, u = .agg [.bool d.neg, r, .int .i64 d.e].toArray ∧ NU w r (wd d.m)
theorem DY.keep0 {w w' : World} {u : Value} {d : Dy} (h : DY w u d) (hc : Chg [] w w') : DY w' u d := by
  obtain ⟨r, h1, h2⟩ := h.ex
  exact ⟨r, h1, h2.keep0 hc⟩
theorem DY.zero {w : World} : DY w (.agg [.bool false, .slice none 0 0, .int .i64 0].toArray) Dy.zero := ⟨_, rfl, by rw [show Dy.zero.m = 0 from rfl, wd_zero]; exact NU.nil⟩
/-- A dyad's answer, or none. -/
def DR (w : World) (u : Value) (x : Option Dy) : Prop := (∃ r d, x = some d ∧ u = .tuple [.agg [.bool d.neg, r, .int .i64 d.e].toArray, .int .i64 0].toArray ∧ NU w r (wd d.m)) ∨ (x = none ∧ u = .tuple [.agg [.bool false, .slice none 0 0, .int .i64 0].toArray, .int .i64 2].toArray)
theorem DR.keep0 {w w' : World} {u : Value} {x : Option Dy} (h : DR w u x) (hc : Chg [] w w') : DR w' u x := by
  rcases h with ⟨r, d, h1, h2, h3⟩ | h
  · exact .inl ⟨r, d, h1, h2, h3.keep0 hc⟩
  · exact .inr h

set_option maxRecDepth 4000 in
theorem form_spec (neg : Bool) (v : Value) (l : List Nat) (e : Int) (w : World) (h : NU w v l) (hg : GW w) (he : -9223372036854775808 ≤ e ∧ e ≤ 9223372036854775807) : Ret Tryz.prog 45 [.bool neg, v, .int .i64 e] w fun u w' => DR w' u (formD neg (val l) e) ∧ Chg [] w w' := by
 obtain ⟨A, hA⟩ : ∃ A, A = wd (val l) := ⟨_, rfl⟩
 have hvA : val A = val l := by rw [hA]; exact val_wd _
 have hch : Chg [] w w := Chg.refl _ _
 refine Ret.enter Tryz.func45 rfl rfl ?_
 simp only [args0, Nat.zero_add, Nat.reduceAdd]
 refine Sq fun _ kh1 _ kr2 => ?_
 refine WL.allocB (l := [.bool false, .slice none 0 0, .int .i64 0]) rfl rfl fun b6 wm6 hb6 hcm6 hge6 => ?_
 have hgehch6 := Nat.le_trans hch.size hge6
 have hch := hch.trans hcm6
 refine As rfl rfl ?_
 refine WL.nil (kr2 _ _ _ (kh1 _ _ _ ?_))
 refine Sq fun _ kh3 _ kr4 => ?_
 refine Mv rfl rfl ?_
 refine WL.call hasF92 rfl rfl (Norm_spec _ _ _ (h.keep0 hch)) fun v w1 h' => ?_
 obtain ⟨hN1, hC11⟩ := h'
 rw [← hA] at hN1
 have hN1d := hN1
 obtain ⟨⟨a1, c1, rfl, hcap1, hr1⟩, hW1, hl1⟩ := hN1d
 have hch := hch.trans hC11
 have hb6 := hb6.keep0 hC11
 refine As rfl rfl ?_
 refine WL.nil (kr4 _ _ _ (kh3 _ _ _ ?_))
 refine CW.seq fun _ kh5 => ?_
 refine Sq fun _ kh6 _ kr7 => ?_
 refine Mv rfl rfl ?_
 refine WL.ev (Ev.len rfl) rfl ?_
 refine WL.ev (Ev.eql rfl rfl) rfl ?_
 refine WL.nil (kr7 _ _ _ (kh6 _ _ _ ?_))
 refine CW.cond rfl (fun hc1 => ?_) (fun hc1 => ?_)
 ·
  try simp only [qs] at hc1
  refine Sq fun _ kh8 _ kr9 => ?_
  refine WL.ev (Ev.build (vs := _) (cs := [_, _, _]) rfl rfl) rfl ?_
  refine WL.storeB rfl rfl rfl ao hb6 (by simp) rfl fun ws3 hb6_ hcs3 => ?_
  try simp only [Sx.splice, qt] at hb6_
  have hch := hch.step hcs3 (fun y hy => .inr (by simp only [List.mem_singleton] at hy; subst hy; first | assumption | omega))
  have hb6 := hb6_
  refine As rfl rfl ?_
  refine WL.nil (kr9 _ _ _ (kh8 _ _ _ ?_))
  refine CW.ret ?_
  refine bodyA.retR2 rfl (RVal.cell rfl (hb6.varA rfl rfl)) (RVal.tmp rfl) ?_
  have hv0 : val l = 0 := by rw [← hvA, List.length_eq_zero_iff.1 (show A.length = 0 by omega)]; rfl
  rw [hv0, formD_zero]
  exact ⟨.inl ⟨_, _, rfl, rfl, by rw [show Dy.zero.m = 0 from rfl, wd_zero]; exact NU.nil⟩, hch⟩
 ·
  try simp only [qs] at hc1
  have hn0 : val l ≠ 0 := fun e0 => by rw [e0, wd_zero] at hA; rw [hA] at hc1; exact hc1 rfl
  have hAl : A.getD (A.length - 1) 0 ≠ 0 := by rw [hA]; exact wd_last hn0
  obtain ⟨q, hq⟩ : ∃ q, q = tz (val l) := ⟨_, rfl⟩
  have hqb := tz_lt_bl hn0
  have hbA : bl (val l) ≤ 32 * A.length := by rw [bl_words, ← hA]; exact Nat.le_refl _
  rw [← hq] at hqb
  refine CW.skip ?_
  refine kh5 _ _ _ ?_
  refine Sq fun _ kh10 _ kr11 => ?_
  refine Mv rfl rfl ?_
  refine WL.call hasF93 rfl rfl (Low_spec _ _ _ hN1 (hg.keep0 hch)) fun v w2 h' => ?_
  obtain ⟨rfl, rfl⟩ := h'
  rw [hvA, ← hq]
  refine As rfl rfl ?_
  refine WL.nil (kr11 _ _ _ (kh10 _ _ _ ?_))
  refine Sq fun _ kh12 _ kr13 => ?_
  refine Mv rfl rfl ?_
  refine Mv rfl rfl ?_
  refine WL.ev (Ev.quoU (b := 32) rfl rfl (by omega) (in_i64 (by omega)).2) rfl ?_
  refine WL.ev (Ev.sliceLn ((q / 32)) rfl rfl (by omega) (by omega)) rfl ?_
  refine Mv rfl rfl ?_
  refine WL.ev (Ev.remU (b := 32) rfl rfl (by omega)) rfl ?_
  refine WL.call hasF94 rfl rfl (lower_spec _ (A.drop (q / 32)) (q % 32) _ (NU.of_row (by rw [List.map_drop]; exact hr1.cut _ _ (by simp; omega) (by simpa using hcap1)) (hW1.drop _) (by simp; omega) (by simp) (by omega)) (by omega) (by simp; omega) (by rw [List.length_drop, List.getD_eq_getElem?_getD, List.getElem?_drop, ← List.getD_eq_getElem?_getD, show q / 32 + (A.length - q / 32 - 1) = A.length - 1 by omega]; exact hAl)) fun v w3 h' => ?_
  obtain ⟨hN2, hC24⟩ := h'
  rw [val_drop hW1 _ (by omega), hvA, div_words] at hN2
  obtain ⟨B, hB⟩ : ∃ B, B = wd (val l / 2 ^ q) := ⟨_, rfl⟩
  rw [← hB] at hN2
  have hN2d := hN2
  obtain ⟨⟨a2, c2, rfl, hcap2, hr2⟩, hW2, hl2⟩ := hN2d
  have hch := hch.trans hC24
  have hb6 := hb6.keep0 hC24
  refine As rfl rfl ?_
  refine WL.nil (kr13 _ _ _ (kh12 _ _ _ ?_))
  refine CW.seq fun _ kh14 => ?_
  refine CW.seqM 39 (decide ((1048576 - (q : Int) < e ∨ e < -1048576 - (q : Int)) ∨ 8192 < B.length)) ?_ ?_
  ·
   refine CW.region fun kR15 kr15 => ?_
   refine Mv rfl rfl ?_
   refine Mv rfl rfl ?_
   refine WL.ev (Ev.subIn rfl rfl (by omega)) rfl ?_
   refine WL.ev (Ev.gtr rfl rfl) rfl ?_
   refine Mv rfl rfl ?_
   refine WL.boolCase (fun hg2 => ?_) (fun hg2 => ?_)
   ·
    try simp only [qs] at hg2
    refine WL.pass rfl rfl rfl rfl rfl ?_
    refine WL.pass rfl rfl rfl rfl rfl ?_
    refine WL.pass rfl rfl rfl rfl rfl ?_
    refine WL.pass rfl rfl rfl rfl rfl ?_
    refine WL.ev (Ev.pickT rfl rfl rfl) rfl ?_
    refine Mv rfl rfl ?_
    refine WL.pass rfl rfl rfl rfl rfl ?_
    refine WL.pass rfl rfl rfl rfl rfl ?_
    refine WL.pass rfl rfl rfl rfl rfl ?_
    refine WL.ev (Ev.pickT rfl rfl rfl) rfl ?_
    refine WL.nil (kr15 _ _ _ ?_)
    refine ⟨rfl, rfl, Subs.consB rfl ?_ ?_⟩
    ·
     first | (simp; omega) | (refine decide_eq_decide.2 ?_; omega)
    ·
     first | ((repeat (first | exact Subs.refl | refine Subs.drop1 (by rfl) ?_)); done) | ((repeat (first | exact Subs.nil | refine Subs.cons rfl ?_)); done)
   ·
    try simp only [qs] at hg2
    refine WL.want rfl rfl rfl rfl ?_
    refine Mv rfl rfl ?_
    refine WL.want rfl rfl rfl rfl ?_
    refine Mv rfl rfl ?_
    refine WL.want rfl rfl rfl rfl ?_
    first | refine WL.ev (Ev.subIn rfl rfl (by omega)) rfl ?_ | refine WL.ev (Ev.sub rfl rfl) rfl ?_
    refine WL.want rfl rfl rfl rfl ?_
    refine WL.ev (Ev.lss rfl rfl) rfl ?_
    refine WL.ev (Ev.pickF rfl rfl rfl) rfl ?_
    refine Mv rfl rfl ?_
    refine WL.boolCase (fun hg3 => ?_) (fun hg3 => ?_)
    ·
     try simp only [qs] at hg3
     refine WL.pass rfl rfl rfl rfl rfl ?_
     refine WL.pass rfl rfl rfl rfl rfl ?_
     refine WL.pass rfl rfl rfl rfl rfl ?_
     refine WL.ev (Ev.pickT rfl rfl rfl) rfl ?_
     refine WL.nil (kr15 _ _ _ ?_)
     refine ⟨rfl, rfl, Subs.consB rfl ?_ ?_⟩
     ·
      first | (simp; omega) | (refine decide_eq_decide.2 ?_; omega)
     ·
      first | ((repeat (first | exact Subs.refl | refine Subs.drop1 (by rfl) ?_)); done) | ((repeat (first | exact Subs.nil | refine Subs.cons rfl ?_)); done)
    ·
     try simp only [qs] at hg3
     refine WL.want rfl rfl rfl rfl ?_
     refine Mv rfl rfl ?_
     refine WL.want rfl rfl rfl rfl ?_
     refine WL.ev (Ev.len rfl) rfl ?_
     refine WL.want rfl rfl rfl rfl ?_
     refine WL.ev (Ev.gtr rfl rfl) rfl ?_
     refine WL.ev (Ev.pickF rfl rfl rfl) rfl ?_
     refine WL.nil (kr15 _ _ _ ?_)
     refine ⟨rfl, rfl, Subs.consB rfl ?_ ?_⟩
     ·
      first | (simp; omega) | (refine decide_eq_decide.2 ?_; omega)
     ·
      first | ((repeat (first | exact Subs.refl | refine Subs.drop1 (by rfl) ?_)); done) | ((repeat (first | exact Subs.nil | refine Subs.cons rfl ?_)); done)
  ·
   refine CW.cond rfl (fun hc4 => ?_) (fun hc4 => ?_)
   ·
    try simp only [qs] at hc4
    refine Sq fun _ kh16 _ kr17 => ?_
    refine WL.ev (Ev.build (vs := _) (cs := [_, _, _]) rfl rfl) rfl ?_
    refine WL.storeB rfl rfl rfl ao hb6 (by simp) rfl fun ws4 hb6_ hcs4 => ?_
    try simp only [Sx.splice, qt] at hb6_
    have hch := hch.step hcs4 (fun y hy => .inr (by simp only [List.mem_singleton] at hy; subst hy; first | assumption | omega))
    have hN2 := hN2.keepBK hb6 hcs4 an
    have hb6 := hb6_
    refine As rfl rfl ?_
    refine WL.nil (kr17 _ _ _ (kh16 _ _ _ ?_))
    refine CW.ret ?_
    refine bodyA.retR2 rfl (RVal.cell rfl (hb6.varA rfl rfl)) (RVal.tmp rfl) ?_
    rw [formD_none hn0 (by rw [← hq, ← hB]; omega)]
    exact ⟨.inr ⟨rfl, rfl⟩, hch⟩
   ·
    try simp only [qs] at hc4
    refine CW.skip ?_
    refine kh14 _ _ _ ?_
    refine Sq fun _ kh18 _ kr19 => ?_
    refine Mv rfl rfl ?_
    refine Mv rfl rfl ?_
    refine Mv rfl rfl ?_
    refine Mv rfl rfl ?_
    first | refine WL.ev (Ev.addIn rfl rfl (by omega)) rfl ?_ | refine WL.ev (Ev.add rfl rfl) rfl ?_
    refine WL.ev (Ev.build (vs := _) (cs := [_, _, _]) rfl rfl) rfl ?_
    refine WL.storeB rfl rfl rfl ao hb6 (by simp) rfl fun ws5 hb6_ hcs5 => ?_
    try simp only [Sx.splice, qt] at hb6_
    have hch := hch.step hcs5 (fun y hy => .inr (by simp only [List.mem_singleton] at hy; subst hy; first | assumption | omega))
    have hN2 := hN2.keepBK hb6 hcs5 an
    have hb6 := hb6_
    refine As rfl rfl ?_
    refine WL.nil (kr19 _ _ _ (kh18 _ _ _ ?_))
    refine CW.ret ?_
    refine bodyA.retR2 rfl (RVal.cell rfl (hb6.varA rfl rfl)) (RVal.tmp rfl) ?_
    rw [formD_some hn0 (by rw [← hq, ← hB]; omega), ← hq]
    refine ⟨.inl ⟨_, _, rfl, rfl, ?_⟩, hch⟩
    simp only
    rw [← hB]
    exact hN2

end Go.Proofs.YtphnpchmdpjabaaGreatDoor

/- Package dyad: Make, Int, sums. No condition. -/
namespace Go.Proofs.YtphnpchmdpjabaaGreatDoor
open Go Sx Wd

set_option maxRecDepth 4000 in
theorem Make_spec (na : Bool) (va : Value) (la : List Nat) (ea : Int) (w : World) (ha : NU w va la) (hg : GW w) (hea : -9223372036854775808 ≤ ea ∧ ea ≤ 9223372036854775807) : Ret Tryz.prog 33 [.bool na, va, .int .i64 ea] w fun u w' => DR w' u (formD na (val la) ea) ∧ Chg [] w w' := by
 have hch : Chg [] w w := Chg.refl _ _
 refine Ret.enter Tryz.func33 rfl rfl ?_
 simp only [args0, Nat.zero_add, Nat.reduceAdd]
 refine Sq fun _ kh1 _ kr2 => ?_
 refine WL.allocB (l := [.bool false, .slice none 0 0, .int .i64 0]) rfl rfl fun b6 wm6 hb6 hcm6 hge6 => ?_
 have hgehch6 := Nat.le_trans hch.size hge6
 have hch := hch.trans hcm6
 refine As rfl rfl ?_
 refine WL.nil (kr2 _ _ _ (kh1 _ _ _ ?_))
 refine Sq fun _ kh3 _ kr4 => ?_
 refine Mv rfl rfl ?_
 refine Mv rfl rfl ?_
 refine Mv rfl rfl ?_
 refine WL.call hasF45 rfl rfl (form_spec na va la ea _ (ha.keep0 hch) (hg.keep0 hch) hea) fun v w1 h' => ?_
 obtain ⟨hD, hC11⟩ := h'
 have hch := hch.trans hC11
 have hb6 := hb6.keep0 hC11
 rcases hD with ⟨r, d, hd, rfl, hNr⟩ | ⟨hd, rfl⟩
 ·
  refine WL.ev (Ev.extract rfl rfl) rfl ?_
  refine WL.ev (Ev.extract rfl rfl) rfl ?_
  refine WL.storeB rfl rfl rfl ao hb6 (by simp) rfl fun ws6 hb6_ hcs6 => ?_
  try simp only [Sx.splice, qt] at hb6_
  have hch := hch.step hcs6 (fun y hy => .inr (by simp only [List.mem_singleton] at hy; subst hy; first | assumption | omega))
  have hNr := hNr.keepBK hb6 hcs6 an
  have hb6 := hb6_
  refine As rfl rfl ?_
  refine WL.nil (kr4 _ _ _ (kh3 _ _ _ ?_))
  refine CW.ret ?_
  refine bodyA.retR2 rfl (RVal.cell rfl (hb6.varA rfl rfl)) (RVal.tmp rfl) ?_
  exact ⟨.inl ⟨r, d, hd, rfl, hNr⟩, hch⟩
 ·
  refine WL.ev (Ev.extract rfl rfl) rfl ?_
  refine WL.ev (Ev.extract rfl rfl) rfl ?_
  refine WL.storeB rfl rfl rfl ao hb6 (by simp) rfl fun ws7 hb6_ hcs7 => ?_
  try simp only [Sx.splice, qt] at hb6_
  have hch := hch.step hcs7 (fun y hy => .inr (by simp only [List.mem_singleton] at hy; subst hy; first | assumption | omega))
  have hb6 := hb6_
  refine As rfl rfl ?_
  refine WL.nil (kr4 _ _ _ (kh3 _ _ _ ?_))
  refine CW.ret ?_
  refine bodyA.retR2 rfl (RVal.cell rfl (hb6.varA rfl rfl)) (RVal.tmp rfl) ?_
  exact ⟨.inr ⟨hd, rfl⟩, hch⟩

theorem formD_int {n : Nat} {neg : Bool} (h : n < 18446744073709551616) : ∃ d, formD neg n 0 = some d := by
  by_cases h0 : n = 0
  · exact ⟨_, by rw [h0]; exact formD_zero _ _⟩
  · have h1 := tz_lt_bl h0
    have h2 := bl_le (n := n) (k := 64)
    have h3 : n / 2 ^ tz n ≤ n := Nat.div_le_self _ _
    have h4 := wd_length_le (n := n / 2 ^ tz n) (k := 2)
    have h5 : (wd (n / 2 ^ tz n)).length ≤ 2 := h4.2 (Nat.lt_of_le_of_lt h3 h)
    have h6 : bl n ≤ 64 := h2.2 h
    exact ⟨_, formD_some h0 (by omega)⟩
/-- A whole number as a dyad. -/
def intD (n : Int) : Dy := ((formD (decide (n < 0)) n.natAbs 0).getD Dy.zero)
theorem intD_eq {n : Int} (h : n.natAbs < 18446744073709551616) : formD (decide (n < 0)) n.natAbs 0 = some (intD n) := by
  obtain ⟨d, hd⟩ := formD_int (neg := decide (n < 0)) h
  unfold intD; rw [hd]; rfl

set_option maxRecDepth 4000 in
theorem Int_spec (n : Int) (w : World) (hg : GW w) (hn : -9223372036854775808 ≤ n ∧ n ≤ 9223372036854775807) : Ret Tryz.prog 56 [.int .i64 n] w fun u w' => DY w' u (intD n) ∧ Chg [] w w' := by
 have hch : Chg [] w w := Chg.refl _ _
 refine Ret.enter Tryz.func56 rfl rfl ?_
 simp only [args0, Nat.zero_add, Nat.reduceAdd]
 refine Sq fun _ kh1 _ kr2 => ?_
 refine WL.allocB (l := [.bool false, .slice none 0 0, .int .i64 0]) rfl rfl fun b2 wm2 hb2 hcm2 hge2 => ?_
 have hgehch2 := Nat.le_trans hch.size hge2
 have hch := hch.trans hcm2
 refine WL.nil (kr2 _ _ _ (kh1 _ _ _ ?_))
 refine Sq fun _ kh3 _ kr4 => ?_
 refine Mv rfl rfl ?_
 refine WL.ev (Ev.conv rfl rfl) rfl ?_
 rw [wrap_u64i]
 refine As rfl rfl ?_
 refine WL.nil (kr4 _ _ _ (kh3 _ _ _ ?_))
 refine CW.seq fun _ kh5 => ?_
 refine Sq fun _ kh6 _ kr7 => ?_
 refine Mv rfl rfl ?_
 refine WL.ev (Ev.lss rfl rfl) rfl ?_
 refine WL.nil (kr7 _ _ _ (kh6 _ _ _ ?_))
 refine CW.cond rfl (fun hc1 => ?_) (fun hc1 => ?_)
 ·
  try simp only [qs] at hc1
  refine CW.region fun kR8 kr8 => ?_
  refine Mv rfl rfl ?_
  refine WL.ev (Ev.neg rfl) rfl ?_
  rw [wrap_u64i, show (0 - n % 18446744073709551616) % 18446744073709551616 = ((n.natAbs : Nat) : Int) by omega]
  have hab : n.natAbs = n.natAbs := rfl
  refine As rfl rfl ?_
  refine WL.nil (kr8 _ _ _ (kh5 _ _ _ ?_))
  refine Sq fun _ kh9 _ kr10 => ?_
  refine Mv rfl rfl ?_
  refine WL.ev (Ev.lss rfl rfl) rfl ?_
  refine Mv rfl rfl ?_
  refine WL.call hasF46 rfl rfl (Of_spec n.natAbs _ (by omega)) fun v w1 h' => ?_
  obtain ⟨hN16, hC16⟩ := h'
  have hch := hch.trans hC16
  have hb2 := hb2.keep0 hC16
  refine WL.call hasF45 rfl rfl (form_spec _ _ _ 0 _ hN16 (hg.keep0 hch) (by omega)) fun v w2 h' => ?_
  obtain ⟨hD, hC17⟩ := h'
  rw [val_wd, hab, intD_eq (by omega)] at hD
  rcases hD with ⟨r, d, hd, rfl, hNr⟩ | ⟨hd, rfl⟩
  rotate_left
  · cases hd
  cases hd
  have hch := hch.trans hC17
  have hb2 := hb2.keep0 hC17
  have hN16 := hN16.keep0 hC17
  refine Mv rfl rfl ?_
  refine WL.ev (Ev.extract rfl rfl) rfl ?_
  refine WL.ev (Ev.extract rfl rfl) rfl ?_
  refine WL.allocB (l := [.bool false, .slice none 0 0, .int .i64 0]) rfl rfl fun b4 wm4 hb4 hcm4 hge4 => ?_
  have hgehch4 := Nat.le_trans hch.size hge4
  have hch := hch.trans hcm4
  have hN16 := hN16.keep0 hcm4
  have hNr := hNr.keep0 hcm4
  have hneb24 : b2 ≠ b4 := by have := hb2.lt; omega
  have hb2 := hb2.keep0 hcm4
  refine WL.storeB rfl rfl rfl ao hb4 (by simp) rfl fun ws8 hb4_ hcs8 => ?_
  try simp only [Sx.splice, qt] at hb4_
  have hch := hch.step hcs8 (fun y hy => .inr (by simp only [List.mem_singleton] at hy; subst hy; first | assumption | omega))
  have hb2 := hb2.keep hcs8 (by simp; omega)
  have hN16 := hN16.keepBK hb4 hcs8 an
  have hNr := hNr.keepBK hb4 hcs8 an
  have hb4 := hb4_
  refine As rfl rfl ?_
  refine WL.nil (kr10 _ _ _ (kh9 _ _ _ ?_))
  refine Sq fun _ kh11 _ kr12 => ?_
  refine WL.ev (Ev.loadA rfl rfl hb4 rfl) rfl ?_
  refine WL.storeB rfl rfl rfl ao hb2 (by simp) rfl fun ws9 hb2_ hcs9 => ?_
  try simp only [Sx.splice, qt] at hb2_
  have hch := hch.step hcs9 (fun y hy => .inr (by simp only [List.mem_singleton] at hy; subst hy; first | assumption | omega))
  have hb4 := hb4.keep hcs9 (by simp; omega)
  have hN16 := hN16.keepBK hb2 hcs9 an
  have hNr := hNr.keepBK hb2 hcs9 an
  have hb2 := hb2_
  refine WL.nil (kr12 _ _ _ (kh11 _ _ _ ?_))
  refine CW.ret ?_
  refine bodyA.retR1 rfl (RVal.cell rfl (hb2.varA rfl rfl)) ?_
  exact ⟨⟨⟨_, rfl, hNr⟩⟩, hch⟩
 ·
  try simp only [qs] at hc1
  rw [show n % 18446744073709551616 = ((n.natAbs : Nat) : Int) by omega]
  have hab : n.natAbs = n.natAbs := rfl
  refine CW.skip ?_
  refine kh5 _ _ _ ?_
  refine Sq fun _ kh13 _ kr14 => ?_
  refine Mv rfl rfl ?_
  refine WL.ev (Ev.lss rfl rfl) rfl ?_
  refine Mv rfl rfl ?_
  refine WL.call hasF46 rfl rfl (Of_spec n.natAbs _ (by omega)) fun v w3 h' => ?_
  obtain ⟨hN16, hC16⟩ := h'
  have hch := hch.trans hC16
  have hb2 := hb2.keep0 hC16
  refine WL.call hasF45 rfl rfl (form_spec _ _ _ 0 _ hN16 (hg.keep0 hch) (by omega)) fun v w4 h' => ?_
  obtain ⟨hD, hC17⟩ := h'
  rw [val_wd, hab, intD_eq (by omega)] at hD
  rcases hD with ⟨r, d, hd, rfl, hNr⟩ | ⟨hd, rfl⟩
  rotate_left
  · cases hd
  cases hd
  have hch := hch.trans hC17
  have hb2 := hb2.keep0 hC17
  have hN16 := hN16.keep0 hC17
  refine Mv rfl rfl ?_
  refine WL.ev (Ev.extract rfl rfl) rfl ?_
  refine WL.ev (Ev.extract rfl rfl) rfl ?_
  refine WL.allocB (l := [.bool false, .slice none 0 0, .int .i64 0]) rfl rfl fun b4 wm4 hb4 hcm4 hge4 => ?_
  have hgehch4 := Nat.le_trans hch.size hge4
  have hch := hch.trans hcm4
  have hN16 := hN16.keep0 hcm4
  have hNr := hNr.keep0 hcm4
  have hneb24 : b2 ≠ b4 := by have := hb2.lt; omega
  have hb2 := hb2.keep0 hcm4
  refine WL.storeB rfl rfl rfl ao hb4 (by simp) rfl fun ws10 hb4_ hcs10 => ?_
  try simp only [Sx.splice, qt] at hb4_
  have hch := hch.step hcs10 (fun y hy => .inr (by simp only [List.mem_singleton] at hy; subst hy; first | assumption | omega))
  have hb2 := hb2.keep hcs10 (by simp; omega)
  have hN16 := hN16.keepBK hb4 hcs10 an
  have hNr := hNr.keepBK hb4 hcs10 an
  have hb4 := hb4_
  refine As rfl rfl ?_
  refine WL.nil (kr14 _ _ _ (kh13 _ _ _ ?_))
  refine Sq fun _ kh15 _ kr16 => ?_
  refine WL.ev (Ev.loadA rfl rfl hb4 rfl) rfl ?_
  refine WL.storeB rfl rfl rfl ao hb2 (by simp) rfl fun ws11 hb2_ hcs11 => ?_
  try simp only [Sx.splice, qt] at hb2_
  have hch := hch.step hcs11 (fun y hy => .inr (by simp only [List.mem_singleton] at hy; subst hy; first | assumption | omega))
  have hb4 := hb4.keep hcs11 (by simp; omega)
  have hN16 := hN16.keepBK hb2 hcs11 an
  have hNr := hNr.keepBK hb2 hcs11 an
  have hb2 := hb2_
  refine WL.nil (kr16 _ _ _ (kh15 _ _ _ ?_))
  refine CW.ret ?_
  refine bodyA.retR1 rfl (RVal.cell rfl (hb2.varA rfl rfl)) ?_
  exact ⟨⟨⟨_, rfl, hNr⟩⟩, hch⟩

end Go.Proofs.YtphnpchmdpjabaaGreatDoor

/- Package dyad: sums, products. No condition. -/
namespace Go.Proofs.YtphnpchmdpjabaaGreatDoor
open Go Sx Wd

end Go.Proofs.YtphnpchmdpjabaaGreatDoor

/- Package dyad: Add, Sub, Mul, Neg, Sign. No condition. -/
namespace Go.Proofs.YtphnpchmdpjabaaGreatDoor
open Go Sx Wd

end Go.Proofs.YtphnpchmdpjabaaGreatDoor

/- Package dyad: Sub, Mul, Neg, Sign. No condition. -/
namespace Go.Proofs.YtphnpchmdpjabaaGreatDoor
open Go Sx Wd

/-- The value with the other sign; what may not be is nought. -/
def negD (x : Option Dy) : Dy := x.getD Dy.zero

set_option maxRecDepth 4000 in
theorem Neg_dspec (na : Bool) (va : Value) (la : List Nat) (ea : Int) (w : World) (ha : NU w va la) (hg : GW w) (hea : -9223372036854775808 ≤ ea ∧ ea ≤ 9223372036854775807) : Ret Tryz.prog 59 [.agg [.bool na, va, .int .i64 ea].toArray] w fun u w' => DY w' u (negD (formD (!na) (val la) ea)) ∧ Chg [] w w' := by
 have hch : Chg [] w w := Chg.refl _ _
 have hoa := ha.one
 refine Ret.enter Tryz.func59 rfl rfl ?_
 simp only [args0, Nat.zero_add, Nat.reduceAdd]
 refine Sq fun _ kh1 _ kr2 => ?_
 refine WL.boxB rfl rfl rfl fun b1 wm1 hb1 hcm1 hge1 => ?_
 have hgehch1 := Nat.le_trans hch.size hge1
 have hch := hch.trans hcm1
 have ha := ha.keep0 hcm1
 refine WL.allocB (l := [.bool false, .slice none 0 0, .int .i64 0]) rfl rfl fun b2 wm2 hb2 hcm2 hge2 => ?_
 have hgehch2 := Nat.le_trans hch.size hge2
 have hch := hch.trans hcm2
 have ha := ha.keep0 hcm2
 have hneb12 : b1 ≠ b2 := by have := hb1.lt; omega
 have hb1 := hb1.keep0 hcm2
 refine WL.nil (kr2 _ _ _ (kh1 _ _ _ ?_))
 refine Sq fun _ kh3 _ kr4 => ?_
 refine WL.ev (Ev.fieldAddr rfl) rfl ?_
 refine WL.ev (Ev.load rfl rfl (hb1.at_ rfl)) rfl ?_
 refine WL.ev (Ev.not rfl) rfl ?_
 refine WL.ev (Ev.fieldAddr rfl) rfl ?_
 refine WL.ev (Ev.load rfl rfl (hb1.at_ rfl)) rfl ?_
 refine WL.ev (Ev.fieldAddr rfl) rfl ?_
 refine WL.ev (Ev.load rfl rfl (hb1.at_ rfl)) rfl ?_
 refine WL.call hasF45 rfl rfl (form_spec _ _ _ _ _ ha (hg.keep0 hch) hea) fun v w1 h' => ?_
 obtain ⟨hD, hC13⟩ := h'
 have hch := hch.trans hC13
 have hb1 := hb1.keep0 hC13
 have hb2 := hb2.keep0 hC13
 have ha := ha.keep0 hC13
 rcases hD with ⟨r, d, hd, rfl, hNr⟩ | ⟨hd, rfl⟩
 ·
  refine Mv rfl rfl ?_
  refine WL.ev (Ev.extract rfl rfl) rfl ?_
  refine WL.ev (Ev.extract rfl rfl) rfl ?_
  refine WL.allocB (l := [.bool false, .slice none 0 0, .int .i64 0]) rfl rfl fun b3 wm3 hb3 hcm3 hge3 => ?_
  have hgehch3 := Nat.le_trans hch.size hge3
  have hch := hch.trans hcm3
  have ha := ha.keep0 hcm3
  have hNr := hNr.keep0 hcm3
  have hneb13 : b1 ≠ b3 := by have := hb1.lt; omega
  have hb1 := hb1.keep0 hcm3
  have hneb23 : b2 ≠ b3 := by have := hb2.lt; omega
  have hb2 := hb2.keep0 hcm3
  refine WL.storeB rfl rfl rfl ao hb3 (by simp) rfl fun ws53 hb3_ hcs53 => ?_
  try simp only [Sx.splice, qt] at hb3_
  have hch := hch.step hcs53 (fun y hy => .inr (by simp only [List.mem_singleton] at hy; subst hy; first | assumption | omega))
  have hb1 := hb1.keep hcs53 (by simp; omega)
  have hb2 := hb2.keep hcs53 (by simp; omega)
  have ha := ha.keepBK hb3 hcs53 an
  have hNr := hNr.keepBK hb3 hcs53 an
  have hb3 := hb3_
  refine As rfl rfl ?_
  refine WL.nil (kr4 _ _ _ (kh3 _ _ _ ?_))
  refine Sq fun _ kh5 _ kr6 => ?_
  refine WL.ev (Ev.loadA rfl rfl hb3 rfl) rfl ?_
  refine WL.storeB rfl rfl rfl ao hb2 (by simp) rfl fun ws54 hb2_ hcs54 => ?_
  try simp only [Sx.splice, qt] at hb2_
  have hch := hch.step hcs54 (fun y hy => .inr (by simp only [List.mem_singleton] at hy; subst hy; first | assumption | omega))
  have hb1 := hb1.keep hcs54 (by simp; omega)
  have hb3 := hb3.keep hcs54 (by simp; omega)
  have ha := ha.keepBK hb2 hcs54 an
  have hNr := hNr.keepBK hb2 hcs54 an
  have hb2 := hb2_
  refine WL.nil (kr6 _ _ _ (kh5 _ _ _ ?_))
  refine CW.ret ?_
  refine bodyA.retR1 rfl (RVal.cell rfl (hb2.varA rfl rfl)) ?_
  rw [hd]
  exact ⟨⟨⟨r, rfl, hNr⟩⟩, hch⟩
 ·
  refine Mv rfl rfl ?_
  refine WL.ev (Ev.extract rfl rfl) rfl ?_
  refine WL.ev (Ev.extract rfl rfl) rfl ?_
  refine WL.allocB (l := [.bool false, .slice none 0 0, .int .i64 0]) rfl rfl fun b3 wm3 hb3 hcm3 hge3 => ?_
  have hgehch3 := Nat.le_trans hch.size hge3
  have hch := hch.trans hcm3
  have ha := ha.keep0 hcm3
  have hneb13 : b1 ≠ b3 := by have := hb1.lt; omega
  have hb1 := hb1.keep0 hcm3
  have hneb23 : b2 ≠ b3 := by have := hb2.lt; omega
  have hb2 := hb2.keep0 hcm3
  refine WL.storeB rfl rfl rfl ao hb3 (by simp) rfl fun ws55 hb3_ hcs55 => ?_
  try simp only [Sx.splice, qt] at hb3_
  have hch := hch.step hcs55 (fun y hy => .inr (by simp only [List.mem_singleton] at hy; subst hy; first | assumption | omega))
  have hb1 := hb1.keep hcs55 (by simp; omega)
  have hb2 := hb2.keep hcs55 (by simp; omega)
  have ha := ha.keepBK hb3 hcs55 an
  have hb3 := hb3_
  refine As rfl rfl ?_
  refine WL.nil (kr4 _ _ _ (kh3 _ _ _ ?_))
  refine Sq fun _ kh7 _ kr8 => ?_
  refine WL.ev (Ev.loadA rfl rfl hb3 rfl) rfl ?_
  refine WL.storeB rfl rfl rfl ao hb2 (by simp) rfl fun ws56 hb2_ hcs56 => ?_
  try simp only [Sx.splice, qt] at hb2_
  have hch := hch.step hcs56 (fun y hy => .inr (by simp only [List.mem_singleton] at hy; subst hy; first | assumption | omega))
  have hb1 := hb1.keep hcs56 (by simp; omega)
  have hb3 := hb3.keep hcs56 (by simp; omega)
  have ha := ha.keepBK hb2 hcs56 an
  have hb2 := hb2_
  refine WL.nil (kr8 _ _ _ (kh7 _ _ _ ?_))
  refine CW.ret ?_
  refine bodyA.retR1 rfl (RVal.cell rfl (hb2.varA rfl rfl)) ?_
  rw [hd]
  exact ⟨DY.zero, hch⟩

/-- How a value stands to nought. -/
def sgD (neg : Bool) (n : Nat) : Int := if n = 0 then 0 else if neg then -1 else 1

set_option maxRecDepth 4000 in
theorem Sign_dspec (na : Bool) (va : Value) (la : List Nat) (ea : Int) (w : World) (ha : NU w va la) : Ret Tryz.prog 58 [.agg [.bool na, va, .int .i64 ea].toArray] w fun u w' => u = .int .i64 (sgD na (val la)) ∧ Chg [] w w' := by
 have hch : Chg [] w w := Chg.refl _ _
 have hoa := ha.one
 have hbz := bl_eq_zero (n := val la)
 refine Ret.enter Tryz.func58 rfl rfl ?_
 simp only [args0, Nat.zero_add, Nat.reduceAdd]
 refine Sq fun _ kh1 _ kr2 => ?_
 refine WL.boxB rfl rfl rfl fun b1 wm1 hb1 hcm1 hge1 => ?_
 have hgehch1 := Nat.le_trans hch.size hge1
 have hch := hch.trans hcm1
 have ha := ha.keep0 hcm1
 refine As rfl rfl ?_
 refine WL.nil (kr2 _ _ _ (kh1 _ _ _ ?_))
 refine CW.seq fun _ kh3 => ?_
 refine CW.block ?_
 refine Sq fun _ kh4 _ kr5 => ?_
 refine WL.ev (Ev.fieldAddr rfl) rfl ?_
 refine WL.ev (Ev.load rfl rfl (hb1.at_ rfl)) rfl ?_
 refine WL.call hasF96 rfl rfl (Len_spec _ _ _ ha) fun v w1 h' => ?_
 obtain ⟨rfl, rfl⟩ := h'
 refine WL.ev (Ev.eql rfl rfl) rfl ?_
 refine As rfl rfl ?_
 refine WL.nil (kr5 _ _ _ (kh4 _ _ _ ?_))
 refine CW.cond rfl (fun hc1 => ?_) (fun hc1 => ?_)
 ·
  try simp only [qs] at hc1
  refine Sq fun _ kh6 _ kr7 => ?_
  refine As rfl rfl ?_
  refine WL.nil (kr7 _ _ _ (kh6 _ _ _ ?_))
  refine CW.ret ?_
  refine bodyA.ret1 rfl rfl ?_
  unfold sgD; rw [if_pos (by omega)]
  exact ⟨rfl, hch⟩
 ·
  try simp only [qs] at hc1
  refine Sq fun _ kh8 _ kr9 => ?_
  refine WL.ev (Ev.fieldAddr rfl) rfl ?_
  refine WL.ev (Ev.load rfl rfl (hb1.at_ rfl)) rfl ?_
  refine As rfl rfl ?_
  refine WL.nil (kr9 _ _ _ (kh8 _ _ _ ?_))
  refine CW.cond rfl (fun hc2 => ?_) (fun hc2 => ?_)
  ·
   try simp only [qs] at hc2
   refine Sq fun _ kh10 _ kr11 => ?_
   refine As rfl rfl ?_
   refine WL.nil (kr11 _ _ _ (kh10 _ _ _ ?_))
   refine CW.ret ?_
   refine bodyA.ret1 rfl rfl ?_
   unfold sgD; rw [if_neg (by omega), if_pos hc2]
   exact ⟨rfl, hch⟩
  ·
   try simp only [qs] at hc2
   refine CW.skip ?_
   refine kh3 _ _ _ ?_
   refine Sq fun _ kh12 _ kr13 => ?_
   refine As rfl rfl ?_
   refine WL.nil (kr13 _ _ _ (kh12 _ _ _ ?_))
   refine CW.ret ?_
   refine bodyA.ret1 rfl rfl ?_
   unfold sgD; rw [if_neg (by omega), if_neg (by rw [hc2]; decide)]
   exact ⟨rfl, hch⟩

end Go.Proofs.YtphnpchmdpjabaaGreatDoor

/- Rounding to numbers of 64 bits: what it is, and that it is one. No condition. -/
namespace Go.Proofs.YtphnpchmdpjabaaGreatDoor.Wd

/-- The k-th number from nought on, in units of 2^-1074. -/
def nz (k : Nat) : Nat := if k < 4503599627370496 then k else (4503599627370496 + k % 4503599627370496) * 2 ^ (k / 4503599627370496 - 1)
theorem nz_form {n x : Nat} (h : n ≤ 9007199254740992) (hx : x = 0 ∨ 4503599627370496 ≤ n) : nz (n + x * 4503599627370496) = n * 2 ^ x := by
  unfold nz
  by_cases h1 : n + x * 4503599627370496 < 4503599627370496
  · rw [if_pos h1]
    have : x = 0 := by omega
    subst this; simp
  · rw [if_neg h1]
    by_cases h2 : n = 9007199254740992
    · subst h2
      rw [show (9007199254740992 + x * 4503599627370496) % 4503599627370496 = 0 by omega, show (9007199254740992 + x * 4503599627370496) / 4503599627370496 - 1 = x + 1 by omega, Nat.pow_succ]
      omega
    · rw [show (n + x * 4503599627370496) / 4503599627370496 - 1 = x by omega, show 4503599627370496 + (n + x * 4503599627370496) % 4503599627370496 = n by omega]
theorem nz_split (k : Nat) : ∃ n x, k = n + x * 4503599627370496 ∧ n < 9007199254740992 ∧ (x = 0 ∨ 4503599627370496 ≤ n) := by
  by_cases h : k < 4503599627370496
  · exact ⟨k, 0, by omega, by omega, .inl rfl⟩
  · exact ⟨4503599627370496 + k % 4503599627370496, k / 4503599627370496 - 1, by omega, by omega, .inr (by omega)⟩
theorem nz_succ {n x : Nat} (h : n < 9007199254740992) (hx : x = 0 ∨ 4503599627370496 ≤ n) : nz (n + x * 4503599627370496 + 1) = (n + 1) * 2 ^ x := by
  rw [show n + x * 4503599627370496 + 1 = (n + 1) + x * 4503599627370496 by omega]
  exact nz_form (by omega) (by omega)
theorem nz_lt_succ (k : Nat) : nz k < nz (k + 1) := by
  obtain ⟨n, x, rfl, h1, h2⟩ := nz_split k
  rw [nz_form (by omega) h2, nz_succ h1 h2]
  exact Nat.mul_lt_mul_of_pos_right (Nat.lt_succ_self n) (Nat.two_pow_pos x)
theorem nz_mono {a b : Nat} (h : a < b) : nz a < nz b := by
  induction b with
  | zero => omega
  | succ b ih =>
    by_cases e : a = b
    · subst e; exact nz_lt_succ a
    · exact Nat.lt_trans (ih (by omega)) (nz_lt_succ b)
theorem nz_le {a b : Nat} (h : a ≤ b) : nz a ≤ nz b := by
  rcases Nat.lt_or_eq_of_le h with h | rfl
  · exact Nat.le_of_lt (nz_mono h)
  · exact Nat.le_refl _
/-- Does a mode go on to the next number? (A: the value; M: the middle.) -/
def upM (mode : Int) (neg : Bool) (k A M : Nat) : Bool :=
  if mode = 0 then decide (M < A) || (decide (M = A) && decide (k % 2 = 1))
  else if mode = 2 then !neg
  else if mode = 3 then neg
  else if mode = 4 then decide (M ≤ A)
  else false
/-- r is the value A / B (in units of 2^-1075), rounded. -/
def IsNear (A B : Nat) (neg : Bool) (mode : Int) (r : Nat) : Prop :=
  ∃ k, k < 9218868437227405312 ∧ 2 * nz k * B ≤ A ∧ (A < 2 * nz (k + 1) * B ∨ k + 1 = 9218868437227405312) ∧
    r = if 2 * nz k * B = A then k else if upM mode neg k A ((nz k + nz (k + 1)) * B) then k + 1 else k
theorem IsNear.unique {A B : Nat} {neg : Bool} {mode : Int} {r r' : Nat} (hB : 0 < B) (h : IsNear A B neg mode r) (h' : IsNear A B neg mode r') : r = r' := by
  obtain ⟨k, k1, k2, k3, rfl⟩ := h
  obtain ⟨l, l1, l2, l3, rfl⟩ := h'
  have key : ∀ a b, 2 * nz a * B ≤ A → (A < 2 * nz (b + 1) * B ∨ b + 1 = 9218868437227405312) → a < 9218868437227405312 → a ≤ b := by
    intro a b h1 h2 h3
    rcases h2 with h2 | h2
    · apply Nat.le_of_not_lt
      intro hlt
      have := nz_le (show b + 1 ≤ a by omega)
      have h4 : 2 * nz (b + 1) * B ≤ 2 * nz a * B := Nat.mul_le_mul_right _ (by omega)
      omega
    · omega
  have e : k = l := Nat.le_antisymm (key k l k2 l3 k1) (key l k l2 k3 l1)
  subst e; rfl
theorem le_scale {a b u v S T : Nat} (hS : 0 < S) (hT : 0 < T) (ha : a * S = u * T) (hb : b * S = v * T) : (a ≤ b ↔ u ≤ v) ∧ (b ≤ a ↔ v ≤ u) := by
  have key : ∀ {a b u v : Nat}, a * S = u * T → b * S = v * T → (a ≤ b ↔ u ≤ v) := by
    intro a b u v ha hb
    constructor
    · intro h
      have h1 := Nat.mul_le_mul_right S h
      rw [ha, hb] at h1
      exact Nat.le_of_mul_le_mul_right h1 hT
    · intro h
      have h1 := Nat.mul_le_mul_right T h
      rw [← ha, ← hb] at h1
      exact Nat.le_of_mul_le_mul_right h1 hS
  exact ⟨key ha hb, key hb ha⟩
/-- A value that is told in two ways is rounded alike. -/
theorem IsNear.congr {A B A' B' : Nat} {neg : Bool} {mode : Int} {r : Nat} (hB : 0 < B) (hB' : 0 < B') (hv : A * B' = A' * B) (h : IsNear A B neg mode r) : IsNear A' B' neg mode r := by
  have cmp : ∀ c, (c * B ≤ A ↔ c * B' ≤ A') ∧ (A ≤ c * B ↔ A' ≤ c * B') := fun c =>
    le_scale (S := B') (T := B) hB' hB (by rw [Nat.mul_right_comm]) hv
  obtain ⟨k, h1, h2, h3, rfl⟩ := h
  have c1 := cmp (2 * nz k)
  have c2 := cmp (2 * nz (k + 1))
  have c3 := cmp (nz k + nz (k + 1))
  have q1 : 2 * nz k * B = A ↔ 2 * nz k * B' = A' := by omega
  have u : upM mode neg k A ((nz k + nz (k + 1)) * B) = upM mode neg k A' ((nz k + nz (k + 1)) * B') := by
    unfold upM
    generalize (nz k + nz (k + 1)) * B = M at *
    generalize (nz k + nz (k + 1)) * B' = M' at *
    have d1 : decide (M < A) = decide (M' < A') := decide_eq_decide.2 (by omega)
    have d2 : decide (M = A) = decide (M' = A') := decide_eq_decide.2 (by omega)
    have d3 : decide (M ≤ A) = decide (M' ≤ A') := decide_eq_decide.2 (by omega)
    rw [d1, d2, d3]
  refine ⟨k, h1, c1.1.1 h2, h3.imp (fun h => by omega) id, ?_⟩
  rw [u]
  by_cases hq : 2 * nz k * B = A
  · rw [if_pos hq, if_pos (q1.1 hq)]
  · rw [if_neg hq, if_neg (fun hh => hq (q1.2 hh))]
/-- A dyad's value in units of 2^-1075. -/
def dyA (m : Nat) (e : Int) : Nat := m * 2 ^ (e + 1075).toNat
def dyB (e : Int) : Nat := 2 ^ (-(e + 1075)).toNat
theorem dyB_pos (e : Int) : 0 < dyB e := Nat.two_pow_pos _
theorem dy_scale {m : Nat} {e : Int} {cut t : Nat} (h : e + 1075 = (t : Int) - (cut : Int)) : dyA m e * 2 ^ cut = m * 2 ^ t * dyB e := by
  unfold dyA dyB
  by_cases hc : cut ≤ t
  · rw [show (e + 1075).toNat = t - cut by omega, show (-(e + 1075)).toNat = 0 by omega, Nat.mul_assoc, ← Nat.pow_add, show t - cut + cut = t by omega, Nat.pow_zero, Nat.mul_one]
  · rw [show (e + 1075).toNat = 0 by omega, show (-(e + 1075)).toNat = cut - t by omega, Nat.pow_zero, Nat.mul_one, Nat.mul_assoc, ← Nat.pow_add, show t + (cut - t) = cut by omega]
/-- Of no bits. -/
theorem near_zero {B : Nat} (hB : 0 < B) (neg : Bool) (mode : Int) : IsNear 0 B neg mode 0 := by
  refine ⟨0, by omega, by simp [nz], .inl ?_, by simp [nz]⟩
  have : nz (0 + 1) = 1 := by decide
  rw [this]; omega
/-- A value that is a number. -/
theorem near_exact {m n x : Nat} {e : Int} {neg : Bool} {mode : Int} (h : n < 9007199254740992) (hx : x = 0 ∨ 4503599627370496 ≤ n) (hk : n + x * 4503599627370496 < 9218868437227405312) {c : Nat} (hn : n = m * 2 ^ c) (he : e + 1075 = (x : Int) + 1 + (c : Int)) : IsNear (dyA m e) (dyB e) neg mode (n + x * 4503599627370496) := by
  have hA : dyA m e = 2 * (n * 2 ^ x) * dyB e := by
    unfold dyA dyB
    rw [show (e + 1075).toNat = c + (x + 1) by omega, show (-(e + 1075)).toNat = 0 by omega, hn, Nat.pow_add, Nat.pow_succ, Nat.pow_zero, Nat.mul_one]
    simp only [Nat.mul_comm, Nat.mul_left_comm, Nat.mul_assoc]
  have h1 := nz_form (n := n) (x := x) (by omega) hx
  refine ⟨n + x * 4503599627370496, hk, by rw [h1, hA]; exact Nat.le_refl _, .inl ?_, ?_⟩
  · rw [nz_succ h hx, hA]
    have hp := Nat.mul_pos (Nat.two_pow_pos x) (dyB_pos e)
    have : 2 * ((n + 1) * 2 ^ x) * dyB e = 2 * (n * 2 ^ x) * dyB e + 2 * (2 ^ x * dyB e) := by
      rw [Nat.add_mul n 1, Nat.one_mul, Nat.mul_add, Nat.add_mul, Nat.mul_assoc 2 (2 ^ x)]
    omega
  · rw [h1, if_pos hA.symm]
/-- A value between two numbers. -/
theorem near_cut {m n x cut : Nat} {e : Int} {neg half : Bool} {mode : Int} {up : Bool} (h : n < 9007199254740992) (hx : x = 0 ∨ 4503599627370496 ≤ n) (hk : n + x * 4503599627370496 < 9218868437227405312) (hc : 0 < cut) (hm : m % 2 = 1) (hn : n = m / 2 ^ cut) (he : e + 1075 = (x : Int) + 1 - (cut : Int))
    (hh : half = m.testBit (cut - 1))
    (hup : up = if mode = 0 then (half && (!decide (cut = 1) || decide (n % 2 = 1))) else if mode = 4 then half else if mode = 2 then !neg else if mode = 3 then neg else false) :
    IsNear (dyA m e) (dyB e) neg mode (if up then n + 1 + x * 4503599627370496 else n + x * 4503599627370496) := by
  have hs := dy_scale (m := m) (e := e) (cut := cut) (t := x + 1) (by omega)
  have hB := dyB_pos e
  generalize hA : dyA m e = A at *
  generalize dyB e = B at *
  have hp2 := Nat.two_pow_pos cut
  have hp1 := Nat.two_pow_pos x
  have hcut : 2 ^ cut = 2 * 2 ^ (cut - 1) := by rw [show cut = cut - 1 + 1 by omega, Nat.pow_succ, Nat.mul_comm]; simp
  have hpc := Nat.two_pow_pos (cut - 1)
  -- the value by its quotient and what is left
  have hr : m = 2 ^ cut * n + m % 2 ^ cut := by rw [hn]; exact (Nat.div_add_mod m (2 ^ cut)).symm
  have hrl := Nat.mod_lt m hp2
  have hrodd : m % 2 ^ cut % 2 = 1 := by
    rw [hcut] at *
    rw [Nat.mod_mul_right_mod]; exact hm
  generalize hrr : m % 2 ^ cut = r at *
  have hbit : half = decide (2 ^ (cut - 1) ≤ r) := by
    rw [hh, Nat.testBit_eq_decide_div_mod_eq]
    refine decide_eq_decide.2 ?_
    have e1 : m / 2 ^ (cut - 1) = 2 * n + r / 2 ^ (cut - 1) := by
      conv => lhs; rw [hr, hcut, Nat.mul_comm 2, Nat.mul_assoc, Nat.mul_add_div hpc]
    rw [e1]
    have e2 : r / 2 ^ (cut - 1) < 2 := by rw [Nat.div_lt_iff_lt_mul hpc, ← hcut]; exact hrl
    have e3 := Nat.div_add_mod r (2 ^ (cut - 1))
    have e4 := Nat.mod_lt r hpc
    clear e1 hr hs hcut
    generalize r / 2 ^ (cut - 1) = d at *
    generalize r % 2 ^ (cut - 1) = f at *
    generalize 2 ^ (cut - 1) = C1 at *
    rcases (by omega : d = 0 ∨ d = 1) with q | q
    · subst q; rw [Nat.mul_zero] at e3; omega
    · subst q; rw [Nat.mul_one] at e3; omega
  have honly : (r = 2 ^ (cut - 1)) ↔ (2 ^ (cut - 1) ≤ r ∧ cut = 1) := by
    constructor
    · intro h1
      refine ⟨by omega, ?_⟩
      apply Classical.byContradiction
      intro h2
      have : 2 ^ (cut - 1) = 2 * 2 ^ (cut - 2) := by rw [show cut - 1 = cut - 2 + 1 by omega, Nat.pow_succ, Nat.mul_comm]
      rw [this] at h1
      generalize 2 ^ (cut - 2) = z at h1
      omega
    · rintro ⟨h1, rfl⟩
      simp at hrl h1 ⊢
      omega
  -- comparisons by the scale
  have f1 := nz_form (n := n) (x := x) (by omega) hx
  have f2 := nz_succ h hx
  have hpb := Nat.mul_pos hp1 hB
  have hq2 : A * 2 ^ cut = 2 * m * (2 ^ x * B) := by rw [hs, Nat.pow_succ]; simp only [Nat.mul_comm, Nat.mul_left_comm, Nat.mul_assoc]
  have g1 : 2 * nz (n + x * 4503599627370496) * B * 2 ^ cut = 2 * (2 ^ cut * n) * (2 ^ x * B) := by rw [f1]; simp only [Nat.mul_comm, Nat.mul_left_comm, Nat.mul_assoc]
  have g2 : 2 * nz (n + x * 4503599627370496 + 1) * B * 2 ^ cut = (2 * (2 ^ cut * n) + 2 * 2 ^ cut) * (2 ^ x * B) := by
    rw [f2, show 2 * (2 ^ cut * n) + 2 * 2 ^ cut = 2 * (2 ^ cut * (n + 1)) by rw [Nat.mul_add, Nat.mul_add, Nat.mul_one]]
    simp only [Nat.mul_comm, Nat.mul_left_comm, Nat.mul_assoc]
  have g3 : (nz (n + x * 4503599627370496) + nz (n + x * 4503599627370496 + 1)) * B * 2 ^ cut = (2 * (2 ^ cut * n) + 2 ^ cut) * (2 ^ x * B) := by
    rw [f1, f2, ← Nat.add_mul, show n + (n + 1) = 2 * n + 1 by omega, show 2 * (2 ^ cut * n) + 2 ^ cut = 2 ^ cut * (2 * n + 1) by rw [Nat.mul_add, Nat.mul_one, Nat.mul_left_comm]]
    simp only [Nat.mul_comm, Nat.mul_left_comm, Nat.mul_assoc]
  have c1 := le_scale hp2 hpb g1 hq2
  have c2 := le_scale hp2 hpb g2 hq2
  have c3 := le_scale hp2 hpb g3 hq2
  generalize hP : 2 * nz (n + x * 4503599627370496) * B = P at *
  generalize hQ : 2 * nz (n + x * 4503599627370496 + 1) * B = Q at *
  generalize hM : (nz (n + x * 4503599627370496) + nz (n + x * 4503599627370496 + 1)) * B = M at *
  generalize 2 ^ cut * n = y at *
  have hone : cut = 1 → r = 2 ^ (cut - 1) := fun e => by subst e; simp at hrl ⊢; omega
  generalize 2 ^ (cut - 1) = C1 at *
  generalize 2 ^ cut = C at *
  clear hh hn hs g1 g2 g3 f1 f2 hq2 hpb hp1
  have k1 : P < A := by omega
  have k2 : A < Q := by omega
  have k3 : M < A ↔ C1 < r := by omega
  have k4 : M = A ↔ C1 = r := by omega
  have k5 : M ≤ A ↔ C1 ≤ r := by omega
  refine ⟨n + x * 4503599627370496, hk, by rw [hP]; omega, .inl (by rw [hQ]; exact k2), ?_⟩
  rw [hP, hM, if_neg (show ¬ P = A by omega)]
  have hu : up = upM mode neg (n + x * 4503599627370496) A M := by
    rw [hup]
    unfold upM
    rw [decide_eq_decide.2 k3, decide_eq_decide.2 k4, decide_eq_decide.2 k5, hbit]
    by_cases m0 : mode = 0
    · rw [if_pos m0, if_pos m0]
      have e4 : (n + x * 4503599627370496) % 2 = n % 2 := by omega
      rw [e4]
      by_cases a1 : C1 < r
      · have a2 : ¬ cut = 1 := fun e => by have := hone e; omega
        rw [decide_eq_true (Nat.le_of_lt a1), decide_eq_true a1, decide_eq_false a2]; simp
      · by_cases a2 : C1 = r
        · have a3 := (honly.1 a2.symm).2
          rw [decide_eq_true (Nat.le_of_eq a2), decide_eq_false a1, decide_eq_true a2, decide_eq_true a3]; simp
        · rw [decide_eq_false (show ¬ C1 ≤ r by omega), decide_eq_false a1, decide_eq_false a2]; simp
    · rw [if_neg m0, if_neg m0]
      by_cases m4 : mode = 4
      · rw [if_pos m4, if_neg (by omega), if_neg (by omega), if_pos m4]
      · rw [if_neg m4, if_neg m4]
  rw [hu]
  split <;> omega
/-- A value that is too great. -/
theorem near_beyond {m : Nat} {e : Int} {neg : Bool} {mode : Int} (h0 : m ≠ 0) (hb : 1024 < (bl m : Int) + e) (hm : 0 ≤ mode ∧ mode ≤ 4) :
    IsNear (dyA m e) (dyB e) neg mode (if mode = 1 ∨ (mode = 2 ∧ neg = true) ∨ (mode = 3 ∧ neg = false) then 9218868437227405311 else 9218868437227405312) := by
  have hbp := bl_pos h0
  obtain ⟨t, ht⟩ : ∃ t : Nat, e + 1075 = (t : Int) - ((bl m - 1 : Nat) : Int) := ⟨(e + 1075 + ((bl m - 1 : Nat) : Int)).toNat, by omega⟩
  have hs := dy_scale (m := m) ht
  have hB := dyB_pos e
  obtain ⟨T, hT⟩ : ∃ T : Nat, T = 2046 := ⟨_, rfl⟩
  have hE : nz 9218868437227405312 = 4503599627370496 * 2 ^ T := by
    have := nz_form (n := 4503599627370496) (x := T) (by omega) (.inr (by omega))
    rwa [show 4503599627370496 + T * 4503599627370496 = 9218868437227405312 by omega] at this
  have hk : 9218868437227405311 + 1 = 9218868437227405312 := by omega
  have hlt : nz 9218868437227405311 < nz 9218868437227405312 := nz_mono (by omega)
  have hA : 2 * nz 9218868437227405312 * dyB e ≤ dyA m e := by
    have h1 : 2 ^ (bl m - 1) * 2 ^ (52 + T + 1) ≤ m * 2 ^ t := Nat.mul_le_mul (bl_low h0) (Nat.pow_le_pow_right (by decide) (by omega))
    have h2 := Nat.mul_le_mul_right (dyB e) h1
    rw [← hs] at h2
    have h3 : 2 * nz 9218868437227405312 = 2 ^ (52 + T + 1) := by
      rw [hE, show (4503599627370496 : Nat) = 2 ^ 52 by decide, ← Nat.pow_add, Nat.pow_succ' (n := 52 + T)]
    rw [h3]
    have h4 : 2 ^ (52 + T + 1) * dyB e * 2 ^ (bl m - 1) ≤ dyA m e * 2 ^ (bl m - 1) := by
      rw [Nat.mul_assoc, Nat.mul_comm (dyB e), ← Nat.mul_assoc, Nat.mul_comm (2 ^ (52 + T + 1))]; exact h2
    exact Nat.le_of_mul_le_mul_right h4 (Nat.two_pow_pos _)
  generalize dyA m e = A at *
  generalize dyB e = B at *
  have h1 : 2 * nz 9218868437227405311 * B < A := Nat.lt_of_lt_of_le (Nat.mul_lt_mul_of_pos_right (by omega) hB) hA
  have h2 : (nz 9218868437227405311 + nz (9218868437227405311 + 1)) * B < A := Nat.lt_of_lt_of_le (Nat.mul_lt_mul_of_pos_right (by rw [hk]; omega) hB) hA
  refine ⟨9218868437227405311, by omega, Nat.le_of_lt h1, .inr hk, ?_⟩
  rw [if_neg (Nat.ne_of_lt h1)]
  generalize (nz 9218868437227405311 + nz (9218868437227405311 + 1)) * B = M at *
  unfold upM
  rcases (by omega : mode = 0 ∨ mode = 1 ∨ mode = 2 ∨ mode = 3 ∨ mode = 4) with rfl | rfl | rfl | rfl | rfl
  · simp [h2]
  · simp
  · cases neg <;> simp
  · cases neg <;> simp
  · simp [Nat.le_of_lt h2]
end Go.Proofs.YtphnpchmdpjabaaGreatDoor.Wd

/- Package dyad: rounding. No condition. -/
namespace Go.Proofs.YtphnpchmdpjabaaGreatDoor
open Go Sx Wd

def awayM (mode : Int) (neg : Bool) (n : Nat) (half only : Bool) : Bool := if mode = 0 then (half && (!only || decide (n % 2 = 1))) else if mode = 4 then half else if mode = 2 then !neg else if mode = 3 then neg else false

theorem away_spec (mode : Int) (neg : Bool) (n : Nat) (half only : Bool) (w : World) (hn : n < 18446744073709551616) : Ret Tryz.prog 191 [.int .i64 mode, .bool neg, .int .u64 (n : Int), .bool half, .bool only] w fun u w' => u = .bool (awayM mode neg n half only) ∧ w = w' := by
 refine Ret.enter Tryz.func191 rfl rfl ?_
 simp only [args0, Nat.zero_add, Nat.reduceAdd]
 refine Sq fun _ kh1 _ kr2 => ?_
 refine As rfl rfl ?_
 refine WL.nil (kr2 _ _ _ (kh1 _ _ _ ?_))
 refine CW.seq fun _ kh3 => ?_
 refine Sq fun _ kh4 _ kr5 => ?_
 refine Mv rfl rfl ?_
 refine WL.nil (kr5 _ _ _ (kh4 _ _ _ ?_))
 refine CW.block ?_
 refine Sq fun _ kh6 _ kr7 => ?_
 refine WL.ev (Ev.eql rfl rfl) rfl ?_
 refine As rfl rfl ?_
 refine WL.nil (kr7 _ _ _ (kh6 _ _ _ ?_))
 refine CW.cond rfl (fun hc1 => ?_) (fun hc1 => ?_)
 ·
  try simp only [qs] at hc1
  refine Sq fun _ kh8 _ kr9 => ?_
  refine Mv rfl rfl ?_
  refine Mv rfl rfl ?_
  refine WL.boolCase (fun hg2 => ?_) (fun hg2 => ?_)
  ·
   try simp only [qs] at hg2
   refine WL.want rfl rfl rfl rfl ?_
   refine Mv rfl rfl ?_
   refine WL.want rfl rfl rfl rfl ?_
   refine WL.ev (Ev.not rfl) rfl ?_
   refine WL.want rfl rfl rfl rfl ?_
   refine Mv rfl rfl ?_
   refine WL.boolCase (fun hg3 => ?_) (fun hg3 => ?_)
   ·
    try simp only [qs] at hg3
    refine WL.pass rfl rfl rfl rfl rfl ?_
    refine WL.pass rfl rfl rfl rfl rfl ?_
    refine WL.pass rfl rfl rfl rfl rfl ?_
    refine WL.want rfl rfl rfl rfl ?_
    refine WL.ev (Ev.pickT rfl rfl rfl) rfl ?_
    refine WL.ev (Ev.pickT rfl rfl rfl) rfl ?_
    refine As rfl rfl ?_
    refine WL.nil (kr9 _ _ _ (kh8 _ _ _ ?_))
    refine CW.ret ?_
    refine bodyA.ret1 rfl rfl ?_
    have h0 : mode = 0 := by omega
    refine ⟨?_, rfl⟩
    unfold awayM; rw [if_pos h0, hg2, hg3]; rfl
   ·
    try simp only [qs] at hg3
    refine WL.want rfl rfl rfl rfl ?_
    refine Mv rfl rfl ?_
    refine WL.want rfl rfl rfl rfl ?_
    refine WL.ev (Ev.andU (b := 1) rfl rfl rfl (by simp only [IntKind.bits]; omega) (by simp only [IntKind.bits]; omega)) rfl ?_
    rw [Nat.and_one_is_mod]
    refine WL.want rfl rfl rfl rfl ?_
    refine WL.ev (Ev.eql rfl rfl) rfl ?_
    refine WL.want rfl rfl rfl rfl ?_
    refine WL.ev (Ev.pickF rfl rfl rfl) rfl ?_
    refine WL.ev (Ev.pickT rfl rfl rfl) rfl ?_
    refine As rfl rfl ?_
    refine WL.nil (kr9 _ _ _ (kh8 _ _ _ ?_))
    refine CW.ret ?_
    refine bodyA.ret1 rfl rfl ?_
    have h0 : mode = 0 := by omega
    refine ⟨?_, rfl⟩
    unfold awayM; rw [if_pos h0, hg2, hg3]
    congr 1
    simp only [Bool.true_and, Bool.not_true, Bool.false_or]
    refine decide_eq_decide.2 ?_
    omega
  ·
   try simp only [qs] at hg2
   refine WL.pass rfl rfl rfl rfl rfl ?_
   refine WL.pass rfl rfl rfl rfl rfl ?_
   refine WL.pass rfl rfl rfl rfl rfl ?_
   refine WL.passU rfl rfl rfl rfl ?_
   refine WL.passU rfl rfl rfl rfl ?_
   refine WL.passU rfl rfl rfl rfl ?_
   refine WL.pass rfl rfl rfl rfl rfl ?_
   refine WL.ev (Ev.pickF rfl rfl rfl) rfl ?_
   refine As rfl rfl ?_
   refine WL.nil (kr9 _ _ _ (kh8 _ _ _ ?_))
   refine CW.ret ?_
   refine bodyA.ret1 rfl rfl ?_
   have h0 : mode = 0 := by omega
   refine ⟨?_, rfl⟩
   unfold awayM; rw [if_pos h0, hg2]; rfl
 ·
  try simp only [qs] at hc1
  refine Sq fun _ kh10 _ kr11 => ?_
  refine WL.ev (Ev.eql rfl rfl) rfl ?_
  refine As rfl rfl ?_
  refine WL.nil (kr11 _ _ _ (kh10 _ _ _ ?_))
  refine CW.cond rfl (fun hc4 => ?_) (fun hc4 => ?_)
  ·
   try simp only [qs] at hc4
   refine Sq fun _ kh12 _ kr13 => ?_
   refine Mv rfl rfl ?_
   refine As rfl rfl ?_
   refine WL.nil (kr13 _ _ _ (kh12 _ _ _ ?_))
   refine CW.ret ?_
   refine bodyA.ret1 rfl rfl ?_
   refine ⟨?_, rfl⟩
   unfold awayM; rw [if_neg (by omega), if_pos (by omega)]
  ·
   try simp only [qs] at hc4
   refine Sq fun _ kh14 _ kr15 => ?_
   refine WL.ev (Ev.eql rfl rfl) rfl ?_
   refine As rfl rfl ?_
   refine WL.nil (kr15 _ _ _ (kh14 _ _ _ ?_))
   refine CW.cond rfl (fun hc5 => ?_) (fun hc5 => ?_)
   ·
    try simp only [qs] at hc5
    refine Sq fun _ kh16 _ kr17 => ?_
    refine Mv rfl rfl ?_
    refine WL.ev (Ev.not rfl) rfl ?_
    refine As rfl rfl ?_
    refine WL.nil (kr17 _ _ _ (kh16 _ _ _ ?_))
    refine CW.ret ?_
    refine bodyA.ret1 rfl rfl ?_
    refine ⟨?_, rfl⟩
    unfold awayM; rw [if_neg (by omega), if_neg (by omega), if_pos (by omega)]
   ·
    try simp only [qs] at hc5
    refine Sq fun _ kh18 _ kr19 => ?_
    refine WL.ev (Ev.eql rfl rfl) rfl ?_
    refine As rfl rfl ?_
    refine WL.nil (kr19 _ _ _ (kh18 _ _ _ ?_))
    refine CW.cond rfl (fun hc6 => ?_) (fun hc6 => ?_)
    ·
     try simp only [qs] at hc6
     refine Sq fun _ kh20 _ kr21 => ?_
     refine Mv rfl rfl ?_
     refine As rfl rfl ?_
     refine WL.nil (kr21 _ _ _ (kh20 _ _ _ ?_))
     refine CW.ret ?_
     refine bodyA.ret1 rfl rfl ?_
     refine ⟨?_, rfl⟩
     unfold awayM; rw [if_neg (by omega), if_neg (by omega), if_neg (by omega), if_pos (by omega)]
    ·
     try simp only [qs] at hc6
     refine CW.skip ?_
     refine kh3 _ _ _ ?_
     refine Sq fun _ kh22 _ kr23 => ?_
     refine As rfl rfl ?_
     refine WL.nil (kr23 _ _ _ (kh22 _ _ _ ?_))
     refine CW.ret ?_
     refine bodyA.ret1 rfl rfl ?_
     refine ⟨?_, rfl⟩
     unfold awayM; rw [if_neg (by omega), if_neg (by omega), if_neg (by omega), if_neg (by omega)]

theorem on_fits {m : Nat} {e ex : Int} {c : Nat} (h0 : m ≠ 0) (hex : max ((bl m : Int) + e - 53) (-1074) = ex) (ht : (bl m : Int) + e ≤ 1024) (hc : (c : Int) = e - ex) : m * 2 ^ c < 9007199254740992 ∧ ((ex + 1074).toNat = 0 ∨ 4503599627370496 ≤ m * 2 ^ c) ∧ m * 2 ^ c + (ex + 1074).toNat * 4503599627370496 < 9218868437227405312 := by
  have hb := bl_mul_pow h0 c
  have h1 : m * 2 ^ c < 9007199254740992 := bl_le.1 (show bl (m * 2 ^ c) ≤ 53 by omega)
  refine ⟨h1, ?_, by omega⟩
  by_cases hx : ex = -1074
  · left; omega
  · right
    exact lt_bl.1 (show 52 < bl (m * 2 ^ c) by omega)
theorem on_cuts {m : Nat} {e ex : Int} {c : Nat} (h0 : m ≠ 0) (hex : max ((bl m : Int) + e - 53) (-1074) = ex) (ht : (bl m : Int) + e ≤ 1024) (hc : (c : Int) = ex - e) : m / 2 ^ c < 9007199254740992 ∧ ((ex + 1074).toNat = 0 ∨ 4503599627370496 ≤ m / 2 ^ c) ∧ m / 2 ^ c + (ex + 1074).toNat * 4503599627370496 < 9218868437227405312 := by
  have h1 : m / 2 ^ c < 9007199254740992 := by
    rw [Nat.div_lt_iff_lt_mul (Nat.two_pow_pos c), show (9007199254740992 : Nat) = 2 ^ 53 by decide, ← Nat.pow_add]
    exact bl_le.1 (by omega)
  refine ⟨h1, ?_, by omega⟩
  by_cases hx : ex = -1074
  · left; omega
  · right
    rw [Nat.le_div_iff_mul_le (Nat.two_pow_pos c), show (4503599627370496 : Nat) = 2 ^ 52 by decide, ← Nat.pow_add]
    exact lt_bl.1 (by omega)

set_option maxRecDepth 4000 in
theorem beyond_spec (neg : Bool) (mode : Int) (w : World) : Ret Tryz.prog 189 [.agg [.int .i64 53, .int .i64 (-1074), .int .u64 9218868437227405312].toArray, .bool neg, .int .i64 mode] w fun u w' => u = .int .u64 (((if mode = 1 ∨ (mode = 2 ∧ neg = true) ∨ (mode = 3 ∧ neg = false) then 9218868437227405311 else 9218868437227405312) : Nat) : Int) ∧ Chg [] w w' := by
 have hch : Chg [] w w := Chg.refl _ _
 refine Ret.enter Tryz.func189 rfl rfl ?_
 simp only [args0, Nat.zero_add, Nat.reduceAdd]
 refine Sq fun _ kh1 _ kr2 => ?_
 refine WL.boxB rfl rfl rfl fun b3 wm3 hb3 hcm3 hge3 => ?_
 have hgehch3 := Nat.le_trans hch.size hge3
 have hch := hch.trans hcm3
 refine As rfl rfl ?_
 refine WL.nil (kr2 _ _ _ (kh1 _ _ _ ?_))
 refine CW.seq fun _ kh3 => ?_
 refine CW.seqM 23 (decide (mode = 1 ∨ (mode = 2 ∧ neg = true) ∨ (mode = 3 ∧ neg = false))) ?_ ?_
 ·
  refine CW.region fun kR4 kr4 => ?_
  refine Mv rfl rfl ?_
  refine WL.ev (Ev.eql rfl rfl) rfl ?_
  refine Mv rfl rfl ?_
  refine WL.boolCase (fun hg1 => ?_) (fun hg1 => ?_)
  ·
   try simp only [qs] at hg1
   refine WL.pass rfl rfl rfl rfl rfl ?_
   refine WL.pass rfl rfl rfl rfl rfl ?_
   refine WL.pass rfl rfl rfl rfl rfl ?_
   refine WL.passU rfl rfl rfl rfl ?_
   refine WL.pass rfl rfl rfl rfl rfl ?_
   refine WL.ev (Ev.pickT rfl rfl rfl) rfl ?_
   refine Mv rfl rfl ?_
   refine WL.pass rfl rfl rfl rfl rfl ?_
   refine WL.pass rfl rfl rfl rfl rfl ?_
   refine WL.pass rfl rfl rfl rfl rfl ?_
   refine WL.passU rfl rfl rfl rfl ?_
   refine WL.passU rfl rfl rfl rfl ?_
   refine WL.pass rfl rfl rfl rfl rfl ?_
   refine WL.ev (Ev.pickT rfl rfl rfl) rfl ?_
   refine WL.nil (kr4 _ _ _ ?_)
   refine ⟨rfl, rfl, Subs.consB rfl ?_ ?_⟩
   ·
    first | (simp; omega) | (cases neg <;> simp_all <;> omega) | (refine decide_eq_decide.2 ?_; omega) | (cases neg <;> simp_all)
   ·
    first | ((repeat (first | exact Subs.refl | refine Subs.drop1 (by rfl) ?_)); done) | ((repeat (first | exact Subs.nil | refine Subs.cons rfl ?_)); done)
  ·
   try simp only [qs] at hg1
   refine WL.want rfl rfl rfl rfl ?_
   refine Mv rfl rfl ?_
   refine WL.want rfl rfl rfl rfl ?_
   refine WL.ev (Ev.eql rfl rfl) rfl ?_
   refine WL.want rfl rfl rfl rfl ?_
   refine Mv rfl rfl ?_
   refine WL.boolCase (fun hg2 => ?_) (fun hg2 => ?_)
   ·
    try simp only [qs] at hg2
    refine WL.want rfl rfl rfl rfl ?_
    refine Mv rfl rfl ?_
    refine WL.want rfl rfl rfl rfl ?_
    refine WL.ev (Ev.pickT rfl rfl rfl) rfl ?_
    refine WL.ev (Ev.pickF rfl rfl rfl) rfl ?_
    refine Mv rfl rfl ?_
    refine WL.boolCase (fun hg3 => ?_) (fun hg3 => ?_)
    ·
     try simp only [qs] at hg3
     refine WL.pass rfl rfl rfl rfl rfl ?_
     refine WL.pass rfl rfl rfl rfl rfl ?_
     refine WL.pass rfl rfl rfl rfl rfl ?_
     refine WL.passU rfl rfl rfl rfl ?_
     refine WL.passU rfl rfl rfl rfl ?_
     refine WL.pass rfl rfl rfl rfl rfl ?_
     refine WL.ev (Ev.pickT rfl rfl rfl) rfl ?_
     refine WL.nil (kr4 _ _ _ ?_)
     refine ⟨rfl, rfl, Subs.consB rfl ?_ ?_⟩
     ·
      first | (simp; omega) | (cases neg <;> simp_all <;> omega) | (refine decide_eq_decide.2 ?_; omega) | (cases neg <;> simp_all)
     ·
      first | ((repeat (first | exact Subs.refl | refine Subs.drop1 (by rfl) ?_)); done) | ((repeat (first | exact Subs.nil | refine Subs.cons rfl ?_)); done)
    ·
     try simp only [qs] at hg3
     refine WL.want rfl rfl rfl rfl ?_
     refine Mv rfl rfl ?_
     refine WL.want rfl rfl rfl rfl ?_
     refine WL.ev (Ev.eql rfl rfl) rfl ?_
     refine WL.want rfl rfl rfl rfl ?_
     refine Mv rfl rfl ?_
     refine WL.boolCase (fun hg4 => ?_) (fun hg4 => ?_)
     ·
      try simp only [qs] at hg4
      refine WL.want rfl rfl rfl rfl ?_
      refine Mv rfl rfl ?_
      refine WL.want rfl rfl rfl rfl ?_
      refine WL.ev (Ev.not rfl) rfl ?_
      refine WL.want rfl rfl rfl rfl ?_
      refine WL.ev (Ev.pickT rfl rfl rfl) rfl ?_
      refine WL.ev (Ev.pickF rfl rfl rfl) rfl ?_
      refine WL.nil (kr4 _ _ _ ?_)
      refine ⟨rfl, rfl, Subs.consB rfl ?_ ?_⟩
      ·
       first | (simp; omega) | (cases neg <;> simp_all <;> omega) | (refine decide_eq_decide.2 ?_; omega) | (cases neg <;> simp_all)
      ·
       first | ((repeat (first | exact Subs.refl | refine Subs.drop1 (by rfl) ?_)); done) | ((repeat (first | exact Subs.nil | refine Subs.cons rfl ?_)); done)
     ·
      try simp only [qs] at hg4
      refine WL.pass rfl rfl rfl rfl rfl ?_
      refine WL.pass rfl rfl rfl rfl rfl ?_
      refine WL.want rfl rfl rfl rfl ?_
      refine WL.ev (Ev.pickF rfl rfl rfl) rfl ?_
      refine WL.ev (Ev.pickF rfl rfl rfl) rfl ?_
      refine WL.nil (kr4 _ _ _ ?_)
      refine ⟨rfl, rfl, Subs.consB rfl ?_ ?_⟩
      ·
       first | (simp; omega) | (cases neg <;> simp_all <;> omega) | (refine decide_eq_decide.2 ?_; omega) | (cases neg <;> simp_all)
      ·
       first | ((repeat (first | exact Subs.refl | refine Subs.drop1 (by rfl) ?_)); done) | ((repeat (first | exact Subs.nil | refine Subs.cons rfl ?_)); done)
   ·
    try simp only [qs] at hg2
    refine WL.pass rfl rfl rfl rfl rfl ?_
    refine WL.want rfl rfl rfl rfl ?_
    refine WL.ev (Ev.pickF rfl rfl rfl) rfl ?_
    refine WL.ev (Ev.pickF rfl rfl rfl) rfl ?_
    refine Mv rfl rfl ?_
    refine WL.want rfl rfl rfl rfl ?_
    refine Mv rfl rfl ?_
    refine WL.want rfl rfl rfl rfl ?_
    refine WL.ev (Ev.eql rfl rfl) rfl ?_
    refine WL.want rfl rfl rfl rfl ?_
    refine Mv rfl rfl ?_
    refine WL.boolCase (fun hg5 => ?_) (fun hg5 => ?_)
    ·
     try simp only [qs] at hg5
     refine WL.want rfl rfl rfl rfl ?_
     refine Mv rfl rfl ?_
     refine WL.want rfl rfl rfl rfl ?_
     refine WL.ev (Ev.not rfl) rfl ?_
     refine WL.want rfl rfl rfl rfl ?_
     refine WL.ev (Ev.pickT rfl rfl rfl) rfl ?_
     refine WL.ev (Ev.pickF rfl rfl rfl) rfl ?_
     refine WL.nil (kr4 _ _ _ ?_)
     refine ⟨rfl, rfl, Subs.consB rfl ?_ ?_⟩
     ·
      first | (simp; omega) | (cases neg <;> simp_all <;> omega) | (refine decide_eq_decide.2 ?_; omega) | (cases neg <;> simp_all)
     ·
      first | ((repeat (first | exact Subs.refl | refine Subs.drop1 (by rfl) ?_)); done) | ((repeat (first | exact Subs.nil | refine Subs.cons rfl ?_)); done)
    ·
     try simp only [qs] at hg5
     refine WL.pass rfl rfl rfl rfl rfl ?_
     refine WL.pass rfl rfl rfl rfl rfl ?_
     refine WL.want rfl rfl rfl rfl ?_
     refine WL.ev (Ev.pickF rfl rfl rfl) rfl ?_
     refine WL.ev (Ev.pickF rfl rfl rfl) rfl ?_
     refine WL.nil (kr4 _ _ _ ?_)
     refine ⟨rfl, rfl, Subs.consB rfl ?_ ?_⟩
     ·
      first | (simp; omega) | (cases neg <;> simp_all <;> omega) | (refine decide_eq_decide.2 ?_; omega) | (cases neg <;> simp_all)
     ·
      first | ((repeat (first | exact Subs.refl | refine Subs.drop1 (by rfl) ?_)); done) | ((repeat (first | exact Subs.nil | refine Subs.cons rfl ?_)); done)
 ·
  refine CW.cond rfl (fun hc6 => ?_) (fun hc6 => ?_)
  ·
   try simp only [qs] at hc6
   refine Sq fun _ kh5 _ kr6 => ?_
   refine WL.ev (Ev.fieldAddr rfl) rfl ?_
   refine WL.ev (Ev.load rfl rfl (hb3.at_ rfl)) rfl ?_
   refine WL.ev (Ev.sub64In (a := 9218868437227405312) (b := 1) rfl rfl (by omega) (by omega)) rfl ?_
   refine As rfl rfl ?_
   refine WL.nil (kr6 _ _ _ (kh5 _ _ _ ?_))
   refine CW.ret ?_
   refine bodyA.ret1 rfl rfl ?_
   rw [if_pos hc6]
   exact ⟨rfl, hch⟩
  ·
   try simp only [qs] at hc6
   refine CW.skip ?_
   refine kh3 _ _ _ ?_
   refine Sq fun _ kh7 _ kr8 => ?_
   refine WL.ev (Ev.fieldAddr rfl) rfl ?_
   refine WL.ev (Ev.load rfl rfl (hb3.at_ rfl)) rfl ?_
   refine As rfl rfl ?_
   refine WL.nil (kr8 _ _ _ (kh7 _ _ _ ?_))
   refine CW.ret ?_
   refine bodyA.ret1 rfl rfl ?_
   rw [if_neg hc6]
   exact ⟨rfl, hch⟩

end Go.Proofs.YtphnpchmdpjabaaGreatDoor

/- Package dyad: on, told, Round. No condition. -/
namespace Go.Proofs.YtphnpchmdpjabaaGreatDoor
open Go Sx Wd

set_option maxRecDepth 4000 in
set_option maxHeartbeats 1000000 in
theorem on_spec (neg : Bool) (v : Value) (m : Nat) (e mode : Int) (w : World) (hv : NU w v (wd m)) (hok : (Dy.mk neg m e).ok) (hm : 0 ≤ mode ∧ mode ≤ 4) : Ret Tryz.prog 159 [.agg [.int .i64 53, .int .i64 (-1074), .int .u64 9218868437227405312].toArray, .agg [.bool neg, v, .int .i64 e].toArray, .int .i64 mode] w fun u w' => ∃ r : Nat, u = .int .u64 (r : Int) ∧ IsNear (dyA m e) (dyB e) neg mode r ∧ r ≤ 9218868437227405312 ∧ Chg [] w w' := by
 have hch : Chg [] w w := Chg.refl _ _
 have hov := hv.one
 have he : -1048576 ≤ e ∧ e ≤ 1048576 := hok.e
 have hl : (wd m).length ≤ 8192 := hok.len
 have hbz := bl_eq_zero (n := m)
 have hbl : bl m ≤ 262144 := bl_words.2 hl
 refine Ret.enter Tryz.func159 rfl rfl ?_
 simp only [args0, Nat.zero_add, Nat.reduceAdd]
 refine Sq fun _ kh1 _ kr2 => ?_
 refine WL.boxB rfl rfl rfl fun b3 wm3 hb3 hcm3 hge3 => ?_
 have hgehch3 := Nat.le_trans hch.size hge3
 have hch := hch.trans hcm3
 have hv := hv.keep0 hcm3
 refine WL.boxB rfl rfl rfl fun b4 wm4 hb4 hcm4 hge4 => ?_
 have hgehch4 := Nat.le_trans hch.size hge4
 have hch := hch.trans hcm4
 have hv := hv.keep0 hcm4
 have hneb34 : b3 ≠ b4 := by have := hb3.lt; omega
 have hb3 := hb3.keep0 hcm4
 refine As rfl rfl ?_
 refine WL.nil (kr2 _ _ _ (kh1 _ _ _ ?_))
 refine Sq fun _ kh3 _ kr4 => ?_
 refine WL.ev (Ev.fieldAddr rfl) rfl ?_
 refine WL.ev (Ev.load rfl rfl (hb4.at_ rfl)) rfl ?_
 refine WL.call hasF96 rfl rfl (Len_spec _ _ _ hv) fun v w1 h' => ?_
 obtain ⟨rfl, rfl⟩ := h'
 rw [val_wd]
 refine As rfl rfl ?_
 refine WL.nil (kr4 _ _ _ (kh3 _ _ _ ?_))
 refine CW.seq fun _ kh5 => ?_
 refine Sq fun _ kh6 _ kr7 => ?_
 refine Mv rfl rfl ?_
 refine WL.ev (Ev.eql rfl rfl) rfl ?_
 refine WL.nil (kr7 _ _ _ (kh6 _ _ _ ?_))
 refine CW.cond rfl (fun hc1 => ?_) (fun hc1 => ?_)
 ·
  try simp only [qs] at hc1
  refine Sq fun _ kh8 _ kr9 => ?_
  refine As rfl rfl ?_
  refine WL.nil (kr9 _ _ _ (kh8 _ _ _ ?_))
  refine CW.ret ?_
  refine bodyA.ret1 rfl rfl ?_
  have h0 : m = 0 := by omega
  subst h0
  exact ⟨0, rfl, by unfold dyA; rw [Nat.zero_mul]; exact near_zero (dyB_pos e) neg mode, by omega, hch⟩
 ·
  try simp only [qs] at hc1
  have h0 : m ≠ 0 := by omega
  refine CW.skip ?_
  refine kh5 _ _ _ ?_
  refine CW.seq fun _ kh10 => ?_
  refine CW.regionSC hmix (by kernel_rfl) fun kR11 kr11 hdr => ?_
  have hch := hch.trans hdr
  have hb3 := hb3.keep0 hdr
  have hb4 := hb4.keep0 hdr
  have hv := hv.keep0 hdr
  refine WS.ev (Ev.fieldAddr rfl) rfl ?_
  refine WS.ev (Ev.load rfl rfl (hb3.at_ rfl)) rfl ?_
  refine WS.ev (Ev.fieldAddr rfl) rfl ?_
  refine WS.ev (Ev.load rfl rfl (hb3.at_ rfl)) rfl ?_
  refine WS.ev (Ev.fieldAddr rfl) rfl ?_
  refine WS.ev (Ev.load rfl rfl (hb3.at_ rfl)) rfl ?_
  first | refine WS.ev (Ev.subIn rfl rfl (by omega)) rfl ?_ | refine WS.ev (Ev.sub rfl rfl) rfl ?_
  refine WS.ev (Ev.shrU (a := 9218868437227405312) (b := 52) rfl rfl (by decide)) rfl ?_
  refine WS.ev (Ev.convIn rfl rfl (in_i64 (by omega))) rfl ?_
  first | refine WS.ev (Ev.addIn rfl rfl (by omega)) rfl ?_ | refine WS.ev (Ev.add rfl rfl) rfl ?_
  first | refine WS.ev (Ev.subIn rfl rfl (by omega)) rfl ?_ | refine WS.ev (Ev.sub rfl rfl) rfl ?_
  refine WS.ev (Ev.fieldAddr rfl) rfl ?_
  refine WS.ev (Ev.load rfl rfl (hb3.at_ rfl)) rfl ?_
  first | refine WS.ev (Ev.addIn rfl rfl (by omega)) rfl ?_ | refine WS.ev (Ev.add rfl rfl) rfl ?_
  refine WS.ev (Ev.subIn rfl rfl (by omega)) rfl ?_
  rw [show (-1074 : Int) + ((9218868437227405312 / 2 ^ 52 : Nat) : Int) - 1 + 53 - 1 = 1024 by omega]
  refine WS.ev (Ev.assign rfl) rfl ?_
  refine WS.nil (kr11 _ _ ?_)
  refine kh10 _ _ _ ?_
  refine Sq fun _ kh12 _ kr13 => ?_
  refine Mv rfl rfl ?_
  refine WL.ev (Ev.fieldAddr rfl) rfl ?_
  refine WL.ev (Ev.load rfl rfl (hb4.at_ rfl)) rfl ?_
  first | refine WL.ev (Ev.addIn rfl rfl (by omega)) rfl ?_ | refine WL.ev (Ev.add rfl rfl) rfl ?_
  refine WL.ev (Ev.fieldAddr rfl) rfl ?_
  refine WL.ev (Ev.load rfl rfl (hb3.at_ rfl)) rfl ?_
  first | refine WL.ev (Ev.subIn rfl rfl (by omega)) rfl ?_ | refine WL.ev (Ev.sub rfl rfl) rfl ?_
  refine WL.ev (Ev.fieldAddr rfl) rfl ?_
  refine WL.ev (Ev.load rfl rfl (hb3.at_ rfl)) rfl ?_
  refine WL.ev (Ev.maxI rfl rfl) rfl ?_
  generalize hex : max ((bl m : Int) + e - 53) (-1074) = ex
  refine As rfl rfl ?_
  refine WL.nil (kr13 _ _ _ (kh12 _ _ _ ?_))
  refine CW.seq fun _ kh14 => ?_
  refine Sq fun _ kh15 _ kr16 => ?_
  refine Mv rfl rfl ?_
  refine WL.ev (Ev.fieldAddr rfl) rfl ?_
  refine WL.ev (Ev.load rfl rfl (hb4.at_ rfl)) rfl ?_
  first | refine WL.ev (Ev.addIn rfl rfl (by omega)) rfl ?_ | refine WL.ev (Ev.add rfl rfl) rfl ?_
  refine Mv rfl rfl ?_
  refine WL.ev (Ev.gtr rfl rfl) rfl ?_
  refine WL.nil (kr16 _ _ _ (kh15 _ _ _ ?_))
  refine CW.cond rfl (fun hc2 => ?_) (fun hc2 => ?_)
  ·
   try simp only [qs] at hc2
   refine Sq fun _ kh17 _ kr18 => ?_
   refine WL.ev (Ev.loadA rfl rfl hb3 rfl) rfl ?_
   refine WL.ev (Ev.fieldAddr rfl) rfl ?_
   refine WL.ev (Ev.load rfl rfl (hb4.at_ rfl)) rfl ?_
   refine Mv rfl rfl ?_
   refine WL.call hasF189 rfl rfl (beyond_spec neg mode _) fun v w2 h' => ?_
   obtain ⟨rfl, hC54⟩ := h'
   have hch := hch.trans hC54
   have hb3 := hb3.keep0 hC54
   have hb4 := hb4.keep0 hC54
   have hv := hv.keep0 hC54
   refine As rfl rfl ?_
   refine WL.nil (kr18 _ _ _ (kh17 _ _ _ ?_))
   refine CW.ret ?_
   refine bodyA.ret1 rfl rfl ?_
   exact ⟨_, rfl, near_beyond h0 (by omega) hm, by split <;> omega, hch⟩
  ·
   try simp only [qs] at hc2
   refine CW.skip ?_
   refine kh14 _ _ _ ?_
   refine Sq fun _ kh19 _ kr20 => ?_
   refine Mv rfl rfl ?_
   refine WL.ev (Ev.fieldAddr rfl) rfl ?_
   refine WL.ev (Ev.load rfl rfl (hb4.at_ rfl)) rfl ?_
   first | refine WL.ev (Ev.subIn rfl rfl (by omega)) rfl ?_ | refine WL.ev (Ev.sub rfl rfl) rfl ?_
   refine As rfl rfl ?_
   refine WL.nil (kr20 _ _ _ (kh19 _ _ _ ?_))
   refine Sq fun _ kh21 _ kr22 => ?_
   refine As rfl rfl ?_
   refine WL.nil (kr22 _ _ _ (kh21 _ _ _ ?_))
   refine CW.seq fun _ kh23 => ?_
   refine Sq fun _ kh24 _ kr25 => ?_
   refine Mv rfl rfl ?_
   refine WL.ev (Ev.leq rfl rfl) rfl ?_
   refine WL.nil (kr25 _ _ _ (kh24 _ _ _ ?_))
   refine CW.cond rfl (fun hc3 => ?_) (fun hc3 => ?_)
   ·
    try simp only [qs] at hc3
    obtain ⟨c, hcc⟩ : ∃ c : Nat, (c : Int) = e - ex := ⟨(e - ex).toNat, by omega⟩
    obtain ⟨f1, f2, f3⟩ := on_fits h0 hex (by omega) hcc
    have hm64 : m < 18446744073709551616 := Nat.lt_of_le_of_lt (Nat.le_mul_of_pos_right m (Nat.two_pow_pos c)) (by omega)
    have hd15 : decide (0 < ex - e) = false := decide_eq_false (by omega)
    refine Sq fun _ kh26 _ kr27 => ?_
    refine WL.ev (Ev.fieldAddr rfl) rfl ?_
    refine WL.ev (Ev.load rfl rfl (hb4.at_ rfl)) rfl ?_
    refine WL.call hasF190 rfl rfl (Small_spec _ _ _ hv) fun v w3 h' => ?_
    obtain ⟨rfl, rfl⟩ := h'
    rw [val_wd, if_pos hm64, if_pos hm64]
    refine Mv rfl rfl ?_
    refine WL.ev (Ev.extract rfl rfl) rfl ?_
    refine WL.ev (Ev.extract rfl rfl) rfl ?_
    refine As rfl rfl ?_
    refine WL.nil (kr27 _ _ _ (kh26 _ _ _ ?_))
    refine CW.region fun kR28 kr28 => ?_
    refine Mv rfl rfl ?_
    refine Mv rfl rfl ?_
    refine WL.ev (Ev.negIn rfl (by omega)) rfl ?_
    rw [show -(ex - e) = ((c : Nat) : Int) by omega]
    refine WL.ev (Ev.shlU64 rfl rfl) rfl ?_
    rw [Nat.mod_eq_of_lt (show m * 2 ^ c < 18446744073709551616 by omega)]
    refine As rfl rfl ?_
    refine WL.nil (kr28 _ _ _ (kh23 _ _ _ ?_))
    refine CW.seq fun _ kh29 => ?_
    refine CW.seq fun _ kh30 => ?_
    refine CW.regionSC hmix (by kernel_rfl) fun kR31 kr31 hdr => ?_
    have hch := hch.trans hdr
    have hb3 := hb3.keep0 hdr
    have hb4 := hb4.keep0 hdr
    have hv := hv.keep0 hdr
    refine WS.ev (Ev.move rfl) rfl ?_
    refine WS.ev (Ev.gtr rfl rfl) rfl ?_
    refine WS.ev (Ev.move rfl) rfl ?_
    refine WS.pass rfl rfl rfl (by rw [hd15]; rfl) rfl ?_
    refine WS.pass rfl rfl rfl (by rw [hd15]; rfl) rfl ?_
    refine WS.pass rfl rfl rfl (by rw [hd15]; rfl) rfl ?_
    refine WS.pass rfl rfl rfl (by rw [hd15]; rfl) rfl ?_
    refine WS.pass rfl rfl rfl (by rw [hd15]; rfl) rfl ?_
    refine WS.pass rfl rfl rfl (by rw [hd15]; rfl) rfl ?_
    refine WS.pass rfl rfl rfl (by rw [hd15]; rfl) rfl ?_
    refine WS.pass rfl rfl rfl (by rw [hd15]; rfl) rfl ?_
    refine WS.pass rfl rfl rfl (by rw [hd15]; rfl) rfl ?_
    refine WS.pass rfl rfl rfl (by rw [hd15]; rfl) rfl ?_
    refine WS.pass rfl rfl rfl (by rw [hd15]; rfl) rfl ?_
    refine WS.pass rfl rfl rfl (by rw [hd15]; rfl) rfl ?_
    refine WS.ev (Ev.pickF rfl hd15 rfl) rfl ?_
    refine WS.nil (kr31 _ _ ?_)
    refine kh30 _ _ _ ?_
    refine CW.condF rfl ?_
    refine CW.skip ?_
    refine kh29 _ _ _ ?_
    refine Sq fun _ kh32 _ kr33 => ?_
    refine Mv rfl rfl ?_
    refine Mv rfl rfl ?_
    refine WL.ev (Ev.fieldAddr rfl) rfl ?_
    refine WL.ev (Ev.load rfl rfl (hb3.at_ rfl)) rfl ?_
    first | refine WL.ev (Ev.subIn rfl rfl (by omega)) rfl ?_ | refine WL.ev (Ev.sub rfl rfl) rfl ?_
    refine WL.ev (Ev.conv rfl rfl) rfl ?_
    rw [wrap_u64i, show (ex - -1074) % 18446744073709551616 = ((((ex + 1074).toNat) : Nat) : Int) by omega]
    refine WL.ev (Ev.fieldAddr rfl) rfl ?_
    refine WL.ev (Ev.load rfl rfl (hb3.at_ rfl)) rfl ?_
    refine WL.ev (Ev.subIn rfl rfl (by omega)) rfl ?_
    rw [show (53 : Int) - 1 = ((52 : Nat) : Int) by omega]
    refine WL.ev (Ev.shlU64 (b := 52) rfl rfl) rfl ?_
    rw [Nat.mod_eq_of_lt (show ((ex + 1074).toNat) * 2 ^ 52 < 18446744073709551616 by omega)]
    refine WL.ev (Ev.add64In rfl rfl (by omega)) rfl ?_
    refine As rfl rfl ?_
    refine WL.nil (kr33 _ _ _ (kh32 _ _ _ ?_))
    refine CW.ret ?_
    refine bodyA.ret1 rfl rfl ?_
    exact ⟨_, rfl, near_exact f1 f2 f3 rfl (by omega), by omega, hch⟩
   ·
    try simp only [qs] at hc3
    obtain ⟨c, hcc⟩ : ∃ c : Nat, (c : Int) = ex - e := ⟨(ex - e).toNat, by omega⟩
    obtain ⟨f1, f2, f3⟩ := on_cuts h0 hex (by omega) hcc
    have hd15 : decide (0 < ex - e) = true := decide_eq_true (by omega)
    have hodd : m % 2 = 1 := hok.odd h0
    refine Sq fun _ kh34 _ kr35 => ?_
    refine WL.ev (Ev.fieldAddr rfl) rfl ?_
    refine WL.ev (Ev.load rfl rfl (hb4.at_ rfl)) rfl ?_
    refine Mv rfl rfl ?_
    refine WL.ev (Ev.negIn rfl (by omega)) rfl ?_
    refine WL.call hasF48 rfl rfl (Shift_spec _ _ _ _ hv (by omega)) fun v w4 h' => ?_
    obtain ⟨hD76, hC76⟩ := h'
    rw [val_wd, show -(ex - e) = -((c : Nat) : Int) by omega, shiftN_neg _ _ (by omega)] at hD76
    rcases hD76 with ⟨_, rk, rfl, hNk⟩ | ⟨hno, _⟩
    rotate_left
    · exfalso; exact hno ⟨hl, .inr (by omega)⟩
    have hch := hch.trans hC76
    have hb3 := hb3.keep0 hC76
    have hb4 := hb4.keep0 hC76
    have hv := hv.keep0 hC76
    refine Mv rfl rfl ?_
    refine WL.ev (Ev.extract rfl rfl) rfl ?_
    refine WL.ev (Ev.extract rfl rfl) rfl ?_
    refine As rfl rfl ?_
    refine As rfl rfl ?_
    refine WL.nil (kr35 _ _ _ (kh34 _ _ _ ?_))
    refine CW.region fun kR36 kr36 => ?_
    refine Mv rfl rfl ?_
    refine WL.call hasF190 rfl rfl (Small_spec _ _ _ hNk) fun v w5 h' => ?_
    obtain ⟨rfl, rfl⟩ := h'
    rw [val_wd, if_pos (by omega), if_pos (by omega)]
    refine Mv rfl rfl ?_
    refine WL.ev (Ev.extract rfl rfl) rfl ?_
    refine WL.ev (Ev.extract rfl rfl) rfl ?_
    refine As rfl rfl ?_
    refine WL.nil (kr36 _ _ _ (kh23 _ _ _ ?_))
    refine CW.seq fun _ kh37 => ?_
    refine CW.seq fun _ kh38 => ?_
    refine CW.regionSC hmix (by kernel_rfl) fun kR39 kr39 hdr => ?_
    have hch := hch.trans hdr
    have hb3 := hb3.keep0 hdr
    have hb4 := hb4.keep0 hdr
    have hv := hv.keep0 hdr
    have hNk := hNk.keep0 hdr
    refine WS.ev (Ev.move rfl) rfl ?_
    refine WS.ev (Ev.gtr rfl rfl) rfl ?_
    refine WS.ev (Ev.move rfl) rfl ?_
    refine WS.want rfl rfl rfl (by rw [hd15]; rfl) ?_
    refine WS.ev (Ev.move rfl) rfl ?_
    refine WS.want rfl rfl rfl (by rw [hd15]; rfl) ?_
    refine WS.ev (Ev.fieldAddr rfl) rfl ?_
    refine WS.want rfl rfl rfl (by rw [hd15]; rfl) ?_
    refine WS.ev (Ev.load rfl rfl (hb4.at_ rfl)) rfl ?_
    refine WS.want rfl rfl rfl (by rw [hd15]; rfl) ?_
    refine WS.ev (Ev.move rfl) rfl ?_
    refine WS.want rfl rfl rfl (by rw [hd15]; rfl) ?_
    refine WS.ev (Ev.fieldAddr rfl) rfl ?_
    refine WS.want rfl rfl rfl (by rw [hd15]; rfl) ?_
    refine WS.ev (Ev.load rfl rfl (hb4.at_ rfl)) rfl ?_
    refine WS.want rfl rfl rfl (by rw [hd15]; rfl) ?_
    refine WS.ev (Ev.move rfl) rfl ?_
    refine WS.want rfl rfl rfl (by rw [hd15]; rfl) ?_
    first | refine WS.ev (Ev.subIn rfl rfl (by omega)) rfl ?_ | refine WS.ev (Ev.sub rfl rfl) rfl ?_
    refine WS.want rfl rfl rfl (by rw [hd15]; rfl) ?_
    refine WS.call hasF192 rfl rfl (Bit_spec _ _ _ _ hv (by omega)) ?_
    refine WS.want rfl rfl rfl (by rw [hd15]; rfl) ?_
    refine WS.ev (Ev.move rfl) rfl ?_
    refine WS.want rfl rfl rfl (by rw [hd15]; rfl) ?_
    refine WS.ev (Ev.eql rfl rfl) rfl ?_
    refine WS.want rfl rfl rfl (by rw [hd15]; rfl) ?_
    refine WS.call hasF191 rfl rfl (away_spec mode neg (m / 2 ^ c) _ _ _ (by omega)) ?_
    refine WS.ev (Ev.pickT rfl hd15 rfl) rfl ?_
    refine WS.nil (kr39 _ _ ?_)
    refine kh38 _ _ _ ?_
    refine CW.cond rfl (fun hc4 => ?_) (fun hc4 => ?_)
    ·
     try simp only [qs] at hc4
     rw [val_wd, decide_eq_true (show (0 : Int) ≤ ex - e - 1 by omega), Bool.true_and, show (ex - e - 1).toNat = c - 1 by omega, show decide (ex - e = 1) = decide (c = 1) from decide_eq_decide.2 (by omega)] at hc4
     have hAW := hc4
     refine CW.region fun kR40 kr40 => ?_
     refine Mv rfl rfl ?_
     refine WL.ev (Ev.add64In (b := 1) rfl rfl (by omega)) rfl ?_
     refine As rfl rfl ?_
     refine WL.nil (kr40 _ _ _ (kh37 _ _ _ ?_))
     refine Sq fun _ kh41 _ kr42 => ?_
     refine Mv rfl rfl ?_
     refine Mv rfl rfl ?_
     refine WL.ev (Ev.fieldAddr rfl) rfl ?_
     refine WL.ev (Ev.load rfl rfl (hb3.at_ rfl)) rfl ?_
     first | refine WL.ev (Ev.subIn rfl rfl (by omega)) rfl ?_ | refine WL.ev (Ev.sub rfl rfl) rfl ?_
     refine WL.ev (Ev.conv rfl rfl) rfl ?_
     rw [wrap_u64i, show (ex - -1074) % 18446744073709551616 = ((((ex + 1074).toNat) : Nat) : Int) by omega]
     refine WL.ev (Ev.fieldAddr rfl) rfl ?_
     refine WL.ev (Ev.load rfl rfl (hb3.at_ rfl)) rfl ?_
     refine WL.ev (Ev.subIn rfl rfl (by omega)) rfl ?_
     rw [show (53 : Int) - 1 = ((52 : Nat) : Int) by omega]
     refine WL.ev (Ev.shlU64 (b := 52) rfl rfl) rfl ?_
     rw [Nat.mod_eq_of_lt (show ((ex + 1074).toNat) * 2 ^ 52 < 18446744073709551616 by omega)]
     refine WL.ev (Ev.add64In rfl rfl (by omega)) rfl ?_
     refine As rfl rfl ?_
     refine WL.nil (kr42 _ _ _ (kh41 _ _ _ ?_))
     refine CW.ret ?_
     refine bodyA.ret1 rfl rfl ?_
     have hN := near_cut (e := e) f1 f2 f3 (neg := neg) (mode := mode) (half := m.testBit (c - 1)) (up := awayM mode neg (m / 2 ^ c) (m.testBit (c - 1)) (decide (c = 1))) (by omega) hodd rfl (by omega) rfl rfl
     rw [hAW, if_pos rfl] at hN
     exact ⟨_, rfl, by rw [show m / 2 ^ c + 1 + ((ex + 1074).toNat) * 2 ^ 52 = m / 2 ^ c + 1 + ((ex + 1074).toNat) * 4503599627370496 by omega]; exact hN, by omega, hch⟩
    ·
     try simp only [qs] at hc4
     rw [val_wd, decide_eq_true (show (0 : Int) ≤ ex - e - 1 by omega), Bool.true_and, show (ex - e - 1).toNat = c - 1 by omega, show decide (ex - e = 1) = decide (c = 1) from decide_eq_decide.2 (by omega)] at hc4
     have hAW := hc4
     refine CW.skip ?_
     refine kh37 _ _ _ ?_
     refine Sq fun _ kh43 _ kr44 => ?_
     refine Mv rfl rfl ?_
     refine Mv rfl rfl ?_
     refine WL.ev (Ev.fieldAddr rfl) rfl ?_
     refine WL.ev (Ev.load rfl rfl (hb3.at_ rfl)) rfl ?_
     first | refine WL.ev (Ev.subIn rfl rfl (by omega)) rfl ?_ | refine WL.ev (Ev.sub rfl rfl) rfl ?_
     refine WL.ev (Ev.conv rfl rfl) rfl ?_
     rw [wrap_u64i, show (ex - -1074) % 18446744073709551616 = ((((ex + 1074).toNat) : Nat) : Int) by omega]
     refine WL.ev (Ev.fieldAddr rfl) rfl ?_
     refine WL.ev (Ev.load rfl rfl (hb3.at_ rfl)) rfl ?_
     refine WL.ev (Ev.subIn rfl rfl (by omega)) rfl ?_
     rw [show (53 : Int) - 1 = ((52 : Nat) : Int) by omega]
     refine WL.ev (Ev.shlU64 (b := 52) rfl rfl) rfl ?_
     rw [Nat.mod_eq_of_lt (show ((ex + 1074).toNat) * 2 ^ 52 < 18446744073709551616 by omega)]
     refine WL.ev (Ev.add64In rfl rfl (by omega)) rfl ?_
     refine As rfl rfl ?_
     refine WL.nil (kr44 _ _ _ (kh43 _ _ _ ?_))
     refine CW.ret ?_
     refine bodyA.ret1 rfl rfl ?_
     have hN := near_cut (e := e) f1 f2 f3 (neg := neg) (mode := mode) (half := m.testBit (c - 1)) (up := awayM mode neg (m / 2 ^ c) (m.testBit (c - 1)) (decide (c = 1))) (by omega) hodd rfl (by omega) rfl rfl
     rw [hAW] at hN
     exact ⟨_, rfl, hN, by omega, hch⟩

end Go.Proofs.YtphnpchmdpjabaaGreatDoor

/- Package dyad: told, Round. No condition. -/
namespace Go.Proofs.YtphnpchmdpjabaaGreatDoor
open Go Sx Wd

theorem negF {x : Nat} (h : x < 9223372036854775808) : Op.negFloat .f64 x = x + 9223372036854775808 := by
  show x ^^^ 2 ^ 63 = _
  have e1 : x ^^^ 2 ^ 63 = x ||| 2 ^ 63 := by
    apply Nat.eq_of_testBit_eq
    intro j
    rw [Nat.testBit_xor, Nat.testBit_or, Nat.testBit_two_pow]
    by_cases hj : 63 = j
    · subst hj
      rw [Nat.testBit_lt_two_pow (show x < 2 ^ 63 from h)]
      simp
    · simp [hj]
  have := or_of_mul (x := x) (y := 1) (s := 63) h
  rw [Nat.one_mul] at this
  rw [e1, this]

set_option maxRecDepth 4000 in
theorem dtold_spec (na : Bool) (va : Value) (la : List Nat) (ea mode : Int) (w : World) (ha : NU w va la) (hg : GW w) (hea : -9223372036854775808 ≤ ea ∧ ea ≤ 9223372036854775807) : Ret Tryz.prog 158 [.agg [.bool na, va, .int .i64 ea].toArray, .int .i64 mode] w fun u w' => ((¬ (0 ≤ mode ∧ mode ≤ 4) ∧ u = .tuple [.agg [.bool false, .slice none 0 0, .int .i64 0].toArray, .int .i64 1].toArray) ∨ ((0 ≤ mode ∧ mode ≤ 4) ∧ DR w' u (formD na (val la) ea))) ∧ Chg [] w w' := by
 have hch : Chg [] w w := Chg.refl _ _
 have hoa := ha.one
 refine Ret.enter Tryz.func158 rfl rfl ?_
 simp only [args0, Nat.zero_add, Nat.reduceAdd]
 refine Sq fun _ kh1 _ kr2 => ?_
 refine WL.boxB rfl rfl rfl fun b2 wm2 hb2 hcm2 hge2 => ?_
 have hgehch2 := Nat.le_trans hch.size hge2
 have hch := hch.trans hcm2
 have ha := ha.keep0 hcm2
 refine WL.allocB (l := [.bool false, .slice none 0 0, .int .i64 0]) rfl rfl fun b4 wm4 hb4 hcm4 hge4 => ?_
 have hgehch4 := Nat.le_trans hch.size hge4
 have hch := hch.trans hcm4
 have ha := ha.keep0 hcm4
 have hneb24 : b2 ≠ b4 := by have := hb2.lt; omega
 have hb2 := hb2.keep0 hcm4
 refine As rfl rfl ?_
 refine WL.nil (kr2 _ _ _ (kh1 _ _ _ ?_))
 refine CW.seq fun _ kh3 => ?_
 refine CW.seqM 11 (decide (mode < 0 ∨ 4 < mode)) ?_ ?_
 ·
  refine CW.region fun kR4 kr4 => ?_
  refine Mv rfl rfl ?_
  refine WL.ev (Ev.lss rfl rfl) rfl ?_
  refine Mv rfl rfl ?_
  refine WL.boolCase (fun hg1 => ?_) (fun hg1 => ?_)
  ·
   try simp only [qs] at hg1
   refine WL.pass rfl rfl rfl rfl rfl ?_
   refine WL.pass rfl rfl rfl rfl rfl ?_
   refine WL.ev (Ev.pickT rfl rfl rfl) rfl ?_
   refine WL.nil (kr4 _ _ _ ?_)
   refine ⟨rfl, rfl, Subs.consB rfl ?_ ?_⟩
   ·
    first | (simp; omega) | (refine decide_eq_decide.2 ?_; omega)
   ·
    first | ((repeat (first | exact Subs.refl | refine Subs.drop1 (by rfl) ?_)); done) | ((repeat (first | exact Subs.nil | refine Subs.cons rfl ?_)); done)
  ·
   try simp only [qs] at hg1
   refine WL.want rfl rfl rfl rfl ?_
   refine Mv rfl rfl ?_
   refine WL.want rfl rfl rfl rfl ?_
   refine WL.ev (Ev.gtr rfl rfl) rfl ?_
   refine WL.ev (Ev.pickF rfl rfl rfl) rfl ?_
   refine WL.nil (kr4 _ _ _ ?_)
   refine ⟨rfl, rfl, Subs.consB rfl ?_ ?_⟩
   ·
    first | (simp; omega) | (refine decide_eq_decide.2 ?_; omega)
   ·
    first | ((repeat (first | exact Subs.refl | refine Subs.drop1 (by rfl) ?_)); done) | ((repeat (first | exact Subs.nil | refine Subs.cons rfl ?_)); done)
 ·
  refine CW.cond rfl (fun hc2 => ?_) (fun hc2 => ?_)
  ·
   try simp only [qs] at hc2
   refine Sq fun _ kh5 _ kr6 => ?_
   refine WL.ev (Ev.build (vs := _) (cs := [_, _, _]) rfl rfl) rfl ?_
   refine WL.storeB rfl rfl rfl ao hb4 (by simp) rfl fun ws57 hb4_ hcs57 => ?_
   try simp only [Sx.splice, qt] at hb4_
   have hch := hch.step hcs57 (fun y hy => .inr (by simp only [List.mem_singleton] at hy; subst hy; first | assumption | omega))
   have hb2 := hb2.keep hcs57 (by simp; omega)
   have ha := ha.keepBK hb4 hcs57 an
   have hb4 := hb4_
   refine As rfl rfl ?_
   refine WL.nil (kr6 _ _ _ (kh5 _ _ _ ?_))
   refine CW.ret ?_
   refine bodyA.retR2 rfl (RVal.cell rfl (hb4.varA rfl rfl)) (RVal.tmp rfl) ?_
   exact ⟨.inl ⟨by omega, rfl⟩, hch⟩
  ·
   try simp only [qs] at hc2
   refine CW.skip ?_
   refine kh3 _ _ _ ?_
   refine Sq fun _ kh7 _ kr8 => ?_
   refine WL.ev (Ev.fieldAddr rfl) rfl ?_
   refine WL.ev (Ev.load rfl rfl (hb2.at_ rfl)) rfl ?_
   refine WL.ev (Ev.fieldAddr rfl) rfl ?_
   refine WL.ev (Ev.load rfl rfl (hb2.at_ rfl)) rfl ?_
   refine WL.ev (Ev.fieldAddr rfl) rfl ?_
   refine WL.ev (Ev.load rfl rfl (hb2.at_ rfl)) rfl ?_
   refine WL.call hasF45 rfl rfl (form_spec _ _ _ _ _ ha (hg.keep0 hch) hea) fun v w1 h' => ?_
   obtain ⟨hD, hC19⟩ := h'
   have hch := hch.trans hC19
   have hb2 := hb2.keep0 hC19
   have hb4 := hb4.keep0 hC19
   have ha := ha.keep0 hC19
   rcases hD with ⟨r, d, hd, rfl, hNr⟩ | ⟨hd, rfl⟩
   ·
    refine WL.ev (Ev.extract rfl rfl) rfl ?_
    refine WL.ev (Ev.extract rfl rfl) rfl ?_
    refine WL.storeB rfl rfl rfl ao hb4 (by simp) rfl fun ws58 hb4_ hcs58 => ?_
    try simp only [Sx.splice, qt] at hb4_
    have hch := hch.step hcs58 (fun y hy => .inr (by simp only [List.mem_singleton] at hy; subst hy; first | assumption | omega))
    have hb2 := hb2.keep hcs58 (by simp; omega)
    have ha := ha.keepBK hb4 hcs58 an
    have hNr := hNr.keepBK hb4 hcs58 an
    have hb4 := hb4_
    refine As rfl rfl ?_
    refine WL.nil (kr8 _ _ _ (kh7 _ _ _ ?_))
    refine CW.ret ?_
    refine bodyA.retR2 rfl (RVal.cell rfl (hb4.varA rfl rfl)) (RVal.tmp rfl) ?_
    exact ⟨.inr ⟨by omega, .inl ⟨r, d, hd, rfl, hNr⟩⟩, hch⟩
   ·
    refine WL.ev (Ev.extract rfl rfl) rfl ?_
    refine WL.ev (Ev.extract rfl rfl) rfl ?_
    refine WL.storeB rfl rfl rfl ao hb4 (by simp) rfl fun ws59 hb4_ hcs59 => ?_
    try simp only [Sx.splice, qt] at hb4_
    have hch := hch.step hcs59 (fun y hy => .inr (by simp only [List.mem_singleton] at hy; subst hy; first | assumption | omega))
    have hb2 := hb2.keep hcs59 (by simp; omega)
    have ha := ha.keepBK hb4 hcs59 an
    have hb4 := hb4_
    refine As rfl rfl ?_
    refine WL.nil (kr8 _ _ _ (kh7 _ _ _ ?_))
    refine CW.ret ?_
    refine bodyA.retR2 rfl (RVal.cell rfl (hb4.varA rfl rfl)) (RVal.tmp rfl) ?_
    exact ⟨.inr ⟨by omega, .inr ⟨hd, rfl⟩⟩, hch⟩

/-- What Round answers: bits and an error. -/
def RoundR (x : Option Dy) (mode : Int) (bits : Nat) (e : Int) : Prop :=
  (¬ (0 ≤ mode ∧ mode ≤ 4) ∧ bits = 0 ∧ e = 1) ∨ ((0 ≤ mode ∧ mode ≤ 4) ∧ ((x = none ∧ bits = 0 ∧ e = 2) ∨ ∃ d r, x = some d ∧ IsNear (dyA d.m d.e) (dyB d.e) d.neg mode r ∧ r ≤ 9218868437227405312 ∧ bits = (if d.neg then r + 9223372036854775808 else r) ∧ e = 0))

set_option maxRecDepth 4000 in
theorem Round_dspec (na : Bool) (va : Value) (la : List Nat) (ea mode : Int) (w : World) (ha : NU w va la) (hg : GW w) (hea : -9223372036854775808 ≤ ea ∧ ea ≤ 9223372036854775807) : Ret Tryz.prog 118 [.agg [.bool na, va, .int .i64 ea].toArray, .int .i64 mode] w fun u w' => (∃ bits e, u = .tuple [.float .f64 bits, .int .i64 e].toArray ∧ RoundR (formD na (val la) ea) mode bits e) ∧ Chg [] w w' := by
 have hch : Chg [] w w := Chg.refl _ _
 have hoa := ha.one
 refine Ret.enter Tryz.func118 rfl rfl ?_
 simp only [args0, Nat.zero_add, Nat.reduceAdd]
 refine Sq fun _ kh1 _ kr2 => ?_
 refine WL.boxB rfl rfl rfl fun b2 wm2 hb2 hcm2 hge2 => ?_
 have hgehch2 := Nat.le_trans hch.size hge2
 have hch := hch.trans hcm2
 have ha := ha.keep0 hcm2
 refine As rfl rfl ?_
 refine As rfl rfl ?_
 refine WL.nil (kr2 _ _ _ (kh1 _ _ _ ?_))
 refine Sq fun _ kh3 _ kr4 => ?_
 refine WL.ev (Ev.loadA rfl rfl hb2 rfl) rfl ?_
 refine Mv rfl rfl ?_
 refine WL.call hasF158 rfl rfl (dtold_spec _ _ _ _ mode _ ha (hg.keep0 hch) hea) fun v w1 h' => ?_
 obtain ⟨hD, hC12⟩ := h'
 have hch := hch.trans hC12
 have hb2 := hb2.keep0 hC12
 have ha := ha.keep0 hC12
 rcases hD with ⟨hm, rfl⟩ | ⟨hm, ⟨r, d, hd, rfl, hNr⟩ | ⟨hd, rfl⟩⟩
 ·
  refine Mv rfl rfl ?_
  refine WL.ev (Ev.extract rfl rfl) rfl ?_
  refine WL.ev (Ev.extract rfl rfl) rfl ?_
  refine WL.allocB (l := [.bool false, .slice none 0 0, .int .i64 0]) rfl rfl fun b6 wm6 hb6 hcm6 hge6 => ?_
  have hgehch6 := Nat.le_trans hch.size hge6
  have hch := hch.trans hcm6
  have ha := ha.keep0 hcm6
  have hneb26 : b2 ≠ b6 := by have := hb2.lt; omega
  have hb2 := hb2.keep0 hcm6
  refine WL.storeB rfl rfl rfl ao hb6 (by simp) rfl fun ws60 hb6_ hcs60 => ?_
  try simp only [Sx.splice, qt] at hb6_
  have hch := hch.step hcs60 (fun y hy => .inr (by simp only [List.mem_singleton] at hy; subst hy; first | assumption | omega))
  have hb2 := hb2.keep hcs60 (by simp; omega)
  have ha := ha.keepBK hb6 hcs60 an
  have hb6 := hb6_
  refine As rfl rfl ?_
  refine WL.nil (kr4 _ _ _ (kh3 _ _ _ ?_))
  refine CW.seq fun _ kh5 => ?_
  refine Sq fun _ kh6 _ kr7 => ?_
  refine Mv rfl rfl ?_
  refine WL.ev (Ev.neq rfl rfl) rfl ?_
  refine WL.nil (kr7 _ _ _ (kh6 _ _ _ ?_))
  refine CW.condT rfl ?_
  refine Sq fun _ kh8 _ kr9 => ?_
  refine Mv rfl rfl ?_
  refine As rfl rfl ?_
  refine As rfl rfl ?_
  refine WL.nil (kr9 _ _ _ (kh8 _ _ _ ?_))
  refine CW.ret ?_
  refine bodyA.ret2 rfl rfl rfl ?_
  exact ⟨⟨_, _, rfl, .inl ⟨hm, rfl, rfl⟩⟩, hch⟩
 ·
  have hok := formD_ok hd
  refine Mv rfl rfl ?_
  refine WL.ev (Ev.extract rfl rfl) rfl ?_
  refine WL.ev (Ev.extract rfl rfl) rfl ?_
  refine WL.allocB (l := [.bool false, .slice none 0 0, .int .i64 0]) rfl rfl fun b6 wm6 hb6 hcm6 hge6 => ?_
  have hgehch6 := Nat.le_trans hch.size hge6
  have hch := hch.trans hcm6
  have ha := ha.keep0 hcm6
  have hNr := hNr.keep0 hcm6
  have hneb26 : b2 ≠ b6 := by have := hb2.lt; omega
  have hb2 := hb2.keep0 hcm6
  refine WL.storeB rfl rfl rfl ao hb6 (by simp) rfl fun ws61 hb6_ hcs61 => ?_
  try simp only [Sx.splice, qt] at hb6_
  have hch := hch.step hcs61 (fun y hy => .inr (by simp only [List.mem_singleton] at hy; subst hy; first | assumption | omega))
  have hb2 := hb2.keep hcs61 (by simp; omega)
  have ha := ha.keepBK hb6 hcs61 an
  have hNr := hNr.keepBK hb6 hcs61 an
  have hb6 := hb6_
  refine As rfl rfl ?_
  refine WL.nil (kr4 _ _ _ (kh3 _ _ _ ?_))
  refine CW.seq fun _ kh10 => ?_
  refine Sq fun _ kh11 _ kr12 => ?_
  refine Mv rfl rfl ?_
  refine WL.ev (Ev.neq rfl rfl) rfl ?_
  refine WL.nil (kr12 _ _ _ (kh11 _ _ _ ?_))
  refine CW.condF rfl ?_
  refine CW.skip ?_
  refine kh10 _ _ _ ?_
  refine Sq fun _ kh13 _ kr14 => ?_
  refine WL.ev (Ev.build (vs := _) (cs := [_, _, _]) rfl rfl) rfl ?_
  refine WL.ev (Ev.loadA rfl rfl hb6 rfl) rfl ?_
  refine Mv rfl rfl ?_
  refine WL.call hasF159 rfl rfl (on_spec d.neg r d.m d.e mode _ hNr hok hm) fun v w2 h' => ?_
  obtain ⟨q, rfl, hN, hq, hC21⟩ := h'
  have hch := hch.trans hC21
  have hb2 := hb2.keep0 hC21
  have hb6 := hb6.keep0 hC21
  have ha := ha.keep0 hC21
  have hNr := hNr.keep0 hC21
  refine WL.ev (Ev.ext rfl (ext53 _ _)) rfl ?_
  rw [show ((q : Nat) : Int).toNat = q by omega]
  refine As rfl rfl ?_
  refine WL.nil (kr14 _ _ _ (kh13 _ _ _ ?_))
  refine CW.seq fun _ kh15 => ?_
  refine Sq fun _ kh16 _ kr17 => ?_
  refine WL.ev (Ev.fieldAddr rfl) rfl ?_
  refine WL.ev (Ev.load rfl rfl (hb6.at_ rfl)) rfl ?_
  refine WL.nil (kr17 _ _ _ (kh16 _ _ _ ?_))
  refine CW.cond rfl (fun hc1 => ?_) (fun hc1 => ?_)
  ·
   try simp only [qs] at hc1
   have hneg := hc1
   refine CW.region fun kR18 kr18 => ?_
   refine Mv rfl rfl ?_
   refine WL.ev (Ev.fneg rfl) rfl ?_
   rw [negF (by omega)]
   refine As rfl rfl ?_
   refine WL.nil (kr18 _ _ _ (kh15 _ _ _ ?_))
   refine Sq fun _ kh19 _ kr20 => ?_
   refine Mv rfl rfl ?_
   refine As rfl rfl ?_
   refine As rfl rfl ?_
   refine WL.nil (kr20 _ _ _ (kh19 _ _ _ ?_))
   refine CW.ret ?_
   refine bodyA.ret2 rfl rfl rfl ?_
   exact ⟨⟨_, _, rfl, .inr ⟨hm, .inr ⟨d, q, hd, hN, hq, by rw [if_pos hneg], rfl⟩⟩⟩, hch⟩
  ·
   try simp only [qs] at hc1
   have hneg := hc1
   refine CW.skip ?_
   refine kh15 _ _ _ ?_
   refine Sq fun _ kh21 _ kr22 => ?_
   refine Mv rfl rfl ?_
   refine As rfl rfl ?_
   refine As rfl rfl ?_
   refine WL.nil (kr22 _ _ _ (kh21 _ _ _ ?_))
   refine CW.ret ?_
   refine bodyA.ret2 rfl rfl rfl ?_
   exact ⟨⟨_, _, rfl, .inr ⟨hm, .inr ⟨d, q, hd, hN, hq, by rw [if_neg (by rw [hneg]; decide)], rfl⟩⟩⟩, hch⟩
 ·
  refine Mv rfl rfl ?_
  refine WL.ev (Ev.extract rfl rfl) rfl ?_
  refine WL.ev (Ev.extract rfl rfl) rfl ?_
  refine WL.allocB (l := [.bool false, .slice none 0 0, .int .i64 0]) rfl rfl fun b6 wm6 hb6 hcm6 hge6 => ?_
  have hgehch6 := Nat.le_trans hch.size hge6
  have hch := hch.trans hcm6
  have ha := ha.keep0 hcm6
  have hneb26 : b2 ≠ b6 := by have := hb2.lt; omega
  have hb2 := hb2.keep0 hcm6
  refine WL.storeB rfl rfl rfl ao hb6 (by simp) rfl fun ws62 hb6_ hcs62 => ?_
  try simp only [Sx.splice, qt] at hb6_
  have hch := hch.step hcs62 (fun y hy => .inr (by simp only [List.mem_singleton] at hy; subst hy; first | assumption | omega))
  have hb2 := hb2.keep hcs62 (by simp; omega)
  have ha := ha.keepBK hb6 hcs62 an
  have hb6 := hb6_
  refine As rfl rfl ?_
  refine WL.nil (kr4 _ _ _ (kh3 _ _ _ ?_))
  refine CW.seq fun _ kh23 => ?_
  refine Sq fun _ kh24 _ kr25 => ?_
  refine Mv rfl rfl ?_
  refine WL.ev (Ev.neq rfl rfl) rfl ?_
  refine WL.nil (kr25 _ _ _ (kh24 _ _ _ ?_))
  refine CW.condT rfl ?_
  refine Sq fun _ kh26 _ kr27 => ?_
  refine Mv rfl rfl ?_
  refine As rfl rfl ?_
  refine As rfl rfl ?_
  refine WL.nil (kr27 _ _ _ (kh26 _ _ _ ?_))
  refine CW.ret ?_
  refine bodyA.ret2 rfl rfl rfl ?_
  exact ⟨⟨_, _, rfl, .inr ⟨hm, .inl ⟨hd, rfl, rfl⟩⟩⟩, hch⟩

end Go.Proofs.YtphnpchmdpjabaaGreatDoor

/- The engine, more operations. No condition. -/
namespace Go.Proofs.YtphnpchmdpjabaaGreatDoor.Sx
open Go
section
variable {P : Program} {n : Nat} {D : List Deferred} {s : Sl} {w : World} {ty : TypeId} {x y : Operand} {ops : Array Oper} {K : KK} {rest : List Oper} {pos : String} {af : Array Edge} {d : Nat}
theorem Ev.shlI {t t' : TypeId} {a b c : Int} {k' : IntKind} (hx : opnd s x = some (.int .i64 a)) (hy : opnd s y = some (.int k' b)) (hb : 0 ≤ b) (hc : IntKind.i64.wrap (a * 2 ^ (min b.toNat 64)) = c) : Ev P s (.binOp .shl t x y t') ty w (.int .i64 c) w := by
  subst hc
  exact Ev.shl (P := P) (w := w) (ty := ty) (t := t) (t' := t') hx hy hb
theorem Ev.andI {t t' : TypeId} {a b : Nat} (hx : opnd s x = some (.int .i64 (a : Int))) (hy : opnd s y = some (.int .i64 (b : Int))) (ha : a < 9223372036854775808) (hb : b < 9223372036854775808) : Ev P s (.binOp .and t x y t') ty w (.int .i64 ((a &&& b : Nat) : Int)) w := by
  have := Ev.and (P := P) (w := w) (ty := ty) (t := t) (t' := t') hx hy
  have ha' : a < 2 ^ IntKind.i64.bits := by show a < 2 ^ 64; omega
  have hb' : b < 2 ^ IntKind.i64.bits := by show b < 2 ^ 64; omega
  have e : bits2 .and .i64 (a : Int) (b : Int) = ((a &&& b : Nat) : Int) := by
    simp only [bits2, ofInt_nat, BitVec.toNat_and, BitVec.toNat_ofNat, Nat.mod_eq_of_lt ha', Nat.mod_eq_of_lt hb']
    have : a &&& b < 2 ^ 63 := Nat.and_lt_two_pow _ hb
    exact wrap_i64 (by omega)
  rwa [e] at this
/-- An element of an array that is a value. -/
theorem Ev.indexAr {t e m be : Nat} {l : List Value} {k : IntKind} {i : Nat} {v : Value} {de : TypeDesc} {ze : Value} {sz by_ : Nat} {z : Value} [hT : HasT P t (.array m e) sz by_ z] [hE : HasT P e de 1 be ze] (hx : opnd s x = some (.agg l.toArray)) (hy : opnd s y = some (.int k (i : Int))) (hi : i < m) (hd : aggD de = false) (hv : l[i]? = some v) : Ev P s (.index t x y) ty w v w := fun ρ d' pos af g hρ => by
  have e1 := hρ x _ hx
  have e2 := hρ y _ hy
  have e3 : (0 : Int) ≤ (i : Int) := by omega
  have e4 : (i : Int) < (m : Int) := by omega
  simp [execOp, e1, e2, Instr.index, asIntOf, hT.underlying, e3, e4, hE.sizeOf, part, hE.isAgg, hd, hv, hi]
/-- A field of a struct that is a value. -/
theorem Ev.field {t i ft be : Nat} {fs : Array Field} {f : Field} {l : List Value} {v ze z : Value} {sz by_ : Nat} {de : TypeDesc} [hT : HasT P t (.struct fs) sz by_ z] (hf : fs[i]? = some f) (hft : f.type = ft) [hE : HasT P ft de 1 be ze] (hd : aggD de = false) (hx : opnd s x = some (.agg l.toArray)) (hv : l[f.offset]? = some v) : Ev P s (.field t x i) ty w v w := fun ρ d' pos af g hρ => by
  have e1 := hρ x _ hx
  subst hft
  simp [execOp, e1, Instr.field, hT.underlying, hf, asAgg, part, hE.isAgg, hd, hv]
/-- An array made of its parts. -/
theorem Ev.buildA {t e m : Nat} {ee : TypeDesc} {es eb : Nat} {ze : Value} {sz by_ : Nat} {z : Value} {ps : List (Nat × Operand)} {vs : List (Nat × Value)} {cs : List Value} [hT : HasT P t (.array m e) sz by_ z] [hE : HasT P e ee es eb ze]
    (hx : opndP s ps = some vs) (hf : Instr.fill (fun i => some (i * es, es)) z.cells vs = some cs.toArray) : Ev P s (.build t ps.toArray) ty w (.agg cs.toArray) w := fun ρ d' pos af g hρ => by
  have h1 := opndP_map hρ ps vs hx
  simp [execOp, Instr.build, hT.zero, hT.underlying, hE.sizeOf, h1, hf]
/-! ### Blocks of numbers of 64 bits -/
def FB (w : World) (b : Nat) (E : TypeId) (l : List Nat) : Prop := w.heap[b]? = some (.cells (l.map f64v).toArray E (0, 0))
theorem FB.f64 {b : Nat} {E : TypeId} {l : List Nat} {j : Nat} (h : FB w b E l) (hj : j < l.length) : w.cell? ⟨b, j, none⟩ = some (.float .f64 (l.getD j 0)) := by
  rw [cell_at h]; exact map_at f64v 0 hj
theorem FB.row {b : Nat} {E : TypeId} {l : List Nat} (h : FB w b E l) : RW w (some ⟨b, 0, none⟩) (l.map f64v) := RW.of_heap h
theorem FB.keep {b : Nat} {E : TypeId} {l : List Nat} {T : List Nat} {w' : World} (h : FB w b E l) (hc : Chg T w w') (hT : b ∉ T) : FB w' b E l := hc.heap h hT
theorem FB.keep0 {b : Nat} {E : TypeId} {l : List Nat} {w' : World} (h : FB w b E l) (hc : Chg [] w w') : FB w' b E l := hc.heap h (by simp)
theorem FB.lt {b : Nat} {E : TypeId} {l : List Nat} (h : FB w b E l) : b < w.heap.size := lt_of_heap h
theorem madeF {z : Value} (hz : z.cells = #[.float .f64 0]) (n : Nat) : madeCells z.cells (n * 1) = ((List.replicate n 0).map f64v).toArray := by
  rw [hz, Nat.mul_one]
  apply Array.ext'
  simp [madeCells, List.map_replicate, f64v, Nat.mod_one, List.map_const']
theorem WL.makeF (j i : Nat) {t : TypeId} {e be : Nat} {kl kc : IntKind} {l c : Int} {sz by_ : Nat} {z : Value} [hT : HasT P t (.slice e) sz by_ z] [hE : HasT P e (.float .f64) 1 be (.float .f64 0)] (hx : opnd s x = some (.int kl l)) (hy : opnd s y = some (.int kc c))
    (hl : l = (j : Int)) (hc : c = (i : Int)) (hlc : j ≤ i) (hb : be * i ≤ 281474976710656) (h63 : i ≤ 281474976710656) (hd : Nat.blt d n = true)
    (k : ∀ b w', FB w' b e (List.replicate i 0) → Chg [] w w' → w.heap.size ≤ b → WL P ops K rest n D ((d, .slice (some ⟨b, 0, none⟩) j i) :: s) w') : WL P ops K (⟨some d, .makeSlice t x y, ty, pos, af, none⟩ :: rest) n D s w := by
  subst hl; subst hc
  refine WL.make (hT := hT) (hE := hE) hx hy (by omega) (by omega) (by rw [show (be : Int) * (i : Int) = ((be * i : Nat) : Int) by simp]; omega) (by omega) hd fun b w' hn => ?_
  have h1 := hn.at_
  rw [show (i : Int).toNat = i by omega, madeF (by rfl)] at h1
  exact k b w' h1 hn.chg hn.ge
/-- append(own, one number), where there is room. -/
theorem WL.appendF {t e be : Nat} {ze : Value} {sz by_ : Nat} {z : Value} {b m cap c2 : Nat} {l : List Nat} {v : Nat} {ad : Addr} [hT : HasT P t (.slice e) sz by_ z] [hE : HasT P e (.float .f64) 1 be ze]
    (hx : opnd s x = some (.slice (some ⟨b, 0, none⟩) m cap)) (hy : opnd s y = some (.slice (some ad) 1 c2)) (hb : FB w b e l) (hc : w.cell? ad = some (.float .f64 v)) (hroom : m + 1 ≤ cap) (hfit : m < l.length) (hd : Nat.blt d n = true)
    (k : ∀ w', FB w' b e (l.set m v) → Chg [b] w w' → WL P ops K rest n D ((d, .slice (some ⟨b, 0, none⟩) (m + 1) cap) :: s) w') : WL P ops K (⟨some d, .call ⟨.builtin .append, [x, y].toArray, #[t, t]⟩, ty, pos, af, none⟩ :: rest) n D s w := by
  obtain ⟨i, hi, hi1, hi2, hi3⟩ := hE.inf
  have hu := upd_setCell w b m (l.map f64v) e (f64v v) hb
  have hrun := run_append_room_cells (P := P) w t ty e i hT.und hi b 0 m cap ad 1 c2 [f64v v] (by simp [hi1]) (fun j u hu => by
      cases j with
      | zero => simp at hu; subst hu; simpa [Addr.add, f64v] using hc
      | succ j => simp at hu) (by simp; rfl) hroom (fun j hj => by
      have : j = 0 := by simpa using hj
      subst this
      rw [hi1, cell_at hb]; simp; omega) (fun j hj => frozen_no hb)
  have hw : w.setCells b (0 + m * i.size) [f64v v] = w.setCell ⟨b, m, none⟩ (f64v v) := by
    rw [hi1]; simp [World.setCells]
  rw [hw] at hrun
  refine WL.ev (v := .slice (some ⟨b, 0, none⟩) (m + 1) cap) (w' := w.setCell ⟨b, m, none⟩ (f64v v)) (fun ρ d' pos af g hρ => ?_) hd (k _ ?_ hu.chg)
  · have e1 := hρ x _ hx
    have e2 := hρ y _ hy
    simp [execOp, resolve, invoke, builtin, e1, e2, hrun]
  · have := hu.at_; rw [← List.map_set] at this; exact this
/-! ### An operation that reads no memory, and for which the last one does not wait -/
section
variable {P : Program} {ops : Array Oper} {Q : Exit → Act → World → Prop} {S : World → Prop} {z : Nat}
theorem anyK_firstT {i : Nat} {oi : Oper} {v : Value} (hi : ops[i]? = some oi) (hsel : Region.noSelect ops = true) (hQ : ∀ c a w, Q (.panic c) (a.put oi.dst v) w → Q (.panic c) a w) (hzi : z ≠ i) :
    ∀ (fuel : Nat) (listed : Array Bool) (a : Act) (w : World), (∀ j oj, ops[j]? = some oj → j ≠ i → listed.getD j true = false → (∀ e ∈ oj.after, Region.binds .any e = true → e.on ≠ i) → oi.apart ops oj = true) →
      i ∈ Region.ready .any ops listed → YieldsIf P ops (fun _ => True) oi v a → (listed.getD z false = false → S w) → anyK P ops Q S z fuel (listed.setIfInBounds i true) (a.put oi.dst v) w → anyK P ops Q S z (fuel + 1) listed a w := by
  have hset : ∀ (listed : Array Bool), (listed.setIfInBounds i true).getD z false = listed.getD z false := fun listed => getD_set_ne false (Ne.symm hzi)
  intro fuel
  induction fuel with
  | zero =>
    intro listed a w _ hr hy hS H
    refine ⟨fun h => (by rw [h] at hr; cases hr), fun j hj => ?_⟩
    by_cases e : j = i
    · subst e; exact hy.wpOp hi trivial ⟨fun q => hS (by rw [← hset]; exact q), H⟩
    · have := ready_mono hj e
      rw [H.1] at this; cases this
  | succ fuel ih =>
    intro listed a w hfree hr hy hS H
    refine ⟨fun h => (by rw [h] at hr; cases hr), fun j hj => ?_⟩
    by_cases e : j = i
    · subst e; exact hy.wpOp hi trivial ⟨fun q => hS (by rw [← hset]; exact q), H⟩
    · have h1 := H.2 j (ready_mono hj e)
      obtain ⟨hjun, oj, hoj, hall⟩ := mem_ready.1 hj
      have hnot : ∀ e ∈ oj.after, Region.binds .any e = true → e.on ≠ i := fun e he hb heq => by
        have h1 := hall e he hb
        have h0 := (mem_ready.1 hr).1
        rw [heq] at h1
        rcases Nat.lt_or_ge i listed.size with q | q
        · simp [q] at h0 h1; rw [h0] at h1; cases h1
        · simp [Array.getElem?_eq_none q] at h1
      have h2 := wpOp_putIf hoj (hfree j oj hoj e hjun hnot) (fun cs b => Region.noSelect_spec hsel i oi cs b hi) (fun cs b => Region.noSelect_spec hsel j oj cs b hoj) hQ hy h1
      have hcm : ((listed.setIfInBounds i true).setIfInBounds j true).getD z false = (listed.setIfInBounds j true).getD z false := by
        rw [Array.setIfInBounds_comm _ _ (Ne.symm e)]; exact hset _
      refine wpOp_mono (fun a' w' h3 => ⟨fun q => h3.2.1 (by rw [hcm]; exact q), ih (listed.setIfInBounds j true) a' w' (fun k ok hk hki hun hno => hfree k ok hk hki ?_ hno) (ready_mono hr (Ne.symm e)) h3.1 (fun q => h3.2.1 (by rw [hcm]; exact q)) ?_⟩) h2
      · by_cases hjk : j = k
        · subst hjk; exact hjun
        · rw [getD_set_ne true hjk] at hun; exact hun
      · rw [Array.setIfInBounds_comm _ _ e]
        exact h3.2.2
end
theorem WK.takeT {S : World → Prop} {z fuel : Nat} {listed : Array Bool} {op : Op} {v : Value} (i : Nat) (hi : ops[i]? = some ⟨some d, op, ty, pos, af, none⟩) (hs : Region.noSelect ops = true) (hf : Region.free .any ops listed i = true) (hr : (Region.ready .any ops listed).contains i = true) (hzi : Nat.beq z i = false)
    (hS : listed.getD z false = false → S w) (he : ∀ w, Ev P s op ty w v w) (hd : Nat.blt d n = true) (k : WK P ops K S z fuel (listed.setIfInBounds i true) n D ((d, v) :: s) w) : WK P ops K S z (fuel + 1) listed n D s w := fun a ha =>
  anyK_firstT hi hs (fun c a w h => h.elim) (fun e => by rw [e] at hzi; simp at hzi) fuel listed a w (Region.free_spec hi hf) (by simpa using hr) (.inl ⟨by simp [Region.wanted], fun w' hw' => he w' a.eval (some d) pos af none fun x u hx => ha.eval hx⟩) hS (k _ (ha.put hd v))
/-! ### A row of words of 64 bits at the head of a block -/
def TB (w : World) (b : Nat) (T : TypeId) (L : List Nat) (R : List Value) : Prop := BK w b T (L.map u64v ++ R)
section
variable {b : Nat} {T : TypeId} {L : List Nat} {R : List Value}
theorem TB.keep {U : List Nat} {w' : World} (h : TB w b T L R) (hc : Chg U w w') (hT : b ∉ U) : TB w' b T L R := hc.heap h hT
theorem TB.keep0 {w' : World} (h : TB w b T L R) (hc : Chg [] w w') : TB w' b T L R := hc.heap h (by simp)
theorem TB.lt (h : TB w b T L R) : b < w.heap.size := lt_of_heap h
theorem TB.t64 {j : Nat} (h : TB w b T L R) (hj : j < L.length) : w.cell? ⟨b, j, none⟩ = some (.int .u64 ((L.getD j 0 : Nat) : Int)) :=
  BK.at_ h (by rw [List.getElem?_append_left (by simpa using hj)]; exact map_at u64v 0 hj)
theorem TB.tail_ {j : Nat} {v : Value} (h : TB w b T L R) (hv : R[j]? = some v) : w.cell? ⟨b, L.length + j, none⟩ = some v :=
  BK.at_ h (by rw [List.getElem?_append_right (by simp), List.length_map, Nat.add_sub_cancel_left]; exact hv)
theorem TB.set_ {L : List Nat} {R : List Value} {i v : Nat} (hi : i < L.length) : (L.map u64v ++ R).set i (u64v v) = (L.set i v).map u64v ++ R := by
  rw [List.set_append_left _ _ (by simpa using hi), List.map_set]
end
theorem Ev.ixT (j : Nat) {t : TypeId} {b m e be : Nat} {k : IntKind} {i : Int} {de : TypeDesc} {ze : Value} {sz by_ : Nat} {z : Value} [hT : HasT P t (.array m e) sz by_ z] [hE : HasT P e de 1 be ze] (hx : opnd s x = some (.pointer (some ⟨b, 0, none⟩))) (hy : opnd s y = some (.int k i)) (hij : i = (j : Int)) (hm : j < m) :
    Ev P s (.indexAddr t x y) ty w (.pointer (some ⟨b, j, none⟩)) w := by
  subst hij
  have := Ev.indexAddrArr (P := P) (s := s) (w := w) (ty := ty) (t := t) (hT := hT) (hE := hE) hx hy (by omega) (by omega)
  rwa [show 0 + ((j : Int)).toNat * 1 = j by omega] at this
theorem WL.storeT {t : TypeId} {ds : TypeDesc} {by_ : Nat} {z : Value} {b i v : Nat} {L : List Nat} {R : List Value} {T : TypeId} [hT : HasT P t ds 1 by_ z] (hx : opnd s x = some (.pointer (some ⟨b, i, none⟩))) (hy : opnd s y = some (.int .u64 (v : Int)))
    (hb : TB w b T L R) (hi : i < L.length) (k : ∀ w', TB w' b T (L.set i v) R → Chg [b] w w' → WL P ops K rest n D s w') : WL P ops K (⟨none, .store t x y, ty, pos, af, none⟩ :: rest) n D s w :=
  WL.storeC (l' := (L.set i v).map u64v ++ R) hx hy rfl hb (by simp; omega) (TB.set_ hi) k
theorem WK.storeT {S : World → Prop} {z fuel : Nat} {listed : Array Bool} {T : TypeId} {L : List Nat} {R : List Value} (i : Nat) {t : TypeId} {ds : TypeDesc} {by_ : Nat} {z0 : Value} {b o v : Nat} {x y : Operand} [hT : HasT P t ds 1 by_ z0] (hi : ops[i]? = some ⟨none, .store t x y, ty, pos, af, none⟩) (hr : Region.ready .any ops listed = [i]) (hlast : (listed.setIfInBounds i true).getD z false = true)
    (hx : opnd s x = some (.pointer (some ⟨b, o, none⟩))) (hy : opnd s y = some (.int .u64 (v : Int)))
    (hb : TB w b T L R) (ho : o < L.length) (k : ∀ w', TB w' b T (L.set o v) R → Chg [b] w w' → WK P ops K S z fuel (listed.setIfInBounds i true) n D s w') : WK P ops K S z (fuel + 1) listed n D s w :=
  WK.storeC i (l' := (L.set o v).map u64v ++ R) hi hr hlast hx hy rfl hb (by simp; omega) (TB.set_ ho) k
theorem CW.regionTC {A : AQ} {id : Nat} {l : List Oper} (m : Nat) (hm : P.follows .mixedOrders = true) (hB : Region.lexTailB .any l.toArray m = true)
    (h : ∀ R : KK, (∀ D s w, A .normal D s w → R D s w) → Chg [] w w.drew → WS P l.toArray (fun D s => WL P l.toArray R (l.drop m) n D s w.drew) (l.take m) n D s w.drew) : CW P (.region id l.toArray true) A n D s w :=
  CW.regionT m hm hB fun R hR => h R hR (Chg.drew _ _)
theorem WS.boolCase {K' : List Deferred → Sl → Prop} {b : Bool} (ht : b = true → WS P ops K' rest n D ((d, .bool true) :: s) w) (hf : b = false → WS P ops K' rest n D ((d, .bool false) :: s) w) : WS P ops K' rest n D ((d, .bool b) :: s) w := by
  cases b
  · exact hf rfl
  · exact ht rfl
end
end Go.Proofs.YtphnpchmdpjabaaGreatDoor.Sx

/- Package bits: a number's parts. No condition. -/
namespace Go.Proofs.YtphnpchmdpjabaaGreatDoor
open Go Sx Wd

/-- A number's parts. -/
structure PP where
  neg : Bool
  cls : Nat
  exp : Int
  frac : Nat
def splitP (x : Nat) : PP :=
  if x / 4503599627370496 % 2048 = 2047 ∧ x % 4503599627370496 ≠ 0 then ⟨false, 4, 0, 0⟩
  else if x / 4503599627370496 % 2048 = 2047 then ⟨decide (x / 9223372036854775808 % 2 = 1), 3, 0, 0⟩
  else if 0 < x / 4503599627370496 % 2048 then ⟨decide (x / 9223372036854775808 % 2 = 1), 2, -1074 + ((x / 4503599627370496 % 2048 : Nat) : Int) - 1, x % 4503599627370496 + 4503599627370496⟩
  else if 0 < x % 4503599627370496 then ⟨decide (x / 9223372036854775808 % 2 = 1), 1, -1074, x % 4503599627370496⟩
  else ⟨decide (x / 9223372036854775808 % 2 = 1), 0, -1074, 0⟩

set_option maxRecDepth 4000 in
theorem parts_spec (x : Nat) (w : World) (hx : x < 18446744073709551616) : Ret Tryz.prog 91 [.agg [.int .i64 11, .int .i64 52, .int .i64 (-1074)].toArray, .int .u64 (x : Int)] w fun u w' => u = .agg [.bool (splitP x).neg, .int .i64 ((splitP x).cls : Int), .int .i64 (splitP x).exp, .int .u64 ((splitP x).frac : Int)].toArray ∧ Chg [] w w' := by
 have hch : Chg [] w w := Chg.refl _ _
 refine Ret.enter Tryz.func91 rfl rfl ?_
 simp only [args0, Nat.zero_add, Nat.reduceAdd]
 refine Sq fun _ kh1 _ kr2 => ?_
 refine WL.boxB rfl rfl rfl fun b2 wm2 hb2 hcm2 hge2 => ?_
 have hgehch2 := Nat.le_trans hch.size hge2
 have hch := hch.trans (Chg.any hcm2)
 refine WL.allocB (l := [.bool false, .int .i64 0, .int .i64 0, .int .u64 0]) rfl rfl fun b4 wm4 hb4 hcm4 hge4 => ?_
 have hgehch4 := Nat.le_trans hch.size hge4
 have hch := hch.trans (Chg.any hcm4)
 have hneb24 : b2 ≠ b4 := by have := hb2.lt; omega
 have hb2 := hb2.keep0 hcm4
 refine WL.nil (kr2 _ _ _ (kh1 _ _ _ ?_))
 refine Sq fun _ kh3 _ kr4 => ?_
 refine Mv rfl rfl ?_
 refine WL.ev (Ev.fieldAddr rfl) rfl ?_
 refine WL.ev (Ev.load rfl rfl (hb2.at_ rfl)) rfl ?_
 refine WL.ev (Ev.shlU64 (a := 1) (b := 52) rfl rfl) rfl ?_
 rw [show 1 * 2 ^ 52 % 18446744073709551616 = 4503599627370496 by omega]
 refine WL.ev (Ev.sub64In (b := 1) rfl rfl (by omega) (by omega)) rfl ?_
 refine WL.ev (Ev.andU rfl rfl rfl (by simp only [IntKind.bits]; omega) (by simp only [IntKind.bits]; omega)) rfl ?_
 rw [show x &&& (4503599627370496 - 1) = x % 4503599627370496 from Nat.and_two_pow_sub_one_eq_mod x 52]
 refine As rfl rfl ?_
 refine WL.nil (kr4 _ _ _ (kh3 _ _ _ ?_))
 refine CW.seq fun _ kh5 => ?_
 refine CW.regionSC hmix (by kernel_rfl) fun kR6 kr6 hdr => ?_
 have hch := hch.trans (Chg.any hdr)
 have hb2 := hb2.keep0 hdr
 have hb4 := hb4.keep0 hdr
 refine WS.ev (Ev.move rfl) rfl ?_
 refine WS.ev (Ev.fieldAddr rfl) rfl ?_
 refine WS.ev (Ev.load rfl rfl (hb2.at_ rfl)) rfl ?_
 refine WS.ev (Ev.shrU (b := 52) rfl rfl (by simp only [IntKind.bits]; omega)) rfl ?_
 rw [show x / 2 ^ 52 = x / 4503599627370496 by omega]
 refine WS.ev (Ev.convIn rfl rfl (in_i64 (by omega))) rfl ?_
 refine WS.ev (Ev.fieldAddr rfl) rfl ?_
 refine WS.ev (Ev.load rfl rfl (hb2.at_ rfl)) rfl ?_
 refine WS.ev (Ev.shlI (a := 1) (b := 11) (c := 2048) rfl rfl (by decide) (by decide)) rfl ?_
 first | refine WS.ev (Ev.subIn rfl rfl (by omega)) rfl ?_ | refine WS.ev (Ev.sub rfl rfl) rfl ?_
 refine WS.ev (Ev.andI (b := 2047) rfl rfl (by omega) (by omega)) rfl ?_
 rw [show x / 4503599627370496 &&& 2047 = x / 4503599627370496 % 2048 from Nat.and_two_pow_sub_one_eq_mod _ 11]
 refine WS.ev (Ev.assign rfl) rfl ?_
 refine WS.nil (kr6 _ _ ?_)
 refine kh5 _ _ _ ?_
 refine Sq fun _ kh7 _ kr8 => ?_
 refine Mv rfl rfl ?_
 refine WL.ev (Ev.fieldAddr rfl) rfl ?_
 refine WL.ev (Ev.load rfl rfl (hb2.at_ rfl)) rfl ?_
 refine WL.ev (Ev.fieldAddr rfl) rfl ?_
 refine WL.ev (Ev.load rfl rfl (hb2.at_ rfl)) rfl ?_
 first | refine WL.ev (Ev.addIn rfl rfl (by omega)) rfl ?_ | refine WL.ev (Ev.add rfl rfl) rfl ?_
 refine WL.ev (Ev.shrU (b := 63) rfl rfl (by simp only [IntKind.bits]; omega)) rfl ?_
 rw [show x / 2 ^ 63 = x / 9223372036854775808 by omega]
 refine WL.ev (Ev.andU (b := 1) rfl rfl rfl (by simp only [IntKind.bits]; omega) (by simp only [IntKind.bits]; omega)) rfl ?_
 rw [Nat.and_one_is_mod]
 refine WL.ev (Ev.eql rfl rfl) rfl ?_
 have hng : decide (((x / 9223372036854775808 % 2 : Nat) : Int) = 1) = decide (x / 9223372036854775808 % 2 = 1) := decide_eq_decide.2 (by omega)
 rw [hng]
 refine As rfl rfl ?_
 refine WL.nil (kr8 _ _ _ (kh7 _ _ _ ?_))
 refine CW.seq fun _ kh9 => ?_
 refine CW.block ?_
 refine CW.seqM 33 (decide (x / 4503599627370496 % 2048 = 2047 ∧ x % 4503599627370496 ≠ 0)) ?_ ?_
 ·
  refine CW.region fun kR10 kr10 => ?_
  refine Mv rfl rfl ?_
  refine WL.ev (Ev.fieldAddr rfl) rfl ?_
  refine WL.ev (Ev.load rfl rfl (hb2.at_ rfl)) rfl ?_
  refine WL.ev (Ev.shlI (a := 1) (b := 11) (c := 2048) rfl rfl (by decide) (by decide)) rfl ?_
  first | refine WL.ev (Ev.subIn rfl rfl (by omega)) rfl ?_ | refine WL.ev (Ev.sub rfl rfl) rfl ?_
  refine WL.ev (Ev.eql rfl rfl) rfl ?_
  refine Mv rfl rfl ?_
  refine WL.boolCase (fun hg1 => ?_) (fun hg1 => ?_)
  ·
   try simp only [qs] at hg1
   refine WL.want rfl rfl rfl rfl ?_
   refine Mv rfl rfl ?_
   refine WL.want rfl rfl rfl rfl ?_
   refine WL.ev (Ev.neq rfl rfl) rfl ?_
   refine WL.ev (Ev.pickT rfl rfl rfl) rfl ?_
   refine As rfl rfl ?_
   refine WL.nil (kr10 _ _ _ ?_)
   refine ⟨rfl, rfl, Subs.consB rfl ?_ ?_⟩
   ·
    first | (simp; omega) | (refine decide_eq_decide.2 ?_; omega)
   ·
    first | ((repeat (first | exact Subs.refl | refine Subs.drop1 (by rfl) ?_)); done) | ((repeat (first | exact Subs.nil | refine Subs.cons rfl ?_)); done)
  ·
   try simp only [qs] at hg1
   refine WL.pass rfl rfl rfl rfl rfl ?_
   refine WL.pass rfl rfl rfl rfl rfl ?_
   refine WL.ev (Ev.pickF rfl rfl rfl) rfl ?_
   refine As rfl rfl ?_
   refine WL.nil (kr10 _ _ _ ?_)
   refine ⟨rfl, rfl, Subs.consB rfl ?_ ?_⟩
   ·
    first | (simp; omega) | (refine decide_eq_decide.2 ?_; omega)
   ·
    first | ((repeat (first | exact Subs.refl | refine Subs.drop1 (by rfl) ?_)); done) | ((repeat (first | exact Subs.nil | refine Subs.cons rfl ?_)); done)
 ·
  refine CW.cond rfl (fun hc2 => ?_) (fun hc2 => ?_)
  ·
   try simp only [qs] at hc2
   refine Sq fun _ kh11 _ kr12 => ?_
   refine WL.ev (Ev.build (vs := _) (cs := [_, _, _, _]) rfl rfl) rfl ?_
   refine WL.storeB rfl rfl rfl ao hb4 (by simp) rfl fun ws1 hb4_ hcs1 => ?_
   try simp only [Sx.splice, qt] at hb4_
   have hch := hch.s1 hcs1
   have hb2 := hb2.keep hcs1 (by simp; omega)
   have hb4 := hb4_
   refine WL.nil (kr12 _ _ _ (kh11 _ _ _ ?_))
   refine CW.ret ?_
   refine bodyA.retR1 rfl (RVal.cell rfl (hb4.varA rfl rfl)) ?_
   unfold splitP; rw [if_pos (by omega)]
   exact ⟨rfl, hch⟩
  ·
   try simp only [qs] at hc2
   refine Sq fun _ kh13 _ kr14 => ?_
   refine Mv rfl rfl ?_
   refine WL.ev (Ev.fieldAddr rfl) rfl ?_
   refine WL.ev (Ev.load rfl rfl (hb2.at_ rfl)) rfl ?_
   refine WL.ev (Ev.shlI (a := 1) (b := 11) (c := 2048) rfl rfl (by decide) (by decide)) rfl ?_
   first | refine WL.ev (Ev.subIn rfl rfl (by omega)) rfl ?_ | refine WL.ev (Ev.sub rfl rfl) rfl ?_
   refine WL.ev (Ev.eql rfl rfl) rfl ?_
   refine As rfl rfl ?_
   refine WL.nil (kr14 _ _ _ (kh13 _ _ _ ?_))
   refine CW.cond rfl (fun hc3 => ?_) (fun hc3 => ?_)
   ·
    try simp only [qs] at hc3
    refine Sq fun _ kh15 _ kr16 => ?_
    refine Mv rfl rfl ?_
    refine WL.ev (Ev.build (vs := _) (cs := [_, _, _, _]) rfl rfl) rfl ?_
    refine WL.storeB rfl rfl rfl ao hb4 (by simp) rfl fun ws2 hb4_ hcs2 => ?_
    try simp only [Sx.splice, qt] at hb4_
    have hch := hch.s1 hcs2
    have hb2 := hb2.keep hcs2 (by simp; omega)
    have hb4 := hb4_
    refine WL.nil (kr16 _ _ _ (kh15 _ _ _ ?_))
    refine CW.ret ?_
    refine bodyA.retR1 rfl (RVal.cell rfl (hb4.varA rfl rfl)) ?_
    unfold splitP; rw [if_neg (by omega), if_pos (by omega)]
    exact ⟨rfl, hch⟩
   ·
    try simp only [qs] at hc3
    refine Sq fun _ kh17 _ kr18 => ?_
    refine Mv rfl rfl ?_
    refine WL.ev (Ev.gtr rfl rfl) rfl ?_
    refine As rfl rfl ?_
    refine WL.nil (kr18 _ _ _ (kh17 _ _ _ ?_))
    refine CW.cond rfl (fun hc4 => ?_) (fun hc4 => ?_)
    ·
     try simp only [qs] at hc4
     refine CW.seq fun _ kh19 => ?_
     refine CW.regionKC 12 13 rfl hmix fun kR20 kr20 hS hdr => ?_
     have hch := hch.trans (Chg.any hdr)
     have hb2 := hb2.keep0 hdr
     have hb4 := hb4.keep0 hdr
     have hch_r := hch
     have hb2_r := hb2
     have hb4_r := hb4
     refine WK.take 0 rfl (by kernel_rfl) (by kernel_rfl) (by kernel_rfl) (by kernel_rfl) (by kernel_rfl) (by kernel_rfl) hS (fun w' hw' => Ev.move rfl) rfl ?_
     refine WK.take 1 rfl (by kernel_rfl) (by kernel_rfl) (by kernel_rfl) (by kernel_rfl) (by kernel_rfl) (by kernel_rfl) hS (fun w' hw' => Ev.fieldAddr rfl) rfl ?_
     refine WK.take 2 rfl (by kernel_rfl) (by kernel_rfl) (by kernel_rfl) (by kernel_rfl) (by kernel_rfl) (by kernel_rfl) hS (fun w' hw' => Ev.load rfl rfl ((hb2_r.keep0 hw').at_ rfl)) rfl ?_
     refine WK.take 3 rfl (by kernel_rfl) (by kernel_rfl) (by kernel_rfl) (by kernel_rfl) (by kernel_rfl) (by kernel_rfl) hS (fun w' hw' => Ev.move rfl) rfl ?_
     refine WK.take 4 rfl (by kernel_rfl) (by kernel_rfl) (by kernel_rfl) (by kernel_rfl) (by kernel_rfl) (by kernel_rfl) hS (fun w' hw' => Ev.addIn rfl rfl (by omega)) rfl ?_
     refine WK.take 5 rfl (by kernel_rfl) (by kernel_rfl) (by kernel_rfl) (by kernel_rfl) (by kernel_rfl) (by kernel_rfl) hS (fun w' hw' => Ev.subIn rfl rfl (by omega)) rfl ?_
     refine WK.take 6 rfl (by kernel_rfl) (by kernel_rfl) (by kernel_rfl) (by kernel_rfl) (by kernel_rfl) (by kernel_rfl) hS (fun w' hw' => Ev.move rfl) rfl ?_
     refine WK.take 7 rfl (by kernel_rfl) (by kernel_rfl) (by kernel_rfl) (by kernel_rfl) (by kernel_rfl) (by kernel_rfl) hS (fun w' hw' => Ev.fieldAddr rfl) rfl ?_
     refine WK.take 8 rfl (by kernel_rfl) (by kernel_rfl) (by kernel_rfl) (by kernel_rfl) (by kernel_rfl) (by kernel_rfl) hS (fun w' hw' => Ev.load rfl rfl ((hb2_r.keep0 hw').at_ rfl)) rfl ?_
     refine WK.take 9 rfl (by kernel_rfl) (by kernel_rfl) (by kernel_rfl) (by kernel_rfl) (by kernel_rfl) (by kernel_rfl) hS (fun w' hw' => Ev.shlU64 (a := 1) (b := 52) rfl rfl) rfl ?_
     rw [show 1 * 2 ^ 52 % 18446744073709551616 = 4503599627370496 by omega]
     refine WK.take 10 rfl (by kernel_rfl) (by kernel_rfl) (by kernel_rfl) (by kernel_rfl) (by kernel_rfl) (by kernel_rfl) hS (fun w' hw' => Ev.orU rfl rfl rfl (by simp only [IntKind.bits]; omega) (by simp only [IntKind.bits]; omega)) rfl ?_
     rw [show x % 4503599627370496 ||| 4503599627370496 = x % 4503599627370496 + 4503599627370496 from or_of_mul (s := 52) (y := 1) (Nat.mod_lt _ (by decide))]
     refine WK.take 11 rfl (by kernel_rfl) (by kernel_rfl) (by kernel_rfl) (by kernel_rfl) (by kernel_rfl) (by kernel_rfl) hS (fun w' hw' => Ev.build (vs := _) (cs := [_, _, _, _]) rfl rfl) rfl ?_
     refine WK.storeB 12 rfl (by kernel_rfl) (by kernel_rfl) rfl rfl rfl ao hb4 (by simp) rfl fun ws3 hb4_ hcs3 => ?_
     try simp only [Sx.splice, qt] at hb4_
     have hch := hch.s1 hcs3
     have hb2 := hb2.keep hcs3 (by simp; omega)
     have hb4 := hb4_
     refine WK.done (by kernel_rfl) (kr20 _ _ _ ?_)
     refine kh19 _ _ _ ?_
     refine CW.ret ?_
     refine bodyA.retR1 rfl (RVal.cell rfl (hb4.varA rfl rfl)) ?_
     unfold splitP; rw [if_neg (by omega), if_neg (by omega), if_pos (by omega)]
     exact ⟨rfl, hch⟩
    ·
     try simp only [qs] at hc4
     refine Sq fun _ kh21 _ kr22 => ?_
     refine Mv rfl rfl ?_
     refine WL.ev (Ev.gtr rfl rfl) rfl ?_
     refine As rfl rfl ?_
     refine WL.nil (kr22 _ _ _ (kh21 _ _ _ ?_))
     refine CW.cond rfl (fun hc5 => ?_) (fun hc5 => ?_)
     ·
      try simp only [qs] at hc5
      refine Sq fun _ kh23 _ kr24 => ?_
      refine Mv rfl rfl ?_
      refine WL.ev (Ev.fieldAddr rfl) rfl ?_
      refine WL.ev (Ev.load rfl rfl (hb2.at_ rfl)) rfl ?_
      refine Mv rfl rfl ?_
      refine WL.ev (Ev.build (vs := _) (cs := [_, _, _, _]) rfl rfl) rfl ?_
      refine WL.storeB rfl rfl rfl ao hb4 (by simp) rfl fun ws4 hb4_ hcs4 => ?_
      try simp only [Sx.splice, qt] at hb4_
      have hch := hch.s1 hcs4
      have hb2 := hb2.keep hcs4 (by simp; omega)
      have hb4 := hb4_
      refine WL.nil (kr24 _ _ _ (kh23 _ _ _ ?_))
      refine CW.ret ?_
      refine bodyA.retR1 rfl (RVal.cell rfl (hb4.varA rfl rfl)) ?_
      unfold splitP; rw [if_neg (by omega), if_neg (by omega), if_neg (by omega), if_pos (by omega)]
      exact ⟨rfl, hch⟩
     ·
      try simp only [qs] at hc5
      refine CW.skip ?_
      refine kh9 _ _ _ ?_
      refine Sq fun _ kh25 _ kr26 => ?_
      refine Mv rfl rfl ?_
      refine WL.ev (Ev.fieldAddr rfl) rfl ?_
      refine WL.ev (Ev.load rfl rfl (hb2.at_ rfl)) rfl ?_
      refine WL.ev (Ev.build (vs := _) (cs := [_, _, _, _]) rfl rfl) rfl ?_
      refine WL.storeB rfl rfl rfl ao hb4 (by simp) rfl fun ws5 hb4_ hcs5 => ?_
      try simp only [Sx.splice, qt] at hb4_
      have hch := hch.s1 hcs5
      have hb2 := hb2.keep hcs5 (by simp; omega)
      have hb4 := hb4_
      refine WL.nil (kr26 _ _ _ (kh25 _ _ _ ?_))
      refine CW.ret ?_
      refine bodyA.retR1 rfl (RVal.cell rfl (hb4.varA rfl rfl)) ?_
      unfold splitP; rw [if_neg (by omega), if_neg (by omega), if_neg (by omega), if_neg (by omega)]
      exact ⟨rfl, hch⟩

end Go.Proofs.YtphnpchmdpjabaaGreatDoor
