/- Plain facts for TallyOrder: counting by index, three tallies side by side. No condition. -/
import Derived.Test.YtjlmenmlpmfokaaAwake
namespace Go.Proofs.Ytjlmenmlpmfokaa
open Go Sx Fl Ty
set_option linter.unusedVariables false
set_option linter.unusedSimpArgs false

/-- Numbers that came in. -/
def FRow (w : World) (a : Option Addr) (fs : List Nat) : Prop := ∀ i x, fs[i]? = some x → ∃ ad, a = some ad ∧ w.cell? (ad.add i) = some (.float .f64 x)
def cI (n : Nat) (P : Nat → Bool) : Nat := (List.range n).countP P
theorem cI_le (n : Nat) (P : Nat → Bool) : cI n P ≤ n := by
  have := List.countP_le_length (p := P) (l := List.range n)
  simpa [cI] using this
theorem cI_congr {n : Nat} {P Q : Nat → Bool} (h : ∀ m, m < n → P m = Q m) : cI n P = cI n Q := by
  unfold cI
  exact List.countP_congr fun m hm => by rw [h m (List.mem_range.1 hm)]
theorem cI_succ (n : Nat) (P : Nat → Bool) : cI (n + 1) P = cI n P + if P n then 1 else 0 := by
  unfold cI
  rw [List.range_succ, List.countP_append, List.countP_singleton]
theorem cI_or {n : Nat} {P Q : Nat → Bool} (h : ∀ m, m < n → ¬ (P m = true ∧ Q m = true)) : cI n (fun m => P m || Q m) = cI n P + cI n Q := by
  induction n with
  | zero => rfl
  | succ n ih =>
    rw [cI_succ, cI_succ, cI_succ, ih fun m hm => h m (by omega)]
    have := h n (by omega)
    cases hP : P n <;> cases hQ : Q n <;> simp_all <;> omega
theorem cI_false (n : Nat) : cI n (fun _ => false) = 0 := by simp [cI]
theorem cI_true (n : Nat) : cI n (fun _ => true) = n := by
  induction n with
  | zero => rfl
  | succ n ih => rw [cI_succ, ih]; rfl
theorem cI_at {n kk : Nat} (Q : Nat → Bool) (h : kk < n) : cI n (fun m => decide (m = kk) && Q m) = if Q kk then 1 else 0 := by
  induction n with
  | zero => omega
  | succ n ih =>
    rw [cI_succ]
    by_cases e : kk = n
    · subst e
      have : cI kk (fun m => decide (m = kk) && Q m) = cI kk fun _ => false := cI_congr fun m hm => by rw [decide_eq_false (by omega)]; rfl
      rw [this, cI_false]; simp
    · rw [ih (by omega), decide_eq_false (fun x => e x.symm)]; simp
theorem cI_all {l : List Nat} (p : Nat → Bool) : cI l.length (fun m => p (l.getD m 0)) = l.countP p := by
  have h : (List.range l.length).map (fun m => l.getD m 0) = l := by
    apply List.ext_getElem
    · simp
    · intro i h1 h2
      simp [List.getElem?_eq_getElem h2]
  unfold cI
  conv => rhs; rw [← h]
  rw [List.countP_map]; rfl
/-- Counts of a part of the indexes. -/
def cP (j : Bool) (l : List Nat) (P : Nat → Bool) (k : Nat) : Nat := cI l.length fun m => P m && decide (cval j (l.getD m 0) = k)
theorem cP_congr {j : Bool} {l : List Nat} {P Q : Nat → Bool} (h : ∀ m, m < l.length → P m = Q m) (k : Nat) : cP j l P k = cP j l Q k := cI_congr fun m hm => by rw [h m hm]
theorem cP_false (j : Bool) (l : List Nat) (k : Nat) : cP j l (fun _ => false) k = 0 := by
  unfold cP; simp only [Bool.false_and]; exact cI_false _
theorem cP_true (j : Bool) (l : List Nat) (k : Nat) : cP j l (fun _ => true) k = occ j l k := by
  unfold cP occ; simp only [Bool.true_and]
  exact cI_all fun x => decide (cval j x = k)
theorem cP_or {j : Bool} {l : List Nat} {P Q : Nat → Bool} (h : ∀ m, m < l.length → ¬ (P m = true ∧ Q m = true)) (k : Nat) : cP j l (fun m => P m || Q m) k = cP j l P k + cP j l Q k := by
  unfold cP
  rw [← cI_or]
  · refine cI_congr fun m hm => ?_
    show ((P m || Q m) && _) = _
    cases P m <;> cases Q m <;> cases (decide (cval j (l.getD m 0) = k)) <;> rfl
  · intro m hm hh
    simp only [Bool.and_eq_true] at hh
    exact h m hm ⟨hh.1.1, hh.2.1⟩
theorem cP_at {j : Bool} {l : List Nat} {kk x : Nat} (hx : l[kk]? = some x) (k : Nat) : cP j l (fun m => decide (m = kk)) k = if k = cval j x then 1 else 0 := by
  have hlt : kk < l.length := by
    by_cases y : kk < l.length
    · exact y
    · rw [List.getElem?_eq_none (by omega)] at hx; cases hx
  unfold cP
  rw [cI_at _ hlt]
  have : l.getD kk 0 = x := by simp [List.getD, hx]
  rw [this]
  by_cases e : k = cval j x
  · rw [if_pos e, if_pos (by simp [e])]
  · rw [if_neg e, if_neg (by simp; exact fun y => e y.symm)]
/-- The part of the share i that lies below kk. -/
def pD (s i kk : Nat) (m : Nat) : Bool := decide (m % s = i ∧ m < kk)
def pC (s i : Nat) (m : Nat) : Bool := decide (m % s < i)
theorem mod_gap {s i kk m : Nat} (h1 : kk % s = i) (h2 : m % s = i) (h3 : kk ≤ m) (h4 : m < kk + s) : m = kk := by
  have h5 := Nat.sub_mod_eq_zero_of_mod_eq (h2.trans h1.symm)
  rw [Nat.mod_eq_of_lt (by omega)] at h5
  omega
theorem pD_step {s i kk : Nat} (hs : 0 < s) (h1 : kk % s = i) (m : Nat) : pD s i (kk + s) m = (pD s i kk m || decide (m = kk)) := by
  unfold pD
  rw [Bool.eq_iff_iff]
  simp only [Bool.or_eq_true, decide_eq_true_eq]
  constructor
  · rintro ⟨a, b⟩
    by_cases c : m < kk
    · exact .inl ⟨a, c⟩
    · exact .inr (mod_gap h1 a (by omega) b)
  · rintro (⟨a, b⟩ | rfl)
    · exact ⟨a, by omega⟩
    · exact ⟨h1, by omega⟩
theorem pD_end {s i kk n m : Nat} (h : n ≤ kk) (hm : m < n) : pD s i kk m = decide (m % s = i) := by
  unfold pD
  rw [Bool.eq_iff_iff]
  simp only [decide_eq_true_eq]
  exact ⟨fun x => x.1, fun x => ⟨x, by omega⟩⟩
theorem pC_step (s i m : Nat) : pC s (i + 1) m = (pC s i m || decide (m % s = i)) := by
  unfold pC
  rw [Bool.eq_iff_iff]
  simp only [Bool.or_eq_true, decide_eq_true_eq]
  omega
theorem pD_cnt {j : Bool} {l : List Nat} {s i kk x : Nat} (hs : 0 < s) (h1 : kk % s = i) (hx : l[kk]? = some x) (k : Nat) : (if k = cval j x then cP j l (pD s i kk) k + 1 else cP j l (pD s i kk) k) = cP j l (pD s i (kk + s)) k := by
  rw [cP_congr (Q := fun m => pD s i kk m || decide (m = kk)) (fun m _ => pD_step hs h1 m), cP_or, cP_at hx]
  · split <;> rfl
  · intro m _ ⟨a, b⟩
    simp only [pD, decide_eq_true_eq] at a b
    omega
theorem pD_num {l : List Nat} {s i kk x : Nat} (hs : 0 < s) (h1 : kk % s = i) (hx : l[kk]? = some x) : cI l.length (pD s i kk) + 1 = cI l.length (pD s i (kk + s)) := by
  have hlt : kk < l.length := by
    by_cases y : kk < l.length
    · exact y
    · rw [List.getElem?_eq_none (by omega)] at hx; cases hx
  rw [cI_congr (P := pD s i (kk + s)) (Q := fun m => pD s i kk m || decide (m = kk)) (fun m _ => pD_step hs h1 m), cI_or]
  · have := cI_at (fun _ => true) hlt
    simp only [Bool.and_true, if_true] at this
    rw [this]
  · intro m _ ⟨a, b⟩
    simp only [pD, decide_eq_true_eq] at a b
    omega
theorem pC_cnt {j : Bool} {l : List Nat} {s i kk : Nat} (hn : l.length ≤ kk) (k : Nat) : cP j l (pC s i) k + cP j l (pD s i kk) k = cP j l (pC s (i + 1)) k := by
  rw [cP_congr (P := pC s (i + 1)) (Q := fun m => pC s i m || decide (m % s = i)) (fun m _ => pC_step s i m), cP_or, cP_congr (P := pD s i kk) (Q := fun m => decide (m % s = i)) fun m hm => pD_end hn hm]
  intro m _ ⟨a, b⟩
  simp only [pC, decide_eq_true_eq] at a b
  omega
theorem pC_num {l : List Nat} {s i kk : Nat} (hn : l.length ≤ kk) : cI l.length (pC s i) + cI l.length (pD s i kk) = cI l.length (pC s (i + 1)) := by
  rw [cI_congr (P := pC s (i + 1)) (Q := fun m => pC s i m || decide (m % s = i)) (fun m _ => pC_step s i m), cI_or, cI_congr (P := pD s i kk) (Q := fun m => decide (m % s = i)) fun m hm => pD_end hn hm]
  intro m _ ⟨a, b⟩
  simp only [pC, decide_eq_true_eq] at a b
  omega
theorem pC_zero (s : Nat) : pC s 0 = fun _ => false := by funext m; unfold pC; exact decide_eq_false (by omega)
theorem pC_full {s : Nat} (hs : 0 < s) : pC s s = fun _ => true := by funext m; unfold pC; exact decide_eq_true (Nat.mod_lt _ hs)
theorem pD_zero {s i : Nat} (hi : i < s) : pD s i i = fun _ => false := by
  funext m; unfold pD
  refine decide_eq_false ?_
  rintro ⟨a, b⟩
  rw [Nat.mod_eq_of_lt (by omega)] at a
  omega
theorem occ_drop {j : Bool} {l : List Nat} {i x : Nat} (hx : l[i]? = some x) (k : Nat) : occ j (l.drop i) k = (if k = cval j x then 1 else 0) + occ j (l.drop (i + 1)) k := by
  have hlt : i < l.length := by
    by_cases y : i < l.length
    · exact y
    · rw [List.getElem?_eq_none (by omega)] at hx; cases hx
  rw [List.getElem?_eq_getElem hlt] at hx
  cases hx
  rw [List.drop_eq_getElem_cons hlt, ← occ_one, ← occ_append]; rfl
/-- Three tallies, each its own memory. -/
structure D6 (w : World) (ba ra bb rb bc rc : Nat) : Prop where
  ge : w.heap.size ≤ ba ∧ w.heap.size ≤ ra ∧ w.heap.size ≤ bb ∧ w.heap.size ≤ rb ∧ w.heap.size ≤ bc ∧ w.heap.size ≤ rc
  ab : ba ≠ bb ∧ ba ≠ rb ∧ ra ≠ bb ∧ ra ≠ rb
  ac : ba ≠ bc ∧ ba ≠ rc ∧ ra ≠ bc ∧ ra ≠ rc
  bc : bb ≠ bc ∧ bb ≠ rc ∧ rb ≠ bc ∧ rb ≠ rc
structure S3 (w : World) (ba ra bb rb bc rc : Nat) (j : Bool) (fa fb fc : Nat → Nat) (na nb nc : Nat) (wr : World) : Prop where
  a : TC wr ba ra j fa na
  b : TC wr bb rb j fb nb
  c : TC wr bc rc j fc nc
  chg : Chg [] w wr
section
variable {w wr w' : World} {ba ra bb rb bc rc : Nat} {j : Bool} {fa fb fc f' : Nat → Nat} {na nb nc n' : Nat}
theorem S3.doA (h : S3 w ba ra bb rb bc rc j fa fb fc na nb nc wr) (d : D6 w ba ra bb rb bc rc) (hc : Chg [ba, ra] wr w') (ht : TC w' ba ra j f' n') : S3 w ba ra bb rb bc rc j f' fb fc n' nb nc w' := by
  obtain ⟨g, a, b, c⟩ := d
  exact ⟨ht, h.b.keep hc (by simp; omega) (by simp; omega), h.c.keep hc (by simp; omega) (by simp; omega), h.chg.step hc fun x hx => .inr (by simp at hx; omega)⟩
theorem S3.doB (h : S3 w ba ra bb rb bc rc j fa fb fc na nb nc wr) (d : D6 w ba ra bb rb bc rc) (hc : Chg [bb, rb] wr w') (ht : TC w' bb rb j f' n') : S3 w ba ra bb rb bc rc j fa f' fc na n' nc w' := by
  obtain ⟨g, a, b, c⟩ := d
  exact ⟨h.a.keep hc (by simp; omega) (by simp; omega), ht, h.c.keep hc (by simp; omega) (by simp; omega), h.chg.step hc fun x hx => .inr (by simp at hx; omega)⟩
theorem S3.doC (h : S3 w ba ra bb rb bc rc j fa fb fc na nb nc wr) (d : D6 w ba ra bb rb bc rc) (hc : Chg [bc, rc] wr w') (ht : TC w' bc rc j f' n') : S3 w ba ra bb rb bc rc j fa fb f' na nb n' w' := by
  obtain ⟨g, a, b, c⟩ := d
  exact ⟨h.a.keep hc (by simp; omega) (by simp; omega), h.b.keep hc (by simp; omega) (by simp; omega), ht, h.chg.step hc fun x hx => .inr (by simp at hx; omega)⟩
theorem S3.idle {T : List Nat} (h : S3 w ba ra bb rb bc rc j fa fb fc na nb nc wr) (hc : Chg T wr w') (hT : ∀ x ∈ T, w.heap.size ≤ x ∧ x ≠ ba ∧ x ≠ ra ∧ x ≠ bb ∧ x ≠ rb ∧ x ≠ bc ∧ x ≠ rc) : S3 w ba ra bb rb bc rc j fa fb fc na nb nc w' :=
  ⟨h.a.keep hc (fun hm => (hT _ hm).2.1 rfl) (fun hm => (hT _ hm).2.2.1 rfl), h.b.keep hc (fun hm => (hT _ hm).2.2.2.1 rfl) (fun hm => (hT _ hm).2.2.2.2.1 rfl), h.c.keep hc (fun hm => (hT _ hm).2.2.2.2.2.1 rfl) (fun hm => (hT _ hm).2.2.2.2.2.2 rfl), h.chg.step hc fun x hx => .inr (hT x hx).1⟩
theorem S3.set (h : S3 w ba ra bb rb bc rc j fa fb fc na nb nc wr) {fa' fb' fc' : Nat → Nat} {na' nb' nc' : Nat} (h1 : ∀ k, fa k = fa' k) (h2 : ∀ k, fb k = fb' k) (h3 : ∀ k, fc k = fc' k) (e1 : na = na') (e2 : nb = nb') (e3 : nc = nc') : S3 w ba ra bb rb bc rc j fa' fb' fc' na' nb' nc' wr :=
  ⟨h.a.congr h1 e1, h.b.congr h2 e2, h.c.congr h3 e3, h.chg⟩
end
theorem canon_key {j : Bool} {K : Nat} (hK : KeyOK j K) : canon K = K := by
  unfold canon; split
  · rename_i e; have := hK.2; rw [cval_nan e] at this; exact this
  · rfl
/-- What the law calls alike. -/
theorem alike_key {j : Bool} {x K : Nat} (hx : x < 18446744073709551616) (hK : KeyOK j K) : (decide (canon x = canon K) = true ∨ (j = true ∧ decide (x % 9223372036854775808 = 0) = true ∧ decide (K % 9223372036854775808 = 0) = true)) ↔ cval j x = K := by
  have hc := canon_key hK
  have h2 := hK.2
  simp only [decide_eq_true_eq]
  rw [hc]
  unfold cval at h2 ⊢
  unfold canon at hc ⊢
  by_cases n1 : isNaN x = true
  · rw [if_pos n1, if_pos n1]
    have hz : ¬ x % 9223372036854775808 = 0 := by
      intro e; simp [isNaN] at n1; omega
    constructor
    · rintro (h | ⟨_, h, _⟩)
      · exact h
      · exact absurd h hz
    · exact fun h => .inl h
  · rw [if_neg n1, if_neg n1]
    cases j with
    | false => simp
    | true =>
      simp only [true_and]
      by_cases z : x % 9223372036854775808 = 0
      · rw [if_pos z]
        constructor
        · rintro (h | ⟨_, h⟩)
          · subst h
            rw [if_neg n1, if_pos ⟨rfl, z⟩] at h2
            exact h2
          · have n3 : ¬ isNaN K = true := by simp [isNaN]; omega
            rw [if_neg n3, if_pos ⟨rfl, h⟩] at h2
            exact h2
        · intro h; exact .inr ⟨z, by rw [← h]⟩
      · rw [if_neg z]
        constructor
        · rintro (h | ⟨h, _⟩)
          · exact h
          · exact absurd h z
        · exact fun h => .inl h
end Go.Proofs.Ytjlmenmlpmfokaa
