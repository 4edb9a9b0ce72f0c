/- Package steelyardref18: the sorted list of entries. No condition. -/
import Derived.Test.YtjlmenmlpmfokaaMerge
namespace Go.Proofs.Ytjlmenmlpmfokaa
open Go Sx Fl Ty
set_option linter.unusedVariables false
set_option linter.unusedSimpArgs false

def flatR (l : KV) : List Value := l.flatMap fun p => [.int .u64 (p.1 : Int), .int .i64 (p.2 : Int)]
theorem flatR_cons (p : Nat × Nat) (l : KV) : flatR (p :: l) = .int .u64 (p.1 : Int) :: .int .i64 (p.2 : Int) :: flatR l := rfl
theorem flatR_append (a b : KV) : flatR (a ++ b) = flatR a ++ flatR b := by simp [flatR]
theorem flatR_length (l : KV) : (flatR l).length = l.length * 2 := by
  induction l with
  | nil => rfl
  | cons p l ih => rw [flatR_cons]; simp [ih]; omega
theorem flatR_get : ∀ (l : KV) (i : Nat) (p : Nat × Nat), l[i]? = some p → (flatR l)[i * 2]? = some (.int .u64 (p.1 : Int)) ∧ (flatR l)[i * 2 + 1]? = some (.int .i64 (p.2 : Int))
  | [], i, p, h => by simp at h
  | q :: l, 0, p, h => by
    simp at h; subst h; rw [flatR_cons]; simp
  | q :: l, i + 1, p, h => by
    have := flatR_get l i p (by simpa using h)
    rw [flatR_cons, show (i + 1) * 2 = i * 2 + 1 + 1 by omega]
    simpa using this
theorem flatR_one (l : KV) : ∀ v ∈ flatR l, v.oneCell' = true := by
  intro v hv
  simp only [flatR, List.mem_flatMap, List.mem_cons, List.not_mem_nil, or_false] at hv
  obtain ⟨p, _, rfl | rfl⟩ := hv <;> rfl
/-- A tally of the document: the struct at b, its row v. -/
structure RefQ (w : World) (b : Nat) (v : Value) (j : Bool) (a : Value) (l : KV) : Prop where
  cell : w.heap[b]? = some (.cells [.bool j, v, a].toArray 70 (0, 0))
  own : w.ownsRow 0 73 2 v l.length (flatR l)
  ne : ∀ x, v.ownBlock = some x → x ≠ b
  srt : Srt l
  pos : ∀ p ∈ l, 0 < p.2
  ok : ∀ p ∈ l, KeyOK j p.1
  small : tot l ≤ 1099511627776
abbrev RefP (w : World) (b : Nat) (v : Value) (j : Bool) (l : KV) : Prop := RefQ w b v j (.int .i64 (tot l : Int)) l
theorem flatR_nil {l : KV} (h : l.length = 0) : flatR l = [] := by rw [List.length_eq_zero_iff.1 h]; rfl
theorem RefQ.len {w : World} {b : Nat} {v : Value} {j : Bool} {a : Value} {l : KV} (h : RefQ w b v j a l) : l.length ≤ 1099511627776 := by
  have := length_le_tot h.pos; have := h.small; omega
theorem RefQ.keep {w w' : World} {T : List Nat} {b : Nat} {v : Value} {j : Bool} {a : Value} {l : KV} (h : RefQ w b v j a l) (hc : Chg T w w') (hb : b ∉ T) (hv : ∀ x, v.ownBlock = some x → x ∉ T) : RefQ w' b v j a l :=
  ⟨hc.heap h.cell hb, own_keep h.own hc hv, h.ne, h.srt, h.pos, h.ok, h.small⟩
theorem place_inj {j : Bool} {a b : Nat} (ha : KeyOK j a) (hb : KeyOK j b) (h : place a = place b) : a = b := by
  have ca : canon a = a := by
    unfold canon; split
    · rename_i e; have := ha.2; rw [cval_nan e] at this; exact this
    · rfl
  have cb : canon b = b := by
    unfold canon; split
    · rename_i e; have := hb.2; rw [cval_nan e] at this; exact this
    · rfl
  have h1 := ha.1
  have h2 := hb.1
  unfold place at h
  rw [ca, cb] at h
  split at h <;> split at h <;> omega
/-- Where a key stands in a sorted list. -/
structure Sp (l A B : KV) (k : Nat) : Prop where
  eq : l = A ++ B
  lo : ∀ p ∈ A, place p.1 < place k
  hi : ∀ p ∈ B, place k ≤ place p.1
theorem Sp.head {l A B : KV} {k : Nat} (h : Sp l A B k) (hs : Srt l) (hk : k ∈ keys l) : ∃ c B', B = (k, c) :: B' := by
  obtain ⟨rfl, hlo, hhi⟩ := h
  rw [keys_append, List.mem_append] at hk
  rcases hk with hk | hk
  · obtain ⟨p, hp, rfl⟩ := List.mem_map.1 hk
    have := hlo p hp; omega
  · cases B with
    | nil => cases hk
    | cons q B' =>
      by_cases hq : q.1 = k
      · exact ⟨q.2, B', by rw [← hq]⟩
      · exfalso
        simp only [keys, List.map_cons, List.mem_cons] at hk
        rcases hk with hk | hk
        · exact hq hk.symm
        · obtain ⟨p, hp, hpk⟩ := List.mem_map.1 hk
          have h1 := (List.pairwise_cons.1 (List.pairwise_append.1 hs).2.1).1 p hp
          have h2 := hhi q (by simp)
          have h3 : p.1 = k := hpk
          rw [h3] at h1; omega
theorem srt_app {A B : KV} : Srt (A ++ B) ↔ Srt A ∧ Srt B ∧ ∀ a ∈ A, ∀ b ∈ B, place a.1 < place b.1 := List.pairwise_append
theorem srt_con {p : Nat × Nat} {B : KV} : Srt (p :: B) ↔ (∀ b ∈ B, place p.1 < place b.1) ∧ Srt B := List.pairwise_cons
theorem not_keys_lt {A : KV} {k : Nat} (h : ∀ p ∈ A, place p.1 < place k) : k ∉ keys A := fun hk => by
  obtain ⟨p, hp, rfl⟩ := List.mem_map.1 hk
  have := h p hp; omega
theorem not_keys_gt {A : KV} {k : Nat} (h : ∀ p ∈ A, place k < place p.1) : k ∉ keys A := fun hk => by
  obtain ⟨p, hp, rfl⟩ := List.mem_map.1 hk
  have := h p hp; omega
theorem sp_cnt {A B : KV} {k c : Nat} (hs : Srt (A ++ (k, c) :: B)) (k' : Nat) : cnt (A ++ (k, c) :: B) k' = if k' = k then c else cnt (A ++ B) k' := by
  have h := srt_app.1 hs
  have hA := not_keys_lt fun p hp => h.2.2 p hp (k, c) (by simp)
  rw [cnt_append, cnt_append, cnt_cons]
  by_cases e : k' = k
  · subst e; rw [if_neg hA, if_pos rfl, if_pos rfl]
  · rw [if_neg e]
    split
    · rfl
    · rw [if_neg (fun x => e x.symm)]
theorem sp_gone {A B : KV} {k c : Nat} (hs : Srt (A ++ (k, c) :: B)) : Srt (A ++ B) ∧ cnt (A ++ B) k = 0 ∧ k ∉ keys (A ++ B) := by
  have h := srt_app.1 hs
  have h2 := srt_con.1 h.2.1
  have hA := not_keys_lt fun p hp => h.2.2 p hp (k, c) (by simp)
  have hB := not_keys_gt h2.1
  have hk : k ∉ keys (A ++ B) := by rw [keys_append, List.mem_append]; rintro (x | x); exact hA x; exact hB x
  exact ⟨srt_app.2 ⟨h.1, h2.2, fun a ha b hb => h.2.2 a ha b (List.mem_cons_of_mem _ hb)⟩, cnt_none hk, hk⟩
theorem sp_put {A B : KV} {k : Nat} (c : Nat) (hs : Srt (A ++ B)) (h1 : ∀ p ∈ A, place p.1 < place k) (h2 : ∀ p ∈ B, place k < place p.1) : Srt (A ++ (k, c) :: B) := by
  have h := srt_app.1 hs
  refine srt_app.2 ⟨h.1, srt_con.2 ⟨h2, h.2.1⟩, fun a ha b hb => ?_⟩
  rcases List.mem_cons.1 hb with rfl | hb
  · exact h1 a ha
  · exact h.2.2 a ha b hb

theorem steelyardref18_New_spec (j : Bool) (w : World) : Ret Try.prog 22 [.bool j] w fun v w' => ∃ b, v = .pointer (some ⟨b, 0, none⟩) ∧ w.heap.size ≤ b ∧ Chg [] w w' ∧ RefP w' b (.slice none 0 0) j [] := by
  refine Ret.enter Try.func22 rfl rfl ?_
  refine CW.seq fun kK1 kh1 => ?_
  refine CW.region fun kR2 kr2 => ?_  -- region 0
  refine WL.ev (Ev.assign rfl) rfl ?_
  refine WL.nil (kr2 _ _ _ ?_)
  refine kh1 _ _ _ ?_
  refine CW.seq fun kK3 kh3 => ?_
  refine CW.region fun kR4 kr4 => ?_  -- region 1
  refine WL.ev (Ev.move rfl) rfl ?_
  refine WL.ev (Ev.build (cs := [.bool j, .slice none 0 0, .int .i64 0]) rfl rfl) rfl ?_
  refine WL.box rfl rfl rfl fun b w1 n1 => ?_
  refine WL.ev (Ev.assign rfl) rfl ?_
  refine WL.nil (kr4 _ _ _ ?_)
  refine kh3 _ _ _ ?_
  refine CW.ret ?_
  refine bodyA.ret1 rfl rfl ?_
  exact ⟨b, rfl, n1.ge, n1.chg, n1.at_, ⟨rfl, .inl ⟨rfl, rfl⟩⟩, (fun x hx => by cases hx), List.Pairwise.nil, (fun p hp => by cases hp), (fun p hp => by cases hp), by decide⟩

theorem ref18_All_spec (b : Nat) (v : Value) (j : Bool) (l : KV) (w : World) (h : RefP w b v j l) : Ret Try.prog 30 [.pointer (some ⟨b, 0, none⟩)] w fun u w' => u = .int .i64 (tot l : Int) ∧ w = w' := by
  have c0 : w.cell? ⟨b, 0, none⟩ = some (.bool j) := by rw [cell_at h.cell]; rfl
  have c1 : w.cell? ⟨b, 1, none⟩ = some v := by rw [cell_at h.cell]; rfl
  have c2 : w.cell? ⟨b, 2, none⟩ = some (.int .i64 (tot l : Int)) := by rw [cell_at h.cell]; rfl
  have hlen := h.len
  have hs := h.small
  refine Ret.enter Try.func30 rfl rfl ?_
  refine CW.seq fun kK1 kh1 => ?_
  refine CW.region fun kR2 kr2 => ?_  -- region 0
  refine WL.ev (Ev.assign rfl) rfl ?_
  refine WL.nil (kr2 _ _ _ ?_)
  refine kh1 _ _ _ ?_
  refine CW.seq fun kK3 kh3 => ?_
  refine CW.region fun kR4 kr4 => ?_  -- region 1
  refine WL.ev (Ev.move rfl) rfl ?_
  refine WL.ev (Ev.nilPtr rfl) rfl ?_
  refine WL.ev (Ev.fieldAddr rfl) rfl ?_
  refine WL.ev (Ev.load rfl rfl (c2)) rfl ?_
  refine WL.ev (Ev.assign rfl) rfl ?_
  refine WL.nil (kr4 _ _ _ ?_)
  refine kh3 _ _ _ ?_
  refine CW.ret ?_
  refine bodyA.ret1 rfl rfl ?_
  exact ⟨rfl, rfl⟩

theorem ref18_Unlike_spec (b : Nat) (v : Value) (j : Bool) (l : KV) (w : World) (h : RefP w b v j l) : Ret Try.prog 31 [.pointer (some ⟨b, 0, none⟩)] w fun u w' => u = .int .i64 (l.length : Int) ∧ w = w' := by
  have c0 : w.cell? ⟨b, 0, none⟩ = some (.bool j) := by rw [cell_at h.cell]; rfl
  have c1 : w.cell? ⟨b, 1, none⟩ = some v := by rw [cell_at h.cell]; rfl
  have c2 : w.cell? ⟨b, 2, none⟩ = some (.int .i64 (tot l : Int)) := by rw [cell_at h.cell]; rfl
  have hlen := h.len
  have hs := h.small
  obtain ⟨a, cap, rfl⟩ := own_form h.own
  refine Ret.enter Try.func31 rfl rfl ?_
  refine CW.seq fun kK1 kh1 => ?_
  refine CW.region fun kR2 kr2 => ?_  -- region 0
  refine WL.ev (Ev.assign rfl) rfl ?_
  refine WL.nil (kr2 _ _ _ ?_)
  refine kh1 _ _ _ ?_
  refine CW.seq fun kK3 kh3 => ?_
  refine CW.region fun kR4 kr4 => ?_  -- region 1
  refine WL.ev (Ev.move rfl) rfl ?_
  refine WL.ev (Ev.nilPtr rfl) rfl ?_
  refine WL.ev (Ev.fieldAddr rfl) rfl ?_
  refine WL.ev (Ev.load rfl rfl (c1)) rfl ?_
  refine WL.ev (Ev.len rfl) rfl ?_
  refine WL.ev (Ev.assign rfl) rfl ?_
  refine WL.nil (kr4 _ _ _ ?_)
  refine kh3 _ _ _ ?_
  refine CW.ret ?_
  refine bodyA.ret1 rfl rfl ?_
  exact ⟨rfl, rfl⟩

theorem cval_false (x : Nat) : cval false x = canon x := by unfold cval canon; split <;> simp
theorem cval_true (x : Nat) (hx : x < 18446744073709551616) : cval true x = if canon x = 9223372036854775808 then 0 else canon x := by
  unfold cval canon
  by_cases h : isNaN x = true
  · rw [if_pos h, if_pos h, if_neg (by decide)]
  · rw [if_neg h, if_neg h]
    by_cases h2 : x % 9223372036854775808 = 0
    · rw [if_pos ⟨rfl, h2⟩]
      split
      · rfl
      · omega
    · rw [if_neg (fun e => h2 e.2), if_neg (by omega)]

theorem ref18_value_spec (b x : Nat) (hx : x < 18446744073709551616) (j : Bool) (w : World) (c0 : w.cell? ⟨b, 0, none⟩ = some (.bool j)) : Ret Try.prog 41 [.pointer (some ⟨b, 0, none⟩), .float .f64 x] w fun u w' => u = .int .u64 (cval j x : Nat) ∧ w = w' := by
  refine Ret.enter Try.func41 rfl rfl ?_
  refine CW.seq fun kK1 kh1 => ?_
  refine CW.region fun kR2 kr2 => ?_  -- region 0
  refine WL.ev (Ev.assign rfl) rfl ?_
  refine WL.nil (kr2 _ _ _ ?_)
  refine kh1 _ _ _ ?_
  refine CW.seq fun kK3 kh3 => ?_
  refine CW.region fun kR4 kr4 => ?_  -- region 1
  refine WL.ev (Ev.move rfl) rfl ?_
  refine WL.call hasF39 rfl rfl (steelyardref01_Bits_spec x hx _) fun v w1 h => ?_
  obtain ⟨rfl, rfl⟩ := h
  refine WL.ev (Ev.assign rfl) rfl ?_
  refine WL.nil (kr4 _ _ _ ?_)
  refine kh3 _ _ _ ?_
  refine CW.seq fun kK5 kh5 => ?_
  refine CW.seq fun kK6 kh6 => ?_
  cases j
  ·
    refine CW.region fun kR8 kr8 => ?_  -- region 2
    refine WL.ev (Ev.move rfl) rfl ?_
    refine WL.ev (Ev.nilPtr rfl) rfl ?_
    refine WL.ev (Ev.fieldAddr rfl) rfl ?_
    refine WL.ev (Ev.load rfl rfl (c0)) rfl ?_
    refine WL.ev (Ev.move rfl) rfl ?_
    refine WL.pass rfl rfl rfl rfl rfl ?_
    refine WL.pass rfl rfl rfl rfl rfl ?_
    refine WL.ev (Ev.pickF rfl rfl rfl) rfl ?_
    refine WL.nil (kr8 _ _ _ ?_)
    refine kh6 _ _ _ ?_
    refine CW.condF rfl ?_
    refine CW.skip ?_
    refine kh5 _ _ _ ?_
    refine CW.seq fun kK9 kh9 => ?_
    refine CW.region fun kR10 kr10 => ?_  -- region 4
    refine WL.ev (Ev.move rfl) rfl ?_
    refine WL.ev (Ev.assign rfl) rfl ?_
    refine WL.nil (kr10 _ _ _ ?_)
    refine kh9 _ _ _ ?_
    refine CW.ret ?_
    refine bodyA.ret1 rfl rfl ?_
    exact ⟨by rw [cval_false], rfl⟩
  ·
    refine CW.region fun kR11 kr11 => ?_  -- region 2
    refine WL.ev (Ev.move rfl) rfl ?_
    refine WL.ev (Ev.nilPtr rfl) rfl ?_
    refine WL.ev (Ev.fieldAddr rfl) rfl ?_
    refine WL.ev (Ev.load rfl rfl (c0)) rfl ?_
    refine WL.ev (Ev.move rfl) rfl ?_
    refine WL.want rfl rfl rfl rfl ?_
    refine WL.ev (Ev.move rfl) rfl ?_
    refine WL.want rfl rfl rfl rfl ?_
    refine WL.ev (Ev.eql rfl rfl) rfl ?_
    refine WL.ev (Ev.pickT rfl rfl rfl) rfl ?_
    refine WL.nil (kr11 _ _ _ ?_)
    refine kh6 _ _ _ ?_
    refine CW.cond rfl (fun hc2 => ?_) (fun hc2 => ?_)  -- if 15
    ·
      simp only [decide_eq_true_eq, decide_eq_false_iff_not, Decidable.not_not, Bool.and_eq_true, Bool.or_eq_true, Bool.not_eq_true', ne_eq, Int.not_lt, Int.not_le] at hc2
      refine CW.seq fun kK12 kh12 => ?_
      refine CW.region fun kR13 kr13 => ?_  -- region 3
      refine WL.ev (Ev.assign rfl) rfl ?_
      refine WL.nil (kr13 _ _ _ ?_)
      refine kh12 _ _ _ ?_
      refine CW.ret ?_
      refine bodyA.ret1 rfl rfl ?_
      exact ⟨by rw [cval_true x hx, if_pos (by omega)]; rfl, rfl⟩
    ·
      simp only [decide_eq_true_eq, decide_eq_false_iff_not, Decidable.not_not, Bool.and_eq_true, Bool.or_eq_true, Bool.not_eq_true', ne_eq, Int.not_lt, Int.not_le] at hc2
      refine CW.skip ?_
      refine kh5 _ _ _ ?_
      refine CW.seq fun kK14 kh14 => ?_
      refine CW.region fun kR15 kr15 => ?_  -- region 4
      refine WL.ev (Ev.move rfl) rfl ?_
      refine WL.ev (Ev.assign rfl) rfl ?_
      refine WL.nil (kr15 _ _ _ ?_)
      refine kh14 _ _ _ ?_
      refine CW.ret ?_
      refine bodyA.ret1 rfl rfl ?_
      exact ⟨by rw [cval_true x hx, if_neg (by omega)], rfl⟩

structure PInv (w : World) (l : KV) (k : Nat) (g : Nat × Nat) (wr : World) : Prop where
  eq : w = wr
  le : g.1 ≤ g.2
  len : g.2 ≤ l.length
  lo : ∀ i p, l[i]? = some p → i < g.1 → place p.1 < place k
  hi : ∀ i p, l[i]? = some p → g.2 ≤ i → place k ≤ place p.1
theorem srt_get {l : KV} (h : Srt l) {i j : Nat} {p q : Nat × Nat} (hp : l[i]? = some p) (hq : l[j]? = some q) (hij : i < j) : place p.1 < place q.1 := by
  have hi : i < l.length := by
    by_cases x : i < l.length
    · exact x
    · rw [List.getElem?_eq_none (by omega)] at hp; cases hp
  have hj : j < l.length := by
    by_cases x : j < l.length
    · exact x
    · rw [List.getElem?_eq_none (by omega)] at hq; cases hq
  have := List.pairwise_iff_getElem.1 h i j hi hj hij
  rw [List.getElem?_eq_getElem hi] at hp
  rw [List.getElem?_eq_getElem hj] at hq
  cases hp; cases hq; exact this
theorem sp_of_inv {l : KV} {k m : Nat} (hm : m ≤ l.length) (lo : ∀ i p, l[i]? = some p → i < m → place p.1 < place k) (hi : ∀ i p, l[i]? = some p → m ≤ i → place k ≤ place p.1) : Sp l (l.take m) (l.drop m) k ∧ (l.take m).length = m := by
  refine ⟨⟨(List.take_append_drop m l).symm, fun p hp => ?_, fun p hp => ?_⟩, by simp; omega⟩
  · obtain ⟨i, hi', rfl⟩ := List.mem_iff_getElem.1 hp
    simp only [List.length_take] at hi'
    exact lo i _ (by rw [List.getElem_take]; exact List.getElem?_eq_getElem _) (by omega)
  · obtain ⟨i, hi', rfl⟩ := List.mem_iff_getElem.1 hp
    simp only [List.length_drop] at hi'
    exact hi (m + i) _ (by rw [List.getElem_drop]; exact List.getElem?_eq_getElem _) (by omega)
theorem cmp_lt (a b : Int) : cmpI a b < 0 ↔ a < b := by
  unfold cmpI
  by_cases h : a < b
  · rw [if_pos h]; omega
  · rw [if_neg h]
    by_cases h2 : b < a
    · rw [if_pos h2]; omega
    · rw [if_neg h2]; omega
theorem place_end {l : KV} {j : Bool} {k m : Nat} (hs : Srt l) (hok : ∀ p ∈ l, KeyOK j p.1) (hk : KeyOK j k) (hm : m ≤ l.length) (lo : ∀ i p, l[i]? = some p → i < m → place p.1 < place k) (hi : ∀ i p, l[i]? = some p → m ≤ i → place k ≤ place p.1) :
    Sp l (l.take m) (l.drop m) k ∧ (l.take m).length = m ∧ ((∀ p, l[m]? = some p → p.1 = k → ∃ c B', l.drop m = (k, c) :: B') ∧ ((∀ p, l[m]? = some p → p.1 ≠ k) → k ∉ keys l ∧ ∀ p ∈ l.drop m, place k < place p.1)) := by
  obtain ⟨h1, h2⟩ := sp_of_inv hm lo hi
  refine ⟨h1, h2, fun p hp hpk => ?_, fun hne => ?_⟩
  · have hl : m < l.length := by
      by_cases x : m < l.length
      · exact x
      · rw [List.getElem?_eq_none (by omega)] at hp; cases hp
    rw [List.getElem?_eq_getElem hl] at hp
    cases hp
    refine ⟨l[m].2, l.drop (m + 1), ?_⟩
    rw [List.drop_eq_getElem_cons hl, ← hpk]
  · have hkk : k ∉ keys l := fun hmem => by
      obtain ⟨c, B', hB⟩ := h1.head hs hmem
      have := List.getElem?_drop (xs := l) (i := m) (j := 0)
      rw [hB] at this
      exact hne _ this.symm rfl
    refine ⟨hkk, fun p hp => ?_⟩
    have hle := h1.hi p hp
    have hpl := List.mem_of_mem_drop hp
    have hn : place k ≠ place p.1 := fun e => hkk (by have := place_inj hk (hok p hpl) e; rw [this]; exact List.mem_map_of_mem (f := (·.1)) hpl)
    omega

set_option maxRecDepth 20000 in
theorem ref18_place_spec (b : Nat) (v : Value) (j : Bool) (ac : Value) (l : KV) (k : Nat) (hk : KeyOK j k) (w : World) (h : RefQ w b v j ac l) : Ret Try.prog 43 [.pointer (some ⟨b, 0, none⟩), .int .u64 (k : Int)] w fun u w' => w.drew = w' ∧ ∃ A B, Sp l A B k ∧ ((∃ c B', B = (k, c) :: B' ∧ u = .tuple [.int .i64 (A.length : Int), .bool true].toArray) ∨ (k ∉ keys l ∧ (∀ p ∈ B, place k < place p.1) ∧ u = .tuple [.int .i64 (A.length : Int), .bool false].toArray)) := by
  have c0 : w.cell? ⟨b, 0, none⟩ = some (.bool j) := by rw [cell_at h.cell]; rfl
  have c1 : w.cell? ⟨b, 1, none⟩ = some v := by rw [cell_at h.cell]; rfl
  have hlen := h.len
  have hs := h.small
  obtain ⟨a, cap, hv⟩ := own_form h.own
  have hkb := hk.1
  subst hv
  refine Ret.enter Try.func43 rfl rfl ?_
  refine CW.seq fun kK1 kh1 => ?_
  refine CW.region fun kR2 kr2 => ?_  -- region 0
  refine WL.ev (Ev.assign rfl) rfl ?_
  refine WL.ev (Ev.assign rfl) rfl ?_
  refine WL.nil (kr2 _ _ _ ?_)
  refine kh1 _ _ _ ?_
  refine CW.seq fun kK3 kh3 => ?_
  refine CW.region fun kR4 kr4 => ?_  -- region 1
  refine WL.ev (Ev.assign rfl) rfl ?_
  refine WL.nil (kr4 _ _ _ ?_)
  refine kh3 _ _ _ ?_
  refine CW.seq fun kK5 kh5 => ?_
  refine CW.region fun kR6 kr6 => ?_  -- region 2
  refine WL.ev (Ev.move rfl) rfl ?_
  refine WL.ev (Ev.nilPtr rfl) rfl ?_
  refine WL.ev (Ev.fieldAddr rfl) rfl ?_
  refine WL.ev (Ev.load rfl rfl (c1)) rfl ?_
  refine WL.ev (Ev.len rfl) rfl ?_
  refine WL.ev (Ev.assign rfl) rfl ?_
  refine WL.nil (kr6 _ _ _ ?_)
  refine kh5 _ _ _ ?_
  refine CW.seq fun kK7 kh7 => ?_
  refine CW.block ?_
  refine CW.loop (S := fun g : Nat × Nat => [(0, .pointer (some ⟨b, 0, none⟩)), (1, .int .u64 (k : Int)), (6, .int .i64 (g.1 : Int)), (7, .int .i64 (g.2 : Int)), (4, .int .i64 0), (5, .bool false)]) (Inv := PInv w l k) (mu := fun g => g.2 - g.1) ((0, l.length)) ?_ ?_ ?_
  ·
    exact ⟨rfl, Nat.zero_le _, Nat.le_refl _, fun i p hp hi => by omega, fun i p hp hi => by rw [List.getElem?_eq_none hi] at hp; cases hp⟩
  ·
    repeat (first | exact Subs.nil | refine Subs.cons rfl ?_)
  ·
    rintro ⟨lo, hi⟩ wr hI
    have hle := hI.le
    have hln := hI.len
    have hlo := hI.lo
    have hhi := hI.hi
    obtain rfl := hI.eq
    dsimp only at hle hln hlo hhi ⊢
    refine CW.seq fun kK8 kh8 => ?_
    refine CW.seq fun kK9 kh9 => ?_
    refine CW.region fun kR10 kr10 => ?_  -- region 3
    refine WL.ev (Ev.move rfl) rfl ?_
    refine WL.ev (Ev.move rfl) rfl ?_
    refine WL.ev (Ev.lss rfl rfl) rfl ?_
    refine WL.nil (kr10 _ _ _ ?_)
    refine kh9 _ _ _ ?_
    refine CW.cond rfl (fun hc1 => ?_) (fun hc1 => ?_)  -- if 16
    ·
      simp only [decide_eq_true_eq, decide_eq_false_iff_not, Decidable.not_not, Bool.and_eq_true, Bool.or_eq_true, Bool.not_eq_true', ne_eq, Int.not_lt, Int.not_le] at hc1
      refine CW.skip ?_
      refine kh8 _ _ _ ?_
      refine CW.block ?_
      refine CW.seq fun kK11 kh11 => ?_
      refine CW.region fun kR12 kr12 => ?_  -- region 4
      refine WL.ev (Ev.move rfl) rfl ?_
      refine WL.ev (Ev.move rfl) rfl ?_
      first | refine WL.ev (Ev.addIn rfl rfl (by omega)) rfl ?_ | refine WL.ev (Ev.add rfl rfl) rfl ?_
      refine WL.ev (Ev.quoIn rfl rfl (by omega) (by simp only [IntKind.max, IntKind.signed, IntKind.bits]; omega) (by omega)) rfl ?_
      rw [show ((lo : Int) + (hi : Int)) / 2 = (((lo + hi) / 2 : Nat) : Int) by omega]
      refine WL.ev (Ev.assign rfl) rfl ?_
      refine WL.nil (kr12 _ _ _ ?_)
      refine kh11 _ _ _ ?_
      refine CW.seq fun kK13 kh13 => ?_
      refine CW.region fun kR14 kr14 => ?_  -- region 5
      refine WL.ev (Ev.move rfl) rfl ?_
      refine WL.ev (Ev.nilPtr rfl) rfl ?_
      refine WL.ev (Ev.fieldAddr rfl) rfl ?_
      refine WL.ev (Ev.load rfl rfl (c1)) rfl ?_
      refine WL.ev (Ev.move rfl) rfl ?_
      obtain ⟨p, hp⟩ : ∃ p, l[(lo + hi) / 2]? = some p := ⟨l[(lo + hi) / 2]'(by omega), by simp⟩
      rcases own_cases h.own with ⟨_, hl0, _⟩ | ⟨gg, cap', hvv, hcap, hgl, hcells⟩
      · exfalso; omega
      injection hvv with hv1 hv2 hv3
      subst hv1
      obtain ⟨f1, f2⟩ := flatR_get l _ p hp
      refine WL.ev (Ev.indexAddr rfl rfl (by omega) (by omega)) rfl ?_
      rw [show 0 + ((((lo + hi) / 2 : Nat) : Int)).toNat * 2 = (lo + hi) / 2 * 2 by omega]
      refine WL.ev (Ev.fieldAddr rfl) rfl ?_
      refine WL.ev (Ev.load rfl rfl (hcells _ _ f1)) rfl ?_
      refine WL.call hasF20 rfl rfl (steelyardref01_Of_spec _ _) fun v w1 h' => ?_
      obtain ⟨rfl, rfl⟩ := h'
      rw [Int.toNat_natCast]
      refine WL.ev (Ev.move rfl) rfl ?_
      refine WL.call hasF20 rfl rfl (steelyardref01_Of_spec _ _) fun v w2 h' => ?_
      obtain ⟨rfl, rfl⟩ := h'
      rw [Int.toNat_natCast]
      refine WL.call hasF16 rfl rfl (steelyardref01_Order_spec p.1 k (h.ok p (List.mem_of_getElem? hp)).1 hkb _) fun v w3 h' => ?_
      obtain ⟨rfl, rfl⟩ := h'
      refine WL.ev (Ev.lss rfl rfl) rfl ?_
      refine WL.nil (kr14 _ _ _ ?_)
      refine kh13 _ _ _ ?_
      refine CW.cond rfl (fun hc2 => ?_) (fun hc2 => ?_)  -- if 33
      ·
        simp only [decide_eq_true_eq, decide_eq_false_iff_not, Decidable.not_not, Bool.and_eq_true, Bool.or_eq_true, Bool.not_eq_true', ne_eq, Int.not_lt, Int.not_le] at hc2
        rw [cmp_lt] at hc2
        refine CW.region fun kR15 kr15 => ?_  -- region 6
        refine WL.ev (Ev.move rfl) rfl ?_
        first | refine WL.ev (Ev.addIn rfl rfl (by omega)) rfl ?_ | refine WL.ev (Ev.add rfl rfl) rfl ?_
        refine WL.ev (Ev.assign rfl) rfl ?_
        refine WL.nil (kr15 _ _ _ ?_)
        refine ⟨rfl, ((lo + hi) / 2 + 1, hi), ?_, ?_, ?_⟩
        ·
          repeat (first | exact Subs.nil | refine Subs.cons rfl ?_)
        ·
          exact ⟨rfl, by dsimp only; omega, hln, fun i q hq hii => by
            rcases Nat.lt_or_ge i ((lo + hi) / 2) with hlt | hge
            · have := srt_get h.srt hq hp hlt; omega
            · obtain rfl : i = (lo + hi) / 2 := by dsimp only at hii; omega
              rw [hp] at hq; cases hq; exact hc2, hhi⟩
        ·
          show hi - ((lo + hi) / 2 + 1) < hi - lo; omega
      ·
        simp only [decide_eq_true_eq, decide_eq_false_iff_not, Decidable.not_not, Bool.and_eq_true, Bool.or_eq_true, Bool.not_eq_true', ne_eq, Int.not_lt, Int.not_le] at hc2
        have hc3 : ¬ (cmpI (place p.1) (place k) < 0) := by omega
        rw [cmp_lt] at hc3
        refine CW.region fun kR16 kr16 => ?_  -- region 7
        refine WL.ev (Ev.move rfl) rfl ?_
        refine WL.ev (Ev.assign rfl) rfl ?_
        refine WL.nil (kr16 _ _ _ ?_)
        refine ⟨rfl, (lo, (lo + hi) / 2), ?_, ?_, ?_⟩
        ·
          repeat (first | exact Subs.nil | refine Subs.cons rfl ?_)
        ·
          exact ⟨rfl, by dsimp only; omega, by dsimp only; omega, hlo, fun i q hq hii => by
            rcases Nat.lt_or_ge ((lo + hi) / 2) i with hlt | hge
            · have := srt_get h.srt hp hq hlt; omega
            · obtain rfl : i = (lo + hi) / 2 := by dsimp only at hii; omega
              rw [hp] at hq; cases hq; omega⟩
        ·
          show (lo + hi) / 2 - lo < hi - lo; omega
    ·
      simp only [decide_eq_true_eq, decide_eq_false_iff_not, Decidable.not_not, Bool.and_eq_true, Bool.or_eq_true, Bool.not_eq_true', ne_eq, Int.not_lt, Int.not_le] at hc1
      refine CW.exit ?_  -- exit 0
      refine kh7 _ _ _ ?_
      refine CW.seq fun kK17 kh17 => ?_
      rcases Nat.lt_or_ge lo l.length with hll | hll
      ·
        have hd : decide ((lo : Int) < (l.length : Int)) = true := by simpa using hll
        refine CW.regionS hmix (by kernel_rfl) fun kR19 kr19 => ?_  -- region 8
        refine WS.ev (Ev.move rfl) rfl ?_
        refine WS.ev (Ev.move rfl) rfl ?_
        refine WS.ev (Ev.move rfl) rfl ?_
        refine WS.ev (Ev.nilPtr rfl) rfl ?_
        refine WS.ev (Ev.fieldAddr rfl) rfl ?_
        refine WS.ev (Ev.load rfl rfl (c1)) rfl ?_
        refine WS.ev (Ev.len rfl) rfl ?_
        refine WS.ev (Ev.lss rfl rfl) rfl ?_
        refine WS.ev (Ev.move rfl) rfl ?_
        refine WS.want rfl rfl rfl (by rw [hd]; rfl) ?_
        refine WS.ev (Ev.move rfl) rfl ?_
        refine WS.want rfl rfl rfl (by rw [hd]; rfl) ?_
        refine WS.ev (Ev.nilPtr rfl) rfl ?_
        refine WS.want rfl rfl rfl (by rw [hd]; rfl) ?_
        refine WS.ev (Ev.fieldAddr rfl) rfl ?_
        refine WS.want rfl rfl rfl (by rw [hd]; rfl) ?_
        refine WS.ev (Ev.load rfl rfl (c1)) rfl ?_
        refine WS.want rfl rfl rfl (by rw [hd]; rfl) ?_
        refine WS.ev (Ev.move rfl) rfl ?_
        refine WS.want rfl rfl rfl (by rw [hd]; rfl) ?_
        obtain ⟨p, hp⟩ : ∃ p, l[lo]? = some p := ⟨l[lo]'(by omega), by simp⟩
        rcases own_cases h.own with ⟨_, hl0, _⟩ | ⟨gg, cap', hvv, hcap, hgl, hcells⟩
        · exfalso; omega
        injection hvv with hv1 hv2 hv3
        subst hv1
        obtain ⟨f1, f2⟩ := flatR_get l _ p hp
        refine WS.ev (Ev.indexAddr rfl rfl (by omega) (by omega)) rfl ?_
        rw [show 0 + (((lo : Nat) : Int)).toNat * 2 = lo * 2 by omega]
        refine WS.want rfl rfl rfl (by rw [hd]; rfl) ?_
        refine WS.ev (Ev.fieldAddr rfl) rfl ?_
        refine WS.want rfl rfl rfl (by rw [hd]; rfl) ?_
        refine WS.ev (Ev.load rfl rfl (hcells _ _ f1)) rfl ?_
        refine WS.want rfl rfl rfl (by rw [hd]; rfl) ?_
        refine WS.ev (Ev.move rfl) rfl ?_
        refine WS.want rfl rfl rfl (by rw [hd]; rfl) ?_
        refine WS.ev (Ev.eql rfl rfl) rfl ?_
        refine WS.ev (Ev.pickT rfl hd rfl) rfl ?_
        refine WS.ev (Ev.assign rfl) rfl ?_
        refine WS.ev (Ev.assign rfl) rfl ?_
        refine WS.nil (kr19 _ _ ?_)
        refine kh17 _ _ _ ?_
        refine CW.ret ?_
        refine bodyA.ret2 rfl rfl rfl ?_
        obtain rfl : hi = lo := by omega
        obtain ⟨e1, e2, e3, e4⟩ := place_end h.srt h.ok hk hln hlo hhi
        refine ⟨rfl, _, _, e1, ?_⟩
        rw [e2]
        by_cases hpk : p.1 = k
        · obtain ⟨c, B', hB⟩ := e3 p hp hpk
          exact .inl ⟨c, B', hB, by rw [decide_eq_true (by omega)]⟩
        · obtain ⟨e5, e6⟩ := e4 fun q hq => by rw [hp] at hq; cases hq; exact hpk
          exact .inr ⟨e5, e6, by rw [decide_eq_false (by omega)]⟩
      ·
        have hd : decide ((lo : Int) < (l.length : Int)) = false := by simpa using hll
        refine CW.regionS hmix (by kernel_rfl) fun kR20 kr20 => ?_  -- region 8
        refine WS.ev (Ev.move rfl) rfl ?_
        refine WS.ev (Ev.move rfl) rfl ?_
        refine WS.ev (Ev.move rfl) rfl ?_
        refine WS.ev (Ev.nilPtr rfl) rfl ?_
        refine WS.ev (Ev.fieldAddr rfl) rfl ?_
        refine WS.ev (Ev.load rfl rfl (c1)) rfl ?_
        refine WS.ev (Ev.len rfl) rfl ?_
        refine WS.ev (Ev.lss rfl rfl) rfl ?_
        refine WS.ev (Ev.move rfl) rfl ?_
        refine WS.pass rfl rfl rfl (by rw [hd]; rfl) rfl ?_
        refine WS.pass rfl rfl rfl (by rw [hd]; rfl) rfl ?_
        refine WS.pass rfl rfl rfl (by rw [hd]; rfl) rfl ?_
        refine WS.pass rfl rfl rfl (by rw [hd]; rfl) rfl ?_
        refine WS.pass rfl rfl rfl (by rw [hd]; rfl) rfl ?_
        refine WS.pass rfl rfl rfl (by rw [hd]; rfl) rfl ?_
        refine WS.pass rfl rfl rfl (by rw [hd]; rfl) rfl ?_
        refine WS.pass rfl rfl rfl (by rw [hd]; rfl) rfl ?_
        refine WS.pass rfl rfl rfl (by rw [hd]; rfl) rfl ?_
        refine WS.pass rfl rfl rfl (by rw [hd]; rfl) rfl ?_
        refine WS.ev (Ev.pickF rfl hd rfl) rfl ?_
        refine WS.ev (Ev.assign rfl) rfl ?_
        refine WS.ev (Ev.assign rfl) rfl ?_
        refine WS.nil (kr20 _ _ ?_)
        refine kh17 _ _ _ ?_
        refine CW.ret ?_
        refine bodyA.ret2 rfl rfl rfl ?_
        obtain rfl : hi = lo := by omega
        obtain ⟨e1, e2, e3, e4⟩ := place_end h.srt h.ok hk hln hlo hhi
        refine ⟨rfl, _, _, e1, ?_⟩
        rw [e2]
        obtain ⟨e5, e6⟩ := e4 fun q hq => by rw [List.getElem?_eq_none (by omega)] at hq; cases hq
        exact .inr ⟨e5, e6, rfl⟩

theorem ref18_Count_spec (b x : Nat) (hx : x < 18446744073709551616) (v : Value) (j : Bool) (l : KV) (w : World) (h : RefP w b v j l) : Ret Try.prog 32 [.pointer (some ⟨b, 0, none⟩), .float .f64 x] w fun u w' => u = .int .i64 (cnt l (cval j x) : Int) ∧ w.drew = w' := by
  have c0 : w.cell? ⟨b, 0, none⟩ = some (.bool j) := by rw [cell_at h.cell]; rfl
  have c1 : w.cell? ⟨b, 1, none⟩ = some v := by rw [cell_at h.cell]; rfl
  have c2 : w.cell? ⟨b, 2, none⟩ = some (.int .i64 (tot l : Int)) := by rw [cell_at h.cell]; rfl
  have hlen := h.len
  have hs := h.small
  obtain ⟨a, cap, hv⟩ := own_form h.own
  subst hv
  refine Ret.enter Try.func32 rfl rfl ?_
  refine CW.seq fun kK1 kh1 => ?_
  refine CW.region fun kR2 kr2 => ?_  -- region 0
  refine WL.ev (Ev.assign rfl) rfl ?_
  refine WL.nil (kr2 _ _ _ ?_)
  refine kh1 _ _ _ ?_
  refine CW.seq fun kK3 kh3 => ?_
  refine CW.region fun kR4 kr4 => ?_  -- region 1
  refine WL.ev (Ev.move rfl) rfl ?_
  refine WL.ev (Ev.move rfl) rfl ?_
  refine WL.ev (Ev.move rfl) rfl ?_
  refine WL.call hasF41 rfl rfl (ref18_value_spec b x hx j _ c0) fun v w1 h' => ?_
  obtain ⟨rfl, rfl⟩ := h'
  refine WL.call hasF43 rfl rfl (ref18_place_spec b _ j _ l (cval j x) (cval_ok hx) _ h) fun v w2 h' => ?_
  obtain ⟨rfl, A, B, hsp, hf⟩ := h'
  obtain ⟨u, hu⟩ : ∃ u, v = .tuple [.int .i64 (A.length : Int), .bool u].toArray := by
    rcases hf with ⟨_, _, _, e⟩ | ⟨_, _, e⟩ <;> exact ⟨_, e⟩
  subst hu
  refine WL.ev (Ev.move rfl) rfl ?_
  refine WL.ev (Ev.extract rfl rfl) rfl ?_
  refine WL.ev (Ev.extract rfl rfl) rfl ?_
  refine WL.ev (Ev.assign rfl) rfl ?_
  refine WL.ev (Ev.assign rfl) rfl ?_
  refine WL.nil (kr4 _ _ _ ?_)
  refine kh3 _ _ _ ?_
  refine CW.seq fun kK5 kh5 => ?_
  refine CW.seq fun kK6 kh6 => ?_
  rcases hf with ⟨c, B', hB, hu⟩ | ⟨hk, _, hu⟩
  ·
    injection hu with hu
    have hu := congrArg (fun a => a.toList) hu
    simp at hu
    subst hu
    have hpA : l[A.length]? = some (cval j x, c) := by rw [hsp.eq, hB]; simp
    obtain ⟨f1, f2⟩ := flatR_get l _ _ hpA
    have hAl : A.length < l.length := by rw [hsp.eq, hB]; simp
    rcases own_cases h.own with ⟨_, hl0, _⟩ | ⟨gg, cap', hvv, hcap, hgl, hcells⟩
    · exfalso; omega
    injection hvv with hv1 hv2 hv3
    subst hv1
    refine CW.region fun kR8 kr8 => ?_  -- region 2
    refine WL.ev (Ev.move rfl) rfl ?_
    refine WL.ev (Ev.not rfl) rfl ?_
    refine WL.nil (kr8 _ _ _ ?_)
    refine kh6 _ _ _ ?_
    refine CW.condF rfl ?_
    refine CW.skip ?_
    refine kh5 _ _ _ ?_
    refine CW.seq fun kK9 kh9 => ?_
    refine CW.region fun kR10 kr10 => ?_  -- region 4
    refine WL.ev (Ev.move rfl) rfl ?_
    refine WL.ev (Ev.nilPtr rfl) rfl ?_
    refine WL.ev (Ev.fieldAddr rfl) rfl ?_
    refine WL.ev (Ev.load rfl rfl ((Chg.drew [] w).cell c1 (by simp))) rfl ?_
    refine WL.ev (Ev.move rfl) rfl ?_
    refine WL.ev (Ev.indexAddr rfl rfl (by omega) (by omega)) rfl ?_
    rw [show 0 + (((A.length : Nat) : Int)).toNat * 2 = A.length * 2 by omega]
    refine WL.ev (Ev.fieldAddr rfl) rfl ?_
    refine WL.ev (Ev.load rfl rfl ((Chg.drew [] w).cell (hcells _ _ f2) (by simp))) rfl ?_
    refine WL.ev (Ev.assign rfl) rfl ?_
    refine WL.nil (kr10 _ _ _ ?_)
    refine kh9 _ _ _ ?_
    refine CW.ret ?_
    refine bodyA.ret1 rfl rfl ?_
    have hcn := cnt_mem h.srt.keys (List.mem_of_getElem? hpA)
    exact ⟨by rw [← hcn], rfl⟩
  ·
    injection hu with hu
    have hu := congrArg (fun a => a.toList) hu
    simp at hu
    subst hu
    refine CW.region fun kR11 kr11 => ?_  -- region 2
    refine WL.ev (Ev.move rfl) rfl ?_
    refine WL.ev (Ev.not rfl) rfl ?_
    refine WL.nil (kr11 _ _ _ ?_)
    refine kh6 _ _ _ ?_
    refine CW.condT rfl ?_
    refine CW.seq fun kK12 kh12 => ?_
    refine CW.region fun kR13 kr13 => ?_  -- region 3
    refine WL.ev (Ev.assign rfl) rfl ?_
    refine WL.nil (kr13 _ _ _ ?_)
    refine kh12 _ _ _ ?_
    refine CW.ret ?_
    refine bodyA.ret1 rfl rfl ?_
    exact ⟨by rw [cnt_none hk]; rfl, rfl⟩

theorem Sx.Chg.step {T T' : List Nat} {a b c : World} (h : Chg T a b) (k : Chg T' b c) (hT : ∀ x, x ∈ T' → x ∈ T ∨ a.heap.size ≤ x) : Chg T a c := by
  refine ⟨k.os.trans h.os, k.tape.trans h.tape, k.output.trans h.output, Nat.le_trans h.size k.size, fun x hx hn => ?_⟩
  have := h.size
  rw [k.block x (by omega) (fun hm => ?_), h.block x hx hn]
  rcases hT x hm with h1 | h1
  · exact hn h1
  · omega
structure Row (w : World) (a : Option Addr) (cap m : Nat) (xs : List Value) : Prop where
  le : m ≤ cap
  nil : a = none → m = 0 ∧ cap = 0
  at_ : ∀ ad, a = some ad → ∃ g, ad = ⟨g, 0, none⟩ ∧ ∀ j x, xs[j]? = some x → w.cell? ⟨g, j, none⟩ = some x
theorem own_row {w : World} {e sz : Nat} {a : Option Addr} {m cap : Nat} {xs : List Value} (h : w.ownsRow 0 e sz (.slice a m cap) m xs) : Row w a cap m xs := by
  rcases own_cases h with ⟨hv, hm, hx⟩ | ⟨g, cp, hv, hle, _, hc⟩
  · injection hv with h1 h2 h3; subst h1; subst h3; subst hm
    exact ⟨Nat.le_refl _, fun _ => ⟨rfl, rfl⟩, fun ad h => (by cases h)⟩
  · injection hv with h1 h2 h3; subst h1; subst h3
    exact ⟨hle, fun h => (by cases h), fun ad h => (by cases h; exact ⟨g, rfl, hc⟩)⟩
theorem Row.lo {w : World} {a : Option Addr} {cap m : Nat} {ys zs : List Value} (h : Row w a cap m (ys ++ zs)) : ∀ ad, a = some ad → ∀ j u, ys[j]? = some u → w.cell? (ad.add j) = some u := by
  intro ad ha j u hu
  obtain ⟨g, rfl, hc⟩ := h.at_ ad ha
  rw [add_addr, Nat.zero_add]
  refine hc j u ?_
  have hj : j < ys.length := by
    by_cases x : j < ys.length
    · exact x
    · rw [List.getElem?_eq_none (by omega)] at hu; cases hu
  rw [List.getElem?_append_left hj]; exact hu
theorem Row.hi {w : World} {a : Option Addr} {cap m k sz : Nat} {ys zs : List Value} (h : Row w a cap m (ys ++ zs)) (hk : ys.length = k * sz) (hz : cap = k → zs = []) : ∀ ad, cutAt a k cap sz = some ad → ∀ j u, zs[j]? = some u → w.cell? (ad.add j) = some u := by
  intro ad ha j u hu
  unfold cutAt at ha
  split at ha
  · rename_i e; rw [hz e] at hu; simp at hu
  · cases a with
    | none => cases ha
    | some a0 =>
      obtain ⟨g, rfl, hc⟩ := h.at_ _ rfl
      cases ha
      show w.cell? ((Addr.add ⟨g, 0, none⟩ (k * sz)).add j) = some u
      rw [add_addr, add_addr, Nat.zero_add]
      refine hc _ u ?_
      rw [List.getElem?_append_right (by omega), show k * sz + j - ys.length = j by omega]
      exact hu
theorem Row.hinil {w : World} {a : Option Addr} {cap m k sz : Nat} {xs : List Value} (h : Row w a cap m xs) (hk : k ≤ m) : cutAt a k cap sz = none → m - k = 0 ∧ cap - k = 0 := by
  intro ha
  unfold cutAt at ha
  split at ha
  · have := h.nil ha; omega
  · cases a with
    | none => have := h.nil rfl; omega
    | some a0 => cases ha
theorem fresh_step {v v' : Value} {m s : Nat} (hl : v'.ownBlock = v.ownBlock ∨ v'.ownBlock = some s) (hv : ∀ x, v.ownBlock = some x → m ≤ x) (hs : m ≤ s) : ∀ x, v'.ownBlock = some x → m ≤ x := by
  intro x hx
  rcases hl with hl | hl
  · exact hv x (by rw [← hl]; exact hx)
  · rw [hl] at hx; cases hx; exact hs

def RefMore (w w' : World) (b : Nat) (j : Bool) (l : KV) (k : Nat) (n : Int) : Prop := Chg [b] w w' ∧ ∃ v' l', RefP w' b v' j l' ∧ (∀ k', (cnt l' k' : Int) = if k' = k then (cnt l k : Int) + n else (cnt l k' : Int)) ∧ (tot l' : Int) = (tot l : Int) + n ∧ ∀ x, v'.ownBlock = some x → w.heap.size ≤ x
theorem RefMore.drew {w w' : World} {b : Nat} {j : Bool} {l : KV} {k : Nat} {n : Int} (h : RefMore w.drew w' b j l k n) : RefMore w w' b j l k n :=
  ⟨((Chg.drew [b] w).trans h.1), h.2⟩

set_option maxRecDepth 20000 in
theorem ref18_more_spec (b : Nat) (v : Value) (j : Bool) (l : KV) (k : Nat) (hk : KeyOK j k) (n : Int) (hn : 0 < n ∨ (n = -1 ∧ 0 < cnt l k)) (hns : (tot l : Int) + n ≤ 1099511627776) (w : World) (h : RefP w b v j l) : Ret Try.prog 40 [.pointer (some ⟨b, 0, none⟩), .int .u64 (k : Int), .int .i64 n] w fun u w' => u = .tuple #[] ∧ RefMore w w' b j l k n := by
  have c0 : w.cell? ⟨b, 0, none⟩ = some (.bool j) := by rw [cell_at h.cell]; rfl
  have c1 : w.cell? ⟨b, 1, none⟩ = some v := by rw [cell_at h.cell]; rfl
  have c2 : w.cell? ⟨b, 2, none⟩ = some (.int .i64 (tot l : Int)) := by rw [cell_at h.cell]; rfl
  have hlen := h.len
  have hs := h.small
  obtain ⟨a, cap, hv⟩ := own_form h.own
  subst hv
  have hrow := own_row h.own
  have hbl := lt_of_heap h.cell
  refine Ret.enter Try.func40 rfl rfl ?_
  refine CW.seq fun kK1 kh1 => ?_
  refine CW.region fun kR2 kr2 => ?_  -- region 0
  refine WL.ev (Ev.move rfl) rfl ?_
  refine WL.ev (Ev.move rfl) rfl ?_
  refine WL.ev (Ev.nilPtr rfl) rfl ?_
  refine WL.ev (Ev.fieldAddr rfl) rfl ?_
  refine WL.ev (Ev.load rfl rfl (c2)) rfl ?_
  refine WL.ev (Ev.move rfl) rfl ?_
  first | refine WL.ev (Ev.addIn rfl rfl (by omega)) rfl ?_ | refine WL.ev (Ev.add rfl rfl) rfl ?_
  refine WL.ev (Ev.nilPtr rfl) rfl ?_
  refine WL.ev (Ev.fieldAddr rfl) rfl ?_
  refine WL.store rfl rfl rfl h.cell (by simp) fun w1 u1 => ?_
  have hsz := u1.size
  have hown : w1.ownsRow 0 73 2 (.slice a l.length cap) l.length (flatR l) := own_keep h.own u1.chg (fun x hx hm => h.ne x hx (by simpa using hm))
  have hq : RefQ w1 b (.slice a l.length cap) j (.int .i64 ((tot l : Int) + n)) l := ⟨u1.at_, hown, h.ne, h.srt, h.pos, h.ok, h.small⟩
  have d1 : w1.cell? ⟨b, 1, none⟩ = some (.slice a l.length cap) := by rw [cell_at u1.at_]; rfl
  have D2 : Chg [] w1 w1.drew := Chg.drew _ _
  refine WL.nil (kr2 _ _ _ ?_)
  refine kh1 _ _ _ ?_
  refine CW.seq fun kK3 kh3 => ?_
  refine CW.region fun kR4 kr4 => ?_  -- region 1
  refine WL.ev (Ev.move rfl) rfl ?_
  refine WL.ev (Ev.move rfl) rfl ?_
  refine WL.call hasF43 rfl rfl (ref18_place_spec b _ j _ l k hk _ hq) fun v w1 h' => ?_
  obtain ⟨rfl, A, B, hsp, hf⟩ := h'
  obtain ⟨u, hu⟩ : ∃ u, v = .tuple [.int .i64 (A.length : Int), .bool u].toArray := by
    rcases hf with ⟨_, _, _, e⟩ | ⟨_, _, e⟩ <;> exact ⟨_, e⟩
  subst hu
  refine WL.ev (Ev.move rfl) rfl ?_
  refine WL.ev (Ev.extract rfl rfl) rfl ?_
  refine WL.ev (Ev.extract rfl rfl) rfl ?_
  refine WL.ev (Ev.assign rfl) rfl ?_
  refine WL.ev (Ev.assign rfl) rfl ?_
  refine WL.nil (kr4 _ _ _ ?_)
  refine kh3 _ _ _ ?_
  refine CW.seq fun kK5 kh5 => ?_
  rcases hf with ⟨c, B', hB, hu⟩ | ⟨hk0, hgt, hu⟩
  ·
    refine CW.region fun kR7 kr7 => ?_  -- region 2
    refine WL.ev (Ev.assign rfl) rfl ?_
    refine WL.nil (kr7 _ _ _ ?_)
    refine kh5 _ _ _ ?_
    refine CW.seq fun kK8 kh8 => ?_
    rcases Classical.em (0 < n + (c : Int)) with hlt | hlt
    ·
      injection hu with hu
      have hu := congrArg (fun a => a.toList) hu
      simp at hu
      subst hu
      have hpA : l[A.length]? = some (k, c) := by rw [hsp.eq, hB]; simp
      obtain ⟨f1, f2⟩ := flatR_get l _ _ hpA
      have hAl : A.length < l.length := by rw [hsp.eq, hB]; simp
      have hcn := cnt_mem h.srt.keys (List.mem_of_getElem? hpA)
      have hcp := h.pos _ (List.mem_of_getElem? hpA)
      have hle2 := le_tot (List.mem_of_getElem? hpA)
      dsimp only at hcn hcp hle2
      have hfl : flatR l = flatR A ++ flatR B := by rw [hsp.eq, flatR_append]
      have hln : l.length = A.length + B.length := by rw [hsp.eq, List.length_append]
      have hlb : B.length = B'.length + 1 := by rw [hB]; rfl
      refine CW.region fun kR10 kr10 => ?_  -- region 3
      refine WL.ev (Ev.move rfl) rfl ?_
      refine WL.ev (Ev.move rfl) rfl ?_
      refine WL.ev (Ev.nilPtr rfl) rfl ?_
      refine WL.ev (Ev.fieldAddr rfl) rfl ?_
      refine WL.ev (Ev.load rfl rfl (D2.cell d1 (by simp))) rfl ?_
      refine WL.ev (Ev.move rfl) rfl ?_
      refine WL.ev (Ev.sliceH rfl rfl (by omega) (by have := hrow.le; omega)) rfl ?_
      rw [Int.toNat_natCast]
      refine WL.appendAny (m := 0) (xs := []) (news := flatR A) (by rfl) (by decide) rfl rfl ⟨rfl, .inl ⟨rfl, rfl⟩⟩ (flatR_length A) (fun e => by have := hrow.nil e; omega) ((Row.lo (zs := flatR B)) (by rw [← hfl]; exact own_row (own_keep hown D2 (by simp)))) (flatR_one A) (by unfold maxLen; omega) (by omega) rfl fun v1 w3 ho1 hc1 hl1 => ?_
      have hc1 : Chg [] w1.drew w3 := hc1
      have D3 : Chg [] w1 w3 := D2.step hc1 (by simp)
      have F1 : ∀ x, v1.ownBlock = some x → w1.heap.size ≤ x := fresh_step hl1 (fun x hx => by cases hx) D2.size
      rw [Nat.zero_add, List.nil_append] at ho1
      refine WL.ev (Ev.assign rfl) rfl ?_
      refine WL.nil (kr10 _ _ _ ?_)
      refine kh8 _ _ _ ?_
      refine CW.seq fun kK11 kh11 => ?_
      refine CW.region fun kR12 kr12 => ?_  -- region 4
      refine WL.ev (Ev.move rfl) rfl ?_
      refine WL.ev (Ev.assign rfl) rfl ?_
      refine WL.nil (kr12 _ _ _ ?_)
      refine kh11 _ _ _ ?_
      refine CW.seq fun kK13 kh13 => ?_
      refine CW.seq fun kK14 kh14 => ?_
      refine CW.region fun kR15 kr15 => ?_  -- region 5
      refine WL.ev (Ev.move rfl) rfl ?_
      refine WL.nil (kr15 _ _ _ ?_)
      refine kh14 _ _ _ ?_
      refine CW.condT rfl ?_
      refine CW.region fun kR16 kr16 => ?_  -- region 6
      refine WL.ev (Ev.move rfl) rfl ?_
      refine WL.ev (Ev.move rfl) rfl ?_
      refine WL.ev (Ev.nilPtr rfl) rfl ?_
      refine WL.ev (Ev.fieldAddr rfl) rfl ?_
      refine WL.ev (Ev.load rfl rfl (D3.cell d1 (by simp))) rfl ?_
      refine WL.ev (Ev.move rfl) rfl ?_
      have hrow3 := own_row (own_keep hown D3 (by simp))
      obtain ⟨gg, hgg, hcells⟩ : ∃ gg, a = some ⟨gg, 0, none⟩ ∧ ∀ j x, (flatR l)[j]? = some x → w3.cell? ⟨gg, j, none⟩ = some x := by
        cases a with
        | none => have := hrow3.nil rfl; omega
        | some ad => obtain ⟨gg, rfl, hqq⟩ := hrow3.at_ _ rfl; exact ⟨gg, rfl, hqq⟩
      subst hgg
      refine WL.ev (Ev.indexAddr rfl rfl (by omega) (by omega)) rfl ?_
      rw [show 0 + (((A.length : Nat) : Int)).toNat * 2 = A.length * 2 by omega]
      refine WL.ev (Ev.fieldAddr rfl) rfl ?_
      refine WL.ev (Ev.load rfl rfl (hcells _ _ f2)) rfl ?_
      obtain ⟨c', hc'⟩ : ∃ c' : Nat, (c' : Int) = n + (c : Int) := ⟨(n + (c : Int)).toNat, by omega⟩
      refine WL.ev (Ev.addIn rfl rfl (by omega)) rfl ?_
      rw [← hc']
      refine WL.ev (Ev.assign rfl) rfl ?_
      refine WL.nil (kr16 _ _ _ ?_)
      refine kh13 _ _ _ ?_
      refine CW.seq fun kK17 kh17 => ?_
      refine CW.seq fun kK18 kh18 => ?_
      refine CW.region fun kR19 kr19 => ?_  -- region 7
      refine WL.ev (Ev.move rfl) rfl ?_
      refine WL.ev (Ev.gtr rfl rfl) rfl ?_
      rw [show decide ((0 : Int) < (c' : Int)) = true from decide_eq_true (by omega)]
      refine WL.nil (kr19 _ _ _ ?_)
      refine kh18 _ _ _ ?_
      refine CW.condT rfl ?_
      refine CW.region fun kR20 kr20 => ?_  -- region 8
      refine WL.ev (Ev.move rfl) rfl ?_
      refine WL.ev (Ev.move rfl) rfl ?_
      refine WL.ev (Ev.move rfl) rfl ?_
      refine WL.ev (Ev.build (cs := [.int .u64 (k : Int), .int .i64 (c' : Int)]) rfl rfl) rfl ?_
      refine WL.buildSlice (cs := [.int .u64 (k : Int), .int .i64 (c' : Int)]) (by decide) (by decide) rfl (by kernel_rfl) rfl fun nb w5 n5 => ?_
      have D5 : Chg [] w1 w5 := D3.step n5.chg (by simp)
      refine WL.append (m := A.length) (news := [.int .u64 (k : Int), .int .i64 (c' : Int)]) (by rfl) (by decide) rfl rfl (own_keep ho1 n5.chg (fun _ _ hm => by cases hm)) rfl (fun i u hu => by rw [add_addr, Nat.zero_add, cell_at n5.at_]; exact hu) (flatR_one [(k, c')]) (by unfold maxLen; omega) (by omega) rfl fun v2 w6 ho2 hc2 hl2 => ?_
      have D6 : Chg [] w1 w6 := D5.step hc2 (fun x hx => .inr (F1 x (by simpa using hx)))
      have F2 : ∀ x, v2.ownBlock = some x → w1.heap.size ≤ x := fresh_step hl2 F1 D5.size
      refine WL.ev (Ev.assign rfl) rfl ?_
      refine WL.nil (kr20 _ _ _ ?_)
      refine kh17 _ _ _ ?_
      refine CW.seq fun kK21 kh21 => ?_
      refine CW.seq fun kK22 kh22 => ?_
      refine CW.region fun kR23 kr23 => ?_  -- region 9
      refine WL.ev (Ev.move rfl) rfl ?_
      refine WL.nil (kr23 _ _ _ ?_)
      refine kh22 _ _ _ ?_
      refine CW.condT rfl ?_
      refine CW.region fun kR24 kr24 => ?_  -- region 10
      refine WL.ev (Ev.move rfl) rfl ?_
      refine WL.ev (Ev.addIn rfl rfl (by omega)) rfl ?_
      rw [show ((A.length : Int) + 1) = ((A.length + 1 : Nat) : Int) by omega]
      refine WL.ev (Ev.assign rfl) rfl ?_
      refine WL.nil (kr24 _ _ _ ?_)
      refine kh21 _ _ _ ?_
      refine CW.region fun kR25 kr25 => ?_  -- region 11
      refine WL.ev (Ev.move rfl) rfl ?_
      refine WL.ev (Ev.move rfl) rfl ?_
      refine WL.ev (Ev.move rfl) rfl ?_
      refine WL.ev (Ev.nilPtr rfl) rfl ?_
      refine WL.ev (Ev.fieldAddr rfl) rfl ?_
      refine WL.ev (Ev.load rfl rfl (D6.cell d1 (by simp))) rfl ?_
      refine WL.ev (Ev.move rfl) rfl ?_
      have hfl2 : flatR l = flatR (A ++ [(k, c)]) ++ flatR B' := by rw [hsp.eq, hB, ← flatR_append, List.append_assoc]; rfl
      have hrow6 : Row w6 (some ⟨gg, 0, none⟩) cap l.length (flatR (A ++ [(k, c)]) ++ flatR B') := by rw [← hfl2]; exact own_row (own_keep hown D6 (by simp))
      refine WL.ev (Ev.sliceL rfl rfl (by omega) (by omega)) rfl ?_
      rw [Int.toNat_natCast]
      refine WL.appendAny (m := A.length + 1) (xs := flatR A ++ [.int .u64 (k : Int), .int .i64 (c' : Int)]) (news := flatR B') (by rfl) (by decide) rfl rfl ho2 (by rw [flatR_length]; omega) (hrow6.hinil (by omega)) (hrow6.hi (by simp [flatR_length]) (fun e => flatR_nil (by have := hrow.le; omega))) (flatR_one B') (by unfold maxLen; omega) (by omega) rfl fun v3 w7 ho3 hc3 hl3 => ?_
      have D7 : Chg [] w1 w7 := D6.step hc3 (fun x hx => .inr (F2 x (by simpa using hx)))
      have F3 : ∀ x, v3.ownBlock = some x → w1.heap.size ≤ x := fresh_step hl3 F2 D6.size
      obtain ⟨a3, cap3, rfl⟩ := own_form ho3
      refine WL.ev (Ev.nilPtr rfl) rfl ?_
      refine WL.ev (Ev.fieldAddr rfl) rfl ?_
      refine WL.store rfl rfl rfl (D7.heap u1.at_ (by simp)) (by simp) fun w8 u2 => ?_
      refine WL.nil (kr25 _ _ _ ?_)
      refine bodyA.norm0 rfl ?_
      have C8 : Chg [b] w w8 := (u1.chg.step D7 (by simp)).step u2.chg (by simp)
      have hsl : Srt (A ++ (k, c) :: B') := by rw [← hB, ← hsp.eq]; exact h.srt
      have hel : l = A ++ (k, c) :: B' := by rw [← hB]; exact hsp.eq
      have g1 := sp_gone hsl
      have hlo : ∀ p ∈ A, place p.1 < place k := fun p hp => (srt_app.1 hsl).2.2 p hp (k, c) (by simp)
      have hhi : ∀ p ∈ B', place k < place p.1 := (srt_con.1 (srt_app.1 hsl).2.1).1
      have s2 := sp_put c' g1.1 hlo hhi
      have ht : (tot (A ++ (k, c') :: B') : Int) = (tot l : Int) + n := by rw [hel, tot_append, tot_cons, tot_append, tot_cons]; dsimp only; omega
      have hmem : ∀ p ∈ A ++ (k, c') :: B', p = (k, c') ∨ p ∈ l := fun p hp => by rcases List.mem_append.1 hp with hp | hp; exact .inr (by rw [hel]; exact List.mem_append_left _ hp); rcases List.mem_cons.1 hp with rfl | hp; exact .inl rfl; exact .inr (by rw [hel]; exact List.mem_append_right _ (List.mem_cons_of_mem _ hp))
      refine ⟨rfl, C8, _, A ++ (k, c') :: B', ⟨?_, ?_, fun x hx => by have := F3 x hx; omega, s2, fun p hp => ?_, fun p hp => ?_, by omega⟩, fun k' => ?_, ht, fun x hx => by have := F3 x hx; omega⟩
      · rw [ht]; exact u2.at_
      · refine own_keep (T := [b]) ?_ u2.chg (fun x hx hm => by have := F3 x hx; simp only [List.mem_singleton] at hm; omega)
        have e1 : (A ++ (k, c') :: B').length = A.length + 1 + (l.length - (A.length + 1)) := by simp; omega
        have e2 : flatR (A ++ (k, c') :: B') = flatR A ++ [.int .u64 (k : Int), .int .i64 (c' : Int)] ++ flatR B' := by simp [flatR]
        rw [e1, e2]
        exact ho3
      · rcases hmem p hp with rfl | hp
        · show 0 < c'; omega
        · exact h.pos p hp
      · rcases hmem p hp with rfl | hp
        · exact hk
        · exact h.ok p hp
      · rw [sp_cnt s2]
        split
        · omega
        · rename_i hkk; rw [hel, sp_cnt hsl, if_neg hkk]
    ·
      injection hu with hu
      have hu := congrArg (fun a => a.toList) hu
      simp at hu
      subst hu
      have hpA : l[A.length]? = some (k, c) := by rw [hsp.eq, hB]; simp
      obtain ⟨f1, f2⟩ := flatR_get l _ _ hpA
      have hAl : A.length < l.length := by rw [hsp.eq, hB]; simp
      have hcn := cnt_mem h.srt.keys (List.mem_of_getElem? hpA)
      have hcp := h.pos _ (List.mem_of_getElem? hpA)
      have hle2 := le_tot (List.mem_of_getElem? hpA)
      dsimp only at hcn hcp hle2
      have hfl : flatR l = flatR A ++ flatR B := by rw [hsp.eq, flatR_append]
      have hln : l.length = A.length + B.length := by rw [hsp.eq, List.length_append]
      have hlb : B.length = B'.length + 1 := by rw [hB]; rfl
      refine CW.region fun kR26 kr26 => ?_  -- region 3
      refine WL.ev (Ev.move rfl) rfl ?_
      refine WL.ev (Ev.move rfl) rfl ?_
      refine WL.ev (Ev.nilPtr rfl) rfl ?_
      refine WL.ev (Ev.fieldAddr rfl) rfl ?_
      refine WL.ev (Ev.load rfl rfl (D2.cell d1 (by simp))) rfl ?_
      refine WL.ev (Ev.move rfl) rfl ?_
      refine WL.ev (Ev.sliceH rfl rfl (by omega) (by have := hrow.le; omega)) rfl ?_
      rw [Int.toNat_natCast]
      refine WL.appendAny (m := 0) (xs := []) (news := flatR A) (by rfl) (by decide) rfl rfl ⟨rfl, .inl ⟨rfl, rfl⟩⟩ (flatR_length A) (fun e => by have := hrow.nil e; omega) ((Row.lo (zs := flatR B)) (by rw [← hfl]; exact own_row (own_keep hown D2 (by simp)))) (flatR_one A) (by unfold maxLen; omega) (by omega) rfl fun v1 w3 ho1 hc1 hl1 => ?_
      have hc1 : Chg [] w1.drew w3 := hc1
      have D3 : Chg [] w1 w3 := D2.step hc1 (by simp)
      have F1 : ∀ x, v1.ownBlock = some x → w1.heap.size ≤ x := fresh_step hl1 (fun x hx => by cases hx) D2.size
      rw [Nat.zero_add, List.nil_append] at ho1
      refine WL.ev (Ev.assign rfl) rfl ?_
      refine WL.nil (kr26 _ _ _ ?_)
      refine kh8 _ _ _ ?_
      refine CW.seq fun kK27 kh27 => ?_
      refine CW.region fun kR28 kr28 => ?_  -- region 4
      refine WL.ev (Ev.move rfl) rfl ?_
      refine WL.ev (Ev.assign rfl) rfl ?_
      refine WL.nil (kr28 _ _ _ ?_)
      refine kh27 _ _ _ ?_
      refine CW.seq fun kK29 kh29 => ?_
      refine CW.seq fun kK30 kh30 => ?_
      refine CW.region fun kR31 kr31 => ?_  -- region 5
      refine WL.ev (Ev.move rfl) rfl ?_
      refine WL.nil (kr31 _ _ _ ?_)
      refine kh30 _ _ _ ?_
      refine CW.condT rfl ?_
      refine CW.region fun kR32 kr32 => ?_  -- region 6
      refine WL.ev (Ev.move rfl) rfl ?_
      refine WL.ev (Ev.move rfl) rfl ?_
      refine WL.ev (Ev.nilPtr rfl) rfl ?_
      refine WL.ev (Ev.fieldAddr rfl) rfl ?_
      refine WL.ev (Ev.load rfl rfl (D3.cell d1 (by simp))) rfl ?_
      refine WL.ev (Ev.move rfl) rfl ?_
      have hrow3 := own_row (own_keep hown D3 (by simp))
      obtain ⟨gg, hgg, hcells⟩ : ∃ gg, a = some ⟨gg, 0, none⟩ ∧ ∀ j x, (flatR l)[j]? = some x → w3.cell? ⟨gg, j, none⟩ = some x := by
        cases a with
        | none => have := hrow3.nil rfl; omega
        | some ad => obtain ⟨gg, rfl, hqq⟩ := hrow3.at_ _ rfl; exact ⟨gg, rfl, hqq⟩
      subst hgg
      refine WL.ev (Ev.indexAddr rfl rfl (by omega) (by omega)) rfl ?_
      rw [show 0 + (((A.length : Nat) : Int)).toNat * 2 = A.length * 2 by omega]
      refine WL.ev (Ev.fieldAddr rfl) rfl ?_
      refine WL.ev (Ev.load rfl rfl (hcells _ _ f2)) rfl ?_
      first | refine WL.ev (Ev.addIn rfl rfl (by omega)) rfl ?_ | refine WL.ev (Ev.add rfl rfl) rfl ?_
      refine WL.ev (Ev.assign rfl) rfl ?_
      refine WL.nil (kr32 _ _ _ ?_)
      refine kh29 _ _ _ ?_
      refine CW.seq fun kK33 kh33 => ?_
      refine CW.seq fun kK34 kh34 => ?_
      refine CW.region fun kR35 kr35 => ?_  -- region 7
      refine WL.ev (Ev.move rfl) rfl ?_
      refine WL.ev (Ev.gtr rfl rfl) rfl ?_
      rw [show decide ((0 : Int) < n + ((k, c).2 : Int)) = false from decide_eq_false (by omega)]
      refine WL.nil (kr35 _ _ _ ?_)
      refine kh34 _ _ _ ?_
      refine CW.condF rfl ?_
      refine CW.skip ?_
      refine kh33 _ _ _ ?_
      refine CW.seq fun kK36 kh36 => ?_
      refine CW.seq fun kK37 kh37 => ?_
      refine CW.region fun kR38 kr38 => ?_  -- region 9
      refine WL.ev (Ev.move rfl) rfl ?_
      refine WL.nil (kr38 _ _ _ ?_)
      refine kh37 _ _ _ ?_
      refine CW.condT rfl ?_
      refine CW.region fun kR39 kr39 => ?_  -- region 10
      refine WL.ev (Ev.move rfl) rfl ?_
      refine WL.ev (Ev.addIn rfl rfl (by omega)) rfl ?_
      rw [show ((A.length : Int) + 1) = ((A.length + 1 : Nat) : Int) by omega]
      refine WL.ev (Ev.assign rfl) rfl ?_
      refine WL.nil (kr39 _ _ _ ?_)
      refine kh36 _ _ _ ?_
      refine CW.region fun kR40 kr40 => ?_  -- region 11
      refine WL.ev (Ev.move rfl) rfl ?_
      refine WL.ev (Ev.move rfl) rfl ?_
      refine WL.ev (Ev.move rfl) rfl ?_
      refine WL.ev (Ev.nilPtr rfl) rfl ?_
      refine WL.ev (Ev.fieldAddr rfl) rfl ?_
      refine WL.ev (Ev.load rfl rfl (D3.cell d1 (by simp))) rfl ?_
      refine WL.ev (Ev.move rfl) rfl ?_
      have hfl2 : flatR l = flatR (A ++ [(k, c)]) ++ flatR B' := by rw [hsp.eq, hB, ← flatR_append, List.append_assoc]; rfl
      have hrow6 : Row w3 (some ⟨gg, 0, none⟩) cap l.length (flatR (A ++ [(k, c)]) ++ flatR B') := by rw [← hfl2]; exact own_row (own_keep hown D3 (by simp))
      refine WL.ev (Ev.sliceL rfl rfl (by omega) (by omega)) rfl ?_
      rw [Int.toNat_natCast]
      refine WL.appendAny (m := A.length) (xs := flatR A) (news := flatR B') (by rfl) (by decide) rfl rfl ho1 (by rw [flatR_length]; omega) (hrow6.hinil (by omega)) (hrow6.hi (by simp [flatR_length]) (fun e => flatR_nil (by have := hrow.le; omega))) (flatR_one B') (by unfold maxLen; omega) (by omega) rfl fun v3 w7 ho3 hc3 hl3 => ?_
      have D7 : Chg [] w1 w7 := D3.step hc3 (fun x hx => .inr (F1 x (by simpa using hx)))
      have F3 : ∀ x, v3.ownBlock = some x → w1.heap.size ≤ x := fresh_step hl3 F1 D3.size
      obtain ⟨a3, cap3, rfl⟩ := own_form ho3
      refine WL.ev (Ev.nilPtr rfl) rfl ?_
      refine WL.ev (Ev.fieldAddr rfl) rfl ?_
      refine WL.store rfl rfl rfl (D7.heap u1.at_ (by simp)) (by simp) fun w8 u2 => ?_
      refine WL.nil (kr40 _ _ _ ?_)
      refine bodyA.norm0 rfl ?_
      have C8 : Chg [b] w w8 := (u1.chg.step D7 (by simp)).step u2.chg (by simp)
      have hsl : Srt (A ++ (k, c) :: B') := by rw [← hB, ← hsp.eq]; exact h.srt
      have hel : l = A ++ (k, c) :: B' := by rw [← hB]; exact hsp.eq
      have g1 := sp_gone hsl
      have s2 := g1.1
      have ht : (tot (A ++ B') : Int) = (tot l : Int) + n := by rw [hel, tot_append, tot_append, tot_cons]; dsimp only; omega
      have hmem : ∀ p ∈ A ++ B', p = (k, 0) ∨ p ∈ l := fun p hp => by rcases List.mem_append.1 hp with hp | hp; exact .inr (by rw [hel]; exact List.mem_append_left _ hp); exact .inr (by rw [hel]; exact List.mem_append_right _ (List.mem_cons_of_mem _ hp))
      refine ⟨rfl, C8, _, A ++ B', ⟨?_, ?_, fun x hx => by have := F3 x hx; omega, s2, fun p hp => ?_, fun p hp => ?_, by omega⟩, fun k' => ?_, ht, fun x hx => by have := F3 x hx; omega⟩
      · rw [ht]; exact u2.at_
      · refine own_keep (T := [b]) ?_ u2.chg (fun x hx hm => by have := F3 x hx; simp only [List.mem_singleton] at hm; omega)
        have e1 : (A ++ B').length = A.length + (l.length - (A.length + 1)) := by simp; omega
        have e2 : flatR (A ++ B') = flatR A ++ flatR B' := by simp [flatR]
        rw [e1, e2]
        exact ho3
      · rcases hmem p hp with e | hq
        · subst e; exact absurd (List.mem_map_of_mem (f := (·.1)) hp) g1.2.2
        · exact h.pos p hq
      · rcases hmem p hp with e | hq
        · subst e; exact hk
        · exact h.ok p hq
      · split
        · rename_i hkk; subst hkk; rw [g1.2.1]; omega
        · rename_i hkk; rw [hel, sp_cnt hsl, if_neg hkk]
  ·
    injection hu with hu
    have hu := congrArg (fun a => a.toList) hu
    simp at hu
    subst hu
    have hfl : flatR l = flatR A ++ flatR B := by rw [hsp.eq, flatR_append]
    have hln : l.length = A.length + B.length := by rw [hsp.eq, List.length_append]
    have hcn := cnt_none hk0
    obtain ⟨n', rfl⟩ : ∃ n' : Nat, n = (n' : Int) := ⟨n.toNat, by omega⟩
    have hn1 : 0 < n' := by omega
    refine CW.region fun kR41 kr41 => ?_  -- region 2
    refine WL.ev (Ev.assign rfl) rfl ?_
    refine WL.nil (kr41 _ _ _ ?_)
    refine kh5 _ _ _ ?_
    refine CW.seq fun kK42 kh42 => ?_
    refine CW.region fun kR43 kr43 => ?_  -- region 3
    refine WL.ev (Ev.move rfl) rfl ?_
    refine WL.ev (Ev.move rfl) rfl ?_
    refine WL.ev (Ev.nilPtr rfl) rfl ?_
    refine WL.ev (Ev.fieldAddr rfl) rfl ?_
    refine WL.ev (Ev.load rfl rfl (D2.cell d1 (by simp))) rfl ?_
    refine WL.ev (Ev.move rfl) rfl ?_
    refine WL.ev (Ev.sliceH rfl rfl (by omega) (by have := hrow.le; omega)) rfl ?_
    rw [Int.toNat_natCast]
    refine WL.appendAny (m := 0) (xs := []) (news := flatR A) (by rfl) (by decide) rfl rfl ⟨rfl, .inl ⟨rfl, rfl⟩⟩ (flatR_length A) (fun e => by have := hrow.nil e; omega) ((Row.lo (zs := flatR B)) (by rw [← hfl]; exact own_row (own_keep hown D2 (by simp)))) (flatR_one A) (by unfold maxLen; omega) (by omega) rfl fun v1 w3 ho1 hc1 hl1 => ?_
    have hc1 : Chg [] w1.drew w3 := hc1
    have D3 : Chg [] w1 w3 := D2.step hc1 (by simp)
    have F1 : ∀ x, v1.ownBlock = some x → w1.heap.size ≤ x := fresh_step hl1 (fun x hx => by cases hx) D2.size
    rw [Nat.zero_add, List.nil_append] at ho1
    refine WL.ev (Ev.assign rfl) rfl ?_
    refine WL.nil (kr43 _ _ _ ?_)
    refine kh42 _ _ _ ?_
    refine CW.seq fun kK44 kh44 => ?_
    refine CW.region fun kR45 kr45 => ?_  -- region 4
    refine WL.ev (Ev.move rfl) rfl ?_
    refine WL.ev (Ev.assign rfl) rfl ?_
    refine WL.nil (kr45 _ _ _ ?_)
    refine kh44 _ _ _ ?_
    refine CW.seq fun kK46 kh46 => ?_
    refine CW.seq fun kK47 kh47 => ?_
    refine CW.region fun kR48 kr48 => ?_  -- region 5
    refine WL.ev (Ev.move rfl) rfl ?_
    refine WL.nil (kr48 _ _ _ ?_)
    refine kh47 _ _ _ ?_
    refine CW.condF rfl ?_
    refine CW.skip ?_
    refine kh46 _ _ _ ?_
    refine CW.seq fun kK49 kh49 => ?_
    refine CW.seq fun kK50 kh50 => ?_
    refine CW.region fun kR51 kr51 => ?_  -- region 7
    refine WL.ev (Ev.move rfl) rfl ?_
    refine WL.ev (Ev.gtr rfl rfl) rfl ?_
    rw [show decide ((0 : Int) < (n' : Int)) = true from decide_eq_true (by omega)]
    refine WL.nil (kr51 _ _ _ ?_)
    refine kh50 _ _ _ ?_
    refine CW.condT rfl ?_
    refine CW.region fun kR52 kr52 => ?_  -- region 8
    refine WL.ev (Ev.move rfl) rfl ?_
    refine WL.ev (Ev.move rfl) rfl ?_
    refine WL.ev (Ev.move rfl) rfl ?_
    refine WL.ev (Ev.build (cs := [.int .u64 (k : Int), .int .i64 (n' : Int)]) rfl rfl) rfl ?_
    refine WL.buildSlice (cs := [.int .u64 (k : Int), .int .i64 (n' : Int)]) (by decide) (by decide) rfl (by kernel_rfl) rfl fun nb w5 n5 => ?_
    have D5 : Chg [] w1 w5 := D3.step n5.chg (by simp)
    refine WL.append (m := A.length) (news := [.int .u64 (k : Int), .int .i64 (n' : Int)]) (by rfl) (by decide) rfl rfl (own_keep ho1 n5.chg (fun _ _ hm => by cases hm)) rfl (fun i u hu => by rw [add_addr, Nat.zero_add, cell_at n5.at_]; exact hu) (flatR_one [(k, n')]) (by unfold maxLen; omega) (by omega) rfl fun v2 w6 ho2 hc2 hl2 => ?_
    have D6 : Chg [] w1 w6 := D5.step hc2 (fun x hx => .inr (F1 x (by simpa using hx)))
    have F2 : ∀ x, v2.ownBlock = some x → w1.heap.size ≤ x := fresh_step hl2 F1 D5.size
    refine WL.ev (Ev.assign rfl) rfl ?_
    refine WL.nil (kr52 _ _ _ ?_)
    refine kh49 _ _ _ ?_
    refine CW.seq fun kK53 kh53 => ?_
    refine CW.seq fun kK54 kh54 => ?_
    refine CW.region fun kR55 kr55 => ?_  -- region 9
    refine WL.ev (Ev.move rfl) rfl ?_
    refine WL.nil (kr55 _ _ _ ?_)
    refine kh54 _ _ _ ?_
    refine CW.condF rfl ?_
    refine CW.skip ?_
    refine kh53 _ _ _ ?_
    refine CW.region fun kR56 kr56 => ?_  -- region 11
    refine WL.ev (Ev.move rfl) rfl ?_
    refine WL.ev (Ev.move rfl) rfl ?_
    refine WL.ev (Ev.move rfl) rfl ?_
    refine WL.ev (Ev.nilPtr rfl) rfl ?_
    refine WL.ev (Ev.fieldAddr rfl) rfl ?_
    refine WL.ev (Ev.load rfl rfl (D6.cell d1 (by simp))) rfl ?_
    refine WL.ev (Ev.move rfl) rfl ?_
    have hfl2 : flatR l = flatR A ++ flatR B := by exact hfl
    have hrow6 : Row w6 a cap l.length (flatR A ++ flatR B) := by rw [← hfl2]; exact own_row (own_keep hown D6 (by simp))
    refine WL.ev (Ev.sliceL rfl rfl (by omega) (by omega)) rfl ?_
    rw [Int.toNat_natCast]
    refine WL.appendAny (m := A.length + 1) (xs := flatR A ++ [.int .u64 (k : Int), .int .i64 (n' : Int)]) (news := flatR B) (by rfl) (by decide) rfl rfl ho2 (by rw [flatR_length]; omega) (hrow6.hinil (by omega)) (hrow6.hi (by simp [flatR_length]) (fun e => flatR_nil (by have := hrow.le; omega))) (flatR_one B) (by unfold maxLen; omega) (by omega) rfl fun v3 w7 ho3 hc3 hl3 => ?_
    have D7 : Chg [] w1 w7 := D6.step hc3 (fun x hx => .inr (F2 x (by simpa using hx)))
    have F3 : ∀ x, v3.ownBlock = some x → w1.heap.size ≤ x := fresh_step hl3 F2 D6.size
    obtain ⟨a3, cap3, rfl⟩ := own_form ho3
    refine WL.ev (Ev.nilPtr rfl) rfl ?_
    refine WL.ev (Ev.fieldAddr rfl) rfl ?_
    refine WL.store rfl rfl rfl (D7.heap u1.at_ (by simp)) (by simp) fun w8 u2 => ?_
    refine WL.nil (kr56 _ _ _ ?_)
    refine bodyA.norm0 rfl ?_
    have C8 : Chg [b] w w8 := (u1.chg.step D7 (by simp)).step u2.chg (by simp)
    have hsl : Srt (A ++ B) := by rw [← hsp.eq]; exact h.srt
    have s2 := sp_put n' hsl hsp.lo hgt
    have ht : (tot (A ++ (k, n') :: B) : Int) = (tot l : Int) + (n' : Int) := by rw [hsp.eq, tot_append, tot_append, tot_cons]; dsimp only; omega
    have hmem : ∀ p ∈ A ++ (k, n') :: B, p = (k, n') ∨ p ∈ l := fun p hp => by rcases List.mem_append.1 hp with hp | hp; exact .inr (by rw [hsp.eq]; exact List.mem_append_left _ hp); rcases List.mem_cons.1 hp with rfl | hp; exact .inl rfl; exact .inr (by rw [hsp.eq]; exact List.mem_append_right _ hp)
    refine ⟨rfl, C8, _, A ++ (k, n') :: B, ⟨?_, ?_, fun x hx => by have := F3 x hx; omega, s2, fun p hp => ?_, fun p hp => ?_, by omega⟩, fun k' => ?_, ht, fun x hx => by have := F3 x hx; omega⟩
    · rw [ht]; exact u2.at_
    · refine own_keep (T := [b]) ?_ u2.chg (fun x hx hm => by have := F3 x hx; simp only [List.mem_singleton] at hm; omega)
      have e1 : (A ++ (k, n') :: B).length = A.length + 1 + (l.length - (A.length)) := by simp; omega
      have e2 : flatR (A ++ (k, n') :: B) = flatR A ++ [.int .u64 (k : Int), .int .i64 (n' : Int)] ++ flatR B := by simp [flatR]
      rw [e1, e2]
      exact ho3
    · rcases hmem p hp with rfl | hp
      · show 0 < n'; omega
      · exact h.pos p hp
    · rcases hmem p hp with rfl | hp
      · exact hk
      · exact h.ok p hp
    · rw [sp_cnt s2]
      split
      · omega
      · rw [← hsp.eq]

theorem ref18_Add_spec (b x : Nat) (hx : x < 18446744073709551616) (v : Value) (j : Bool) (l : KV) (w : World) (h : RefP w b v j l) : Ret Try.prog 24 [.pointer (some ⟨b, 0, none⟩), .float .f64 x] w fun u w' => (tot l = 1099511627776 ∧ u = .int .i64 2 ∧ w = w') ∨ (tot l < 1099511627776 ∧ u = .int .i64 0 ∧ RefMore w w' b j l (cval j x) 1) := by
  have c0 : w.cell? ⟨b, 0, none⟩ = some (.bool j) := by rw [cell_at h.cell]; rfl
  have c1 : w.cell? ⟨b, 1, none⟩ = some v := by rw [cell_at h.cell]; rfl
  have c2 : w.cell? ⟨b, 2, none⟩ = some (.int .i64 (tot l : Int)) := by rw [cell_at h.cell]; rfl
  have hlen := h.len
  have hs := h.small
  refine Ret.enter Try.func24 rfl rfl ?_
  refine CW.seq fun kK1 kh1 => ?_
  refine CW.region fun kR2 kr2 => ?_  -- region 0
  refine WL.ev (Ev.assign rfl) rfl ?_
  refine WL.nil (kr2 _ _ _ ?_)
  refine kh1 _ _ _ ?_
  refine CW.seq fun kK3 kh3 => ?_
  refine CW.seq fun kK4 kh4 => ?_
  refine CW.region fun kR5 kr5 => ?_  -- region 1
  refine WL.ev (Ev.move rfl) rfl ?_
  refine WL.ev (Ev.nilPtr rfl) rfl ?_
  refine WL.ev (Ev.fieldAddr rfl) rfl ?_
  refine WL.ev (Ev.load rfl rfl (c2)) rfl ?_
  refine WL.ev (Ev.geq rfl rfl) rfl ?_
  refine WL.nil (kr5 _ _ _ ?_)
  refine kh4 _ _ _ ?_
  refine CW.cond rfl (fun hc1 => ?_) (fun hc1 => ?_)  -- if 9
  ·
    simp only [decide_eq_true_eq, decide_eq_false_iff_not, Decidable.not_not, Bool.and_eq_true, Bool.or_eq_true, Bool.not_eq_true', ne_eq, Int.not_lt, Int.not_le] at hc1
    refine CW.seq fun kK6 kh6 => ?_
    refine CW.region fun kR7 kr7 => ?_  -- region 2
    refine WL.ev (Ev.assign rfl) rfl ?_
    refine WL.nil (kr7 _ _ _ ?_)
    refine kh6 _ _ _ ?_
    refine CW.ret ?_
    refine bodyA.ret1 rfl rfl ?_
    exact .inl ⟨by omega, rfl, rfl⟩
  ·
    simp only [decide_eq_true_eq, decide_eq_false_iff_not, Decidable.not_not, Bool.and_eq_true, Bool.or_eq_true, Bool.not_eq_true', ne_eq, Int.not_lt, Int.not_le] at hc1
    refine CW.skip ?_
    refine kh3 _ _ _ ?_
    refine CW.seq fun kK8 kh8 => ?_
    refine CW.region fun kR9 kr9 => ?_  -- region 3
    refine WL.ev (Ev.move rfl) rfl ?_
    refine WL.ev (Ev.move rfl) rfl ?_
    refine WL.ev (Ev.move rfl) rfl ?_
    refine WL.call hasF41 rfl rfl (ref18_value_spec b x hx j _ c0) fun v w1 h' => ?_
    obtain ⟨rfl, rfl⟩ := h'
    refine WL.call hasF40 rfl rfl (ref18_more_spec b v j l (cval j x) (cval_ok hx) 1 (by omega) (by omega) _ h) fun v w2 h' => ?_
    obtain ⟨rfl, hm⟩ := h'
    refine WL.nil (kr9 _ _ _ ?_)
    refine kh8 _ _ _ ?_
    refine CW.seq fun kK10 kh10 => ?_
    refine CW.region fun kR11 kr11 => ?_  -- region 4
    refine WL.ev (Ev.assign rfl) rfl ?_
    refine WL.nil (kr11 _ _ _ ?_)
    refine kh10 _ _ _ ?_
    refine CW.ret ?_
    refine bodyA.ret1 rfl rfl ?_
    exact .inr ⟨by omega, rfl, hm⟩

theorem ref18_Take_spec (b x : Nat) (hx : x < 18446744073709551616) (v : Value) (j : Bool) (l : KV) (w : World) (h : RefP w b v j l) : Ret Try.prog 25 [.pointer (some ⟨b, 0, none⟩), .float .f64 x] w fun u w' => (cnt l (cval j x) = 0 ∧ u = .bool false ∧ Chg [] w w') ∨ (0 < cnt l (cval j x) ∧ u = .bool true ∧ RefMore w w' b j l (cval j x) (-1)) := by
  have c0 : w.cell? ⟨b, 0, none⟩ = some (.bool j) := by rw [cell_at h.cell]; rfl
  have c1 : w.cell? ⟨b, 1, none⟩ = some v := by rw [cell_at h.cell]; rfl
  have c2 : w.cell? ⟨b, 2, none⟩ = some (.int .i64 (tot l : Int)) := by rw [cell_at h.cell]; rfl
  have hlen := h.len
  have hs := h.small
  refine Ret.enter Try.func25 rfl rfl ?_
  refine CW.seq fun kK1 kh1 => ?_
  refine CW.region fun kR2 kr2 => ?_  -- region 0
  refine WL.ev (Ev.assign rfl) rfl ?_
  refine WL.nil (kr2 _ _ _ ?_)
  refine kh1 _ _ _ ?_
  refine CW.seq fun kK3 kh3 => ?_
  refine CW.region fun kR4 kr4 => ?_  -- region 1
  refine WL.ev (Ev.move rfl) rfl ?_
  refine WL.ev (Ev.move rfl) rfl ?_
  refine WL.call hasF32 rfl rfl (ref18_Count_spec b x hx v j l _ h) fun v w1 h' => ?_
  obtain ⟨rfl, rfl⟩ := h'
  refine WL.ev (Ev.assign rfl) rfl ?_
  refine WL.nil (kr4 _ _ _ ?_)
  refine kh3 _ _ _ ?_
  refine CW.seq fun kK5 kh5 => ?_
  refine CW.seq fun kK6 kh6 => ?_
  refine CW.region fun kR7 kr7 => ?_  -- region 2
  refine WL.ev (Ev.move rfl) rfl ?_
  refine WL.ev (Ev.eql rfl rfl) rfl ?_
  refine WL.nil (kr7 _ _ _ ?_)
  refine kh6 _ _ _ ?_
  refine CW.cond rfl (fun hc1 => ?_) (fun hc1 => ?_)  -- if 10
  ·
    simp only [decide_eq_true_eq, decide_eq_false_iff_not, Decidable.not_not, Bool.and_eq_true, Bool.or_eq_true, Bool.not_eq_true', ne_eq, Int.not_lt, Int.not_le] at hc1
    refine CW.seq fun kK8 kh8 => ?_
    refine CW.region fun kR9 kr9 => ?_  -- region 3
    refine WL.ev (Ev.assign rfl) rfl ?_
    refine WL.nil (kr9 _ _ _ ?_)
    refine kh8 _ _ _ ?_
    refine CW.ret ?_
    refine bodyA.ret1 rfl rfl ?_
    exact .inl ⟨by omega, rfl, Chg.drew _ _⟩
  ·
    simp only [decide_eq_true_eq, decide_eq_false_iff_not, Decidable.not_not, Bool.and_eq_true, Bool.or_eq_true, Bool.not_eq_true', ne_eq, Int.not_lt, Int.not_le] at hc1
    refine CW.skip ?_
    refine kh5 _ _ _ ?_
    refine CW.seq fun kK10 kh10 => ?_
    refine CW.region fun kR11 kr11 => ?_  -- region 4
    refine WL.ev (Ev.move rfl) rfl ?_
    refine WL.ev (Ev.move rfl) rfl ?_
    refine WL.ev (Ev.move rfl) rfl ?_
    refine WL.call hasF41 rfl rfl (ref18_value_spec b x hx j _ ((Chg.drew [] w).cell c0 (by simp))) fun v w2 h' => ?_
    obtain ⟨rfl, rfl⟩ := h'
    refine WL.call hasF40 rfl rfl (ref18_more_spec b v j l (cval j x) (cval_ok hx) (-1) (by omega) (by omega) _ (h.keep (Chg.drew [] w) (by simp) (by simp))) fun v w3 h' => ?_
    obtain ⟨rfl, hm⟩ := h'
    refine WL.nil (kr11 _ _ _ ?_)
    refine kh10 _ _ _ ?_
    refine CW.seq fun kK12 kh12 => ?_
    refine CW.region fun kR13 kr13 => ?_  -- region 5
    refine WL.ev (Ev.assign rfl) rfl ?_
    refine WL.nil (kr13 _ _ _ ?_)
    refine kh12 _ _ _ ?_
    refine CW.ret ?_
    refine bodyA.ret1 rfl rfl ?_
    exact .inr ⟨by omega, rfl, hm.drew⟩

end Go.Proofs.Ytjlmenmlpmfokaa
