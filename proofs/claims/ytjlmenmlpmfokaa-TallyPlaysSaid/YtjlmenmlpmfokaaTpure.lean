/- Tallies as plain lists: what a count is, and that sorted lists with the same counts are one. No condition. -/
import Derived.Test.YtjlmenmlpmfokaaSxMap
import Derived.Test.YtjlmenmlpmfokaaFl
namespace Go.Proofs.Ytjlmenmlpmfokaa.Ty
set_option linter.unusedSimpArgs false
set_option linter.unusedVariables false
open Go Sx Fl

/-- What a number counts as. -/
def cval (j : Bool) (x : Nat) : Nat := if isNaN x then 9221120237041090560 else if j = true ∧ x % 9223372036854775808 = 0 then 0 else x
abbrev KV := List (Nat × Nat)
def cnt (l : KV) (k : Nat) : Nat := ((l.find? fun p => p.1 == k).map (·.2)).getD 0
def keys (l : KV) : List Nat := l.map (·.1)
structure WF (l : KV) : Prop where
  nodup : (keys l).Nodup
  pos : ∀ p ∈ l, 0 < p.2

theorem cnt_nil (k : Nat) : cnt [] k = 0 := rfl
theorem cnt_cons (p : Nat × Nat) (l : KV) (k : Nat) : cnt (p :: l) k = if p.1 = k then p.2 else cnt l k := by
  unfold cnt
  by_cases h : p.1 = k
  · simp [h]
  · have : (p.1 == k) = false := by simpa using h
    simp [List.find?_cons, this, h]
theorem cnt_none {l : KV} {k : Nat} (h : k ∉ keys l) : cnt l k = 0 := by
  induction l with
  | nil => rfl
  | cons p l ih =>
    simp only [keys, List.map_cons, List.mem_cons, not_or] at h
    rw [cnt_cons, if_neg (fun e => h.1 e.symm)]
    exact ih h.2
theorem cnt_mem {l : KV} (hn : (keys l).Nodup) {p : Nat × Nat} (hp : p ∈ l) : cnt l p.1 = p.2 := by
  induction l with
  | nil => cases hp
  | cons q l ih =>
    simp only [keys, List.map_cons, List.nodup_cons] at hn
    rw [cnt_cons]
    rcases List.mem_cons.1 hp with h | h
    · subst h; simp
    · have : q.1 ≠ p.1 := fun e => hn.1 (e ▸ List.mem_map_of_mem (f := (·.1)) h)
      rw [if_neg this]; exact ih hn.2 h
theorem mem_of_cnt {l : KV} {k : Nat} (h : cnt l k ≠ 0) : (k, cnt l k) ∈ l := by
  induction l with
  | nil => exact absurd rfl h
  | cons q l ih =>
    rw [cnt_cons] at h ⊢
    by_cases e : q.1 = k
    · rw [if_pos e]; subst e; simp
    · rw [if_neg e] at h ⊢; exact List.mem_cons_of_mem _ (ih h)
theorem mem_iff {l : KV} (h : WF l) (p : Nat × Nat) : p ∈ l ↔ (cnt l p.1 = p.2 ∧ 0 < p.2) := by
  constructor
  · intro hp; exact ⟨cnt_mem h.nodup hp, h.pos p hp⟩
  · intro ⟨h1, h2⟩
    have := mem_of_cnt (l := l) (k := p.1) (by omega)
    rwa [h1] at this
theorem nodup_of_keys {l : KV} (h : (keys l).Nodup) : l.Nodup := by
  induction l with
  | nil => simp
  | cons q l ih =>
    simp only [keys, List.map_cons, List.nodup_cons] at h
    rw [List.nodup_cons]
    exact ⟨fun hq => h.1 (List.mem_map_of_mem (f := (·.1)) hq), ih h.2⟩
theorem perm_of_cnt {a b : KV} (ha : WF a) (hb : WF b) (h : ∀ k, cnt a k = cnt b k) : a.Perm b := by
  rw [List.perm_ext_iff_of_nodup (nodup_of_keys ha.nodup) (nodup_of_keys hb.nodup)]
  intro p
  rw [mem_iff ha, mem_iff hb, h]
theorem cnt_perm {a b : KV} (hb : (keys a).Nodup) (h : a.Perm b) (k : Nat) : cnt a k = cnt b k := by
  have hb' : (keys b).Nodup := (h.map Prod.fst).nodup_iff.1 hb
  by_cases hk : k ∈ keys a
  · obtain ⟨p, hp, rfl⟩ := List.mem_map.1 hk
    rw [cnt_mem hb hp, cnt_mem hb' (h.mem_iff.1 hp)]
  · have hk' : k ∉ keys b := fun hm => hk ((h.map Prod.fst).mem_iff.2 hm)
    rw [cnt_none hk, cnt_none hk']

/-- In the numbers' order, no two alike. -/
def Srt (l : KV) : Prop := l.Pairwise fun p q => place p.1 < place q.1
theorem Srt.keys {l : KV} (h : Srt l) : (keys l).Nodup := by
  unfold Ty.keys
  rw [List.nodup_iff_pairwise_ne, List.pairwise_map]
  exact h.imp fun hlt e => by rw [e] at hlt; omega
theorem srt_unique : ∀ {a b : KV}, Srt a → Srt b → a.Perm b → a = b
  | [], b, _, _, h => h.nil_eq
  | p :: a, [], _, _, h => by have := h.length_eq; simp at this
  | p :: a, q :: b, ha, hb, h => by
    have hp := List.pairwise_cons.1 ha
    have hq := List.pairwise_cons.1 hb
    have : p = q := by
      rcases List.mem_cons.1 (h.mem_iff.1 (List.mem_cons_self ..)) with e | e
      · exact e
      · rcases List.mem_cons.1 (h.mem_iff.2 (List.mem_cons_self ..)) with e' | e'
        · exact e'.symm
        · have h1 := hq.1 p e
          have h2 := hp.1 q e'
          omega
    subst this
    rw [srt_unique hp.2 hq.2 (List.Perm.cons_inv h)]
theorem srt_ext {a b : KV} (ha : Srt a) (hb : Srt b) (pa : ∀ p ∈ a, 0 < p.2) (pb : ∀ p ∈ b, 0 < p.2) (h : ∀ k, cnt a k = cnt b k) : a = b :=
  srt_unique ha hb (perm_of_cnt ⟨ha.keys, pa⟩ ⟨hb.keys, pb⟩ h)

/-- All counts together. -/
def tot (l : KV) : Nat := (l.map (·.2)).sum
theorem tot_cons (p : Nat × Nat) (l : KV) : tot (p :: l) = p.2 + tot l := by simp [tot]
theorem tot_perm {a b : KV} (h : a.Perm b) : tot a = tot b := (h.map Prod.snd).sum_nat
theorem le_tot {l : KV} {p : Nat × Nat} (h : p ∈ l) : p.2 ≤ tot l := by
  induction l with
  | nil => cases h
  | cons q l ih =>
    rw [tot_cons]
    rcases List.mem_cons.1 h with e | e
    · subst e; omega
    · have := ih e; omega
theorem cnt_le_tot (l : KV) (k : Nat) : cnt l k ≤ tot l := by
  by_cases h : cnt l k = 0
  · omega
  · exact le_tot (mem_of_cnt h)

/-! ### The program's entries: key, count, stamp -/
abbrev T3 := List (Nat × Nat × Nat)
def toME (e : Nat × Nat × Nat) : ME := ⟨(e.1 : Int), .int .i64 (e.2.1 : Int), e.2.2⟩
def kv (t : T3) : KV := t.map fun e => (e.1, e.2.1)
def put3 (t : T3) (k n c : Nat) : T3 := match t.findIdx? (fun e => e.1 == k) with
  | some i => t.modify i fun e => (e.1, n, e.2.2)
  | none => t ++ [(k, n, c)]
def del3 (t : T3) (k : Nat) : T3 := match t.findIdx? (fun e => e.1 == k) with
  | some i => t.eraseIdx i
  | none => t
def clk3 (t : T3) (k c : Nat) : Nat := match t.findIdx? (fun e => e.1 == k) with
  | some _ => c
  | none => c + 1
theorem midx3 (k : Nat) : ∀ t : T3, midx (k : Int) (t.map toME) = t.findIdx? fun e => e.1 == k
  | [] => rfl
  | e :: t => by
    simp only [List.map_cons, midx, toME, List.findIdx?_cons]
    by_cases h : e.1 = k
    · subst h; simp
    · have h' : ¬ ((e.1 : Int) = (k : Int)) := by omega
      have hb : (e.1 == k) = false := by simpa using h
      have ih := midx3 k t
      simp only [h', hb, if_false]
      rw [ih]
      simp
theorem mput3 (t : T3) (k n c : Nat) : mput (t.map toME) (k : Int) (.int .i64 (n : Int)) c = (put3 t k n c).map toME := by
  unfold mput put3
  rw [midx3]
  cases t.findIdx? (fun e => e.1 == k) with
  | none => simp [toME]
  | some i =>
    apply List.ext_getElem?
    intro j
    by_cases hj : i = j
    · subst hj; simp only [List.getElem?_modify, List.getElem?_map, if_true]; cases t[i]? <;> rfl
    · simp [List.getElem?_modify, hj]
theorem mclock3 (t : T3) (k c : Nat) : mclock (t.map toME) (k : Int) c = clk3 t k c := by
  unfold mclock clk3; rw [midx3]; rfl
theorem mdel3 (t : T3) (k : Nat) : mdel (t.map toME) (k : Int) = (del3 t k).map toME := by
  unfold mdel del3
  rw [midx3]
  cases t.findIdx? (fun e => e.1 == k) with
  | none => rfl
  | some i => exact eraseIdx_mapE toME t i
theorem mval3 (t : T3) (k : Nat) : mval (t.map toME) (k : Int) (.int .i64 0) = .int .i64 (cnt (kv t) k : Int) := by
  unfold mval mfind cnt kv
  induction t with
  | nil => rfl
  | cons e t ih =>
    simp only [List.map_cons, List.find?_cons]
    by_cases h : e.1 = k
    · subst h; simp [toME]
    · have h' : ((toME e).key == (k : Int)) = false := by simp [toME]; omega
      have hb : (e.1 == k) = false := by simpa using h
      rw [h', hb]
      exact ih

theorem cnt_append (a b : KV) (k : Nat) : cnt (a ++ b) k = if k ∈ keys a then cnt a k else cnt b k := by
  induction a with
  | nil => simp [keys]
  | cons p a ih =>
    rw [List.cons_append, cnt_cons, cnt_cons, ih]
    by_cases h : p.1 = k
    · subst h; simp [keys]
    · have h' : ¬ k = p.1 := fun e => h e.symm
      have : (k ∈ keys (p :: a)) ↔ k ∈ keys a := by simp [keys, h']
      simp only [this, if_neg h]
theorem kv_cons (e : Nat × Nat × Nat) (t : T3) : kv (e :: t) = (e.1, e.2.1) :: kv t := rfl
theorem kv_nil : kv [] = [] := rfl
theorem kv_append (a b : T3) : kv (a ++ b) = kv a ++ kv b := by simp [kv]
theorem tot_append (a b : KV) : tot (a ++ b) = tot a + tot b := by simp [tot]
theorem keys_append (a b : KV) : keys (a ++ b) = keys a ++ keys b := by simp [keys]
theorem keys_kv (t : T3) : keys (kv t) = t.map (·.1) := by simp [keys, kv]

theorem put3_cases (t : T3) (k n c : Nat) :
    (k ∉ keys (kv t) ∧ put3 t k n c = t ++ [(k, n, c)] ∧ clk3 t k c = c + 1 ∧ del3 t k = t) ∨
    (∃ t1 m b t2, t = t1 ++ (k, m, b) :: t2 ∧ put3 t k n c = t1 ++ (k, n, b) :: t2 ∧ clk3 t k c = c ∧ del3 t k = t1 ++ t2 ∧ k ∉ keys (kv t1)) := by
  unfold put3 clk3 del3
  induction t with
  | nil => left; simp [keys, kv]
  | cons e t ih =>
    by_cases h : e.1 = k
    · right
      obtain ⟨a, m, b⟩ := e
      simp only at h
      subst h
      exact ⟨[], m, b, t, rfl, by simp [List.findIdx?_cons], by simp [List.findIdx?_cons], by simp [List.findIdx?_cons], by simp [keys, kv]⟩
    · have hb : (e.1 == k) = false := by simpa using h
      have h' : ¬ k = e.1 := fun x => h x.symm
      rcases ih with ⟨h1, h2, h3, h4⟩ | ⟨t1, m, b, t2, h1, h2, h3, h4, h5⟩
      · left
        cases hf : t.findIdx? (fun e => e.1 == k) with
        | none => simp [List.findIdx?_cons, hb, hf, keys, kv, h']; simpa [keys, kv] using h1
        | some i => rw [hf] at h3; simp at h3
      · right
        refine ⟨e :: t1, m, b, t2, by rw [h1]; rfl, ?_⟩
        cases hf : t.findIdx? (fun e => e.1 == k) with
        | none => rw [hf] at h3; simp at h3
        | some i =>
          rw [hf] at h2 h4
          simp only at h2 h4
          have h5' : k ∉ keys (kv (e :: t1)) := by
            rw [keys_kv] at h5 ⊢
            simp only [List.map_cons, List.mem_cons, not_or]
            exact ⟨h', h5⟩
          refine ⟨?_, ?_, ?_, h5'⟩
          · simp [List.findIdx?_cons, hb, hf, h2]
          · simp [List.findIdx?_cons, hb, hf]
          · simp [List.findIdx?_cons, hb, hf, h4]

structure G3 (t : T3) (c : Nat) : Prop where
  wf : WF (kv t)
  born : (t.map (·.2.2)).Nodup
  clock : ∀ e ∈ t, e.2.2 < c
theorem G3.nil : G3 [] 0 := ⟨⟨by simp [keys, kv], by simp [kv]⟩, by simp, by simp⟩

theorem put3_cnt {t : T3} (k n c : Nat) (k' : Nat) : cnt (kv (put3 t k n c)) k' = if k' = k then n else cnt (kv t) k' := by
  rcases put3_cases t k n c with ⟨h1, h2, _, _⟩ | ⟨t1, m, b, t2, h1, h2, _, _, h5⟩
  · rw [h2, kv_append, cnt_append]
    by_cases h : k' = k
    · subst h; rw [if_neg h1, if_pos rfl, kv_cons, cnt_cons, if_pos rfl]
    · by_cases hk : k' ∈ keys (kv t)
      · simp [h, hk]
      · rw [if_neg hk, if_neg h, cnt_none hk, kv_cons, cnt_cons, if_neg (fun e => h e.symm), kv_nil, cnt_nil]
  · rw [h2, h1, kv_append, kv_append, cnt_append, cnt_append]
    by_cases h : k' = k
    · subst h; rw [if_neg h5, if_pos rfl, kv_cons, cnt_cons, if_pos rfl]
    · have h' : ¬ k = k' := fun e => h e.symm
      rw [if_neg h, kv_cons, kv_cons, cnt_cons, cnt_cons, if_neg h', if_neg h']
theorem del3_cnt {t : T3} (hn : (keys (kv t)).Nodup) (k : Nat) (k' : Nat) : cnt (kv (del3 t k)) k' = if k' = k then 0 else cnt (kv t) k' := by
  rcases put3_cases t k 0 0 with ⟨h1, _, _, h4⟩ | ⟨t1, m, b, t2, h1, _, _, h4, h5⟩
  · rw [h4]
    by_cases h : k' = k
    · subst h; simp [cnt_none h1]
    · simp [h]
  · rw [h4]
    have hn2 : k ∉ keys (kv t2) := by
      rw [h1, kv_append, keys_append] at hn
      have := (List.nodup_append.1 hn).2.1
      simp only [kv, List.map_cons, keys] at this
      exact (List.nodup_cons.1 this).1
    rw [h1, kv_append, kv_append, cnt_append, cnt_append]
    by_cases h : k' = k
    · subst h; rw [if_neg h5, if_pos rfl, cnt_none hn2]
    · have h' : ¬ k = k' := fun e => h e.symm
      rw [if_neg h, kv_cons, cnt_cons, if_neg h']
theorem put3_G {t : T3} {c : Nat} (h : G3 t c) (k : Nat) {n : Nat} (hn : 0 < n) : G3 (put3 t k n c) (clk3 t k c) := by
  rcases put3_cases t k n c with ⟨h1, h2, h3, _⟩ | ⟨t1, m, b, t2, h1, h2, h3, _, h5⟩
  · rw [h2, h3]
    refine ⟨⟨?_, ?_⟩, ?_, ?_⟩
    · rw [kv_append, keys_append, List.nodup_append]
      refine ⟨h.wf.nodup, by simp [kv, keys], ?_⟩
      intro a ha b hb
      simp [kv, keys] at hb
      subst hb
      exact fun e => h1 (e ▸ ha)
    · intro p hp
      rw [kv_append, List.mem_append] at hp
      rcases hp with hp | hp
      · exact h.wf.pos p hp
      · simp [kv] at hp; subst hp; exact hn
    · rw [List.map_append, List.nodup_append]
      refine ⟨h.born, by simp, ?_⟩
      intro a ha b hb
      obtain ⟨e, he, rfl⟩ := List.mem_map.1 ha
      simp at hb
      have := h.clock e he
      omega
    · intro e he
      rcases List.mem_append.1 he with he | he
      · have := h.clock e he; omega
      · simp at he; subst he; simp
  · rw [h2, h3]
    have ek : keys (kv (t1 ++ (k, n, b) :: t2)) = keys (kv t) := by rw [h1, keys_kv, keys_kv]; simp
    have eb : (t1 ++ (k, n, b) :: t2).map (·.2.2) = t.map (·.2.2) := by rw [h1]; simp
    refine ⟨⟨by rw [ek]; exact h.wf.nodup, ?_⟩, by rw [eb]; exact h.born, ?_⟩
    · intro p hp
      simp only [kv, List.map_append, List.map_cons, List.mem_append, List.mem_cons] at hp
      rcases hp with hp | hp | hp
      · exact h.wf.pos p (by rw [h1]; simp only [kv, List.map_append, List.mem_append]; exact .inl hp)
      · subst hp; exact hn
      · exact h.wf.pos p (by rw [h1]; simp only [kv, List.map_append, List.map_cons, List.mem_append, List.mem_cons]; exact .inr (.inr hp))
    · intro e he
      rcases List.mem_append.1 he with he | he
      · exact h.clock e (by rw [h1]; simp [he])
      · rcases List.mem_cons.1 he with he | he
        · subst he; exact h.clock (k, m, b) (by rw [h1]; simp)
        · exact h.clock e (by rw [h1]; simp [he])
theorem del3_sub (t : T3) (k : Nat) : (del3 t k).Sublist t := by
  rcases put3_cases t k 0 0 with ⟨_, _, _, h4⟩ | ⟨t1, m, b, t2, h1, _, _, h4, _⟩
  · rw [h4]; exact List.Sublist.refl _
  · rw [h4, h1]; exact List.Sublist.append_left (List.sublist_cons_self ..) _
theorem del3_G {t : T3} {c : Nat} (h : G3 t c) (k : Nat) : G3 (del3 t k) c := by
  have hs := del3_sub t k
  refine ⟨⟨?_, ?_⟩, ?_, fun e he => h.clock e (hs.subset he)⟩
  · have := h.wf.nodup
    rw [keys_kv] at this ⊢
    exact this.sublist (hs.map _)
  · intro p hp
    obtain ⟨e, he, rfl⟩ := List.mem_map.1 hp
    exact h.wf.pos _ (List.mem_map_of_mem (hs.subset he))
  · exact h.born.sublist (hs.map _)
theorem put3_tot (t : T3) (k n c : Nat) : tot (kv (put3 t k n c)) + cnt (kv t) k = tot (kv t) + n := by
  rcases put3_cases t k n c with ⟨h1, h2, _, _⟩ | ⟨t1, m, b, t2, h1, h2, _, _, h5⟩
  · rw [h2, kv_append, tot_append, cnt_none h1]; simp [kv, tot]
  · rw [h2, h1, kv_append, kv_append, tot_append, tot_append, cnt_append, if_neg h5]
    simp only [kv_cons, cnt_cons, if_true, tot_cons]; omega
theorem del3_tot {t : T3} (k : Nat) : tot (kv (del3 t k)) + cnt (kv t) k = tot (kv t) := by
  rcases put3_cases t k 0 0 with ⟨h1, _, _, h4⟩ | ⟨t1, m, b, t2, h1, _, _, h4, h5⟩
  · rw [h4, cnt_none h1]; omega
  · rw [h4, h1, kv_append, kv_append, tot_append, tot_append, cnt_append, if_neg h5]
    simp only [kv_cons, cnt_cons, if_true, tot_cons]; omega
end Go.Proofs.Ytjlmenmlpmfokaa.Ty
