/- A tally told by its counts alone. No condition. -/
import Derived.Test.YtjlmenmlpmfokaaLaw
namespace Go.Proofs.Ytjlmenmlpmfokaa
open Go Sx Fl Ty
set_option linter.unusedVariables false
set_option linter.unusedSimpArgs false

/-- A tally that counts f, n in all. -/
def TC (w : World) (b r : Nat) (j : Bool) (f : Nat → Nat) (n : Nat) : Prop := ∃ t c, TallyP w b r j t c ∧ (∀ k, cnt (kv t) k = f k) ∧ tot (kv t) = n
theorem TC.keep {w w' : World} {T : List Nat} {b r : Nat} {j : Bool} {f : Nat → Nat} {n : Nat} (h : TC w b r j f n) (hc : Chg T w w') (hb : b ∉ T) (hr : r ∉ T) : TC w' b r j f n := by
  obtain ⟨t, c, h1, h2, h3⟩ := h
  exact ⟨t, c, h1.keep hc hb hr, h2, h3⟩
theorem TC.congr {w : World} {b r : Nat} {j : Bool} {f g : Nat → Nat} {n m : Nat} (h : TC w b r j f n) (hf : ∀ k, f k = g k) (hn : n = m) : TC w b r j g m := by
  obtain ⟨t, c, h1, h2, h3⟩ := h
  exact ⟨t, c, h1, fun k => (h2 k).trans (hf k), h3.trans hn⟩
theorem TC.lt {w : World} {b r : Nat} {j : Bool} {f : Nat → Nat} {n : Nat} (h : TC w b r j f n) : b < w.heap.size ∧ r < w.heap.size ∧ n ≤ 1099511627776 := by
  obtain ⟨t, c, h1, h2, h3⟩ := h
  exact ⟨lt_of_heap h1.cell, lt_of_heap h1.map, by rw [← h3]; exact h1.small⟩
/-- The sorted list of the counts f. -/
structure SL (l : KV) (f : Nat → Nat) : Prop where
  srt : Srt l
  pos : ∀ p ∈ l, 0 < p.2
  cnt : ∀ k, Ty.cnt l k = f k
theorem SL.uniq {l m : KV} {f : Nat → Nat} (h : SL l f) (k : SL m f) : l = m := srt_ext h.srt k.srt h.pos k.pos fun x => (h.cnt x).trans (k.cnt x).symm
theorem SL.wf {l : KV} {f : Nat → Nat} (h : SL l f) : WF l := ⟨h.srt.keys, h.pos⟩
theorem SL.of_perm {l : KV} {w : World} {b r : Nat} {j : Bool} {t : T3} {c : Nat} {f : Nat → Nat} (h : TallyP w b r j t c) (hf : ∀ k, Ty.cnt (kv t) k = f k) (hs : Srt l) (hp : l.Perm (kv t)) : SL l f :=
  ⟨hs, fun p hp' => h.g.wf.pos p (hp.mem_iff.1 hp'), fun k => by rw [← hf k]; first | exact cnt_perm h.g.wf.nodup hp k | exact (cnt_perm h.g.wf.nodup hp.symm k).symm⟩
theorem SL.perm {l : KV} {w : World} {b r : Nat} {j : Bool} {t : T3} {c : Nat} {f : Nat → Nat} (h : TallyP w b r j t c) (hf : ∀ k, Ty.cnt (kv t) k = f k) (hl : SL l f) : l.Perm (kv t) :=
  perm_of_cnt hl.wf h.g.wf fun k => (hl.cnt k).trans (hf k).symm
theorem TC.tot {w : World} {b r : Nat} {j : Bool} {f : Nat → Nat} {n : Nat} {l : KV} (h : TC w b r j f n) (hl : SL l f) : Ty.tot l = n := by
  obtain ⟨t, c, h1, h2, h3⟩ := h
  rw [tot_perm (hl.perm h1 h2), h3]
theorem TC.ok {w : World} {b r : Nat} {j : Bool} {f : Nat → Nat} {n : Nat} {l : KV} (h : TC w b r j f n) (hl : SL l f) : ∀ p ∈ l, KeyOK j p.1 := by
  obtain ⟨t, c, h1, h2, h3⟩ := h
  exact fun p hp => h1.ok p ((hl.perm h1 h2).mem_iff.1 hp)
theorem TC.list {w : World} {b r : Nat} {j : Bool} {f : Nat → Nat} {n : Nat} (h : TC w b r j f n) : ∃ l : KV, WF l ∧ (∀ k, Ty.cnt l k = f k) ∧ Ty.tot l = n ∧ ∀ p ∈ l, KeyOK j p.1 := by
  obtain ⟨t, c, h1, h2, h3⟩ := h
  exact ⟨kv t, h1.g.wf, h2, h3, h1.ok⟩
/-- A list of keys adds to each key its own count. -/
theorem msum_ok {j : Bool} {l : KV} (hn : (keys l).Nodup) (h : ∀ p ∈ l, cval j p.1 = p.1) (k : Nat) : msum j l k = cnt l k := by
  induction l with
  | nil => rfl
  | cons p l ih =>
    have h1 := ih (by simp only [keys, List.map_cons, List.nodup_cons] at hn; exact hn.2) (fun q hq => h q (List.mem_cons_of_mem _ hq))
    have hk : p.1 ∉ keys l := by simp only [keys, List.map_cons, List.nodup_cons] at hn; exact hn.1
    have e : msum j (p :: l) k = (if cval j p.1 = k then p.2 else 0) + msum j l k := by simp [msum]
    rw [e, h1, h p (List.mem_cons_self ..), cnt_cons]
    split
    · rename_i hh; rw [← hh, cnt_none hk]; rfl
    · rw [Nat.zero_add]
theorem msum_cnt {j : Bool} {l m : KV} (hl : WF l) (hm : WF m) (h : ∀ k, cnt l k = cnt m k) (k : Nat) : msum j l k = msum j m k := msum_perm (perm_of_cnt hl hm h) k
theorem tc_New (j : Bool) (w : World) : Ret Try.prog 9 [.bool j] w fun v w' => ∃ b r, v = .pointer (some ⟨b, 0, none⟩) ∧ w.heap.size ≤ b ∧ w.heap.size ≤ r ∧ Chg [] w w' ∧ TC w' b r j (fun _ => 0) 0 :=
  (tally_New_spec j w).mono fun v w' ⟨b, r, h1, h2, h3, h4, h5⟩ => ⟨b, r, h1, h2, h3, h4, [], 0, h5, fun k => rfl, rfl⟩
theorem tc_Add {b r x : Nat} {j : Bool} {f : Nat → Nat} {n : Nat} {w : World} (hx : x < 18446744073709551616) (hn : n < 1099511627776) (h : TC w b r j f n) : Ret Try.prog 10 [.pointer (some ⟨b, 0, none⟩), .float .f64 x] w fun v w' =>
    v = .int .i64 0 ∧ Chg [b, r] w w' ∧ TC w' b r j (fun k => if k = cval j x then f k + 1 else f k) (n + 1) := by
  obtain ⟨t, c, h1, h2, h3⟩ := h
  refine (tally_Tally_Add_spec b r x hx j t c w h1).mono fun v w' hh => ?_
  rcases hh with ⟨e, _⟩ | ⟨_, e, hc, ht⟩
  · omega
  · refine ⟨e, hc, _, _, ht, fun k => ?_, ?_⟩
    · rw [put3_cnt]
      show _ = if k = cval j x then f k + 1 else f k
      split
      · rename_i hk; subst hk; rw [h2]
      · exact h2 k
    · have := put3_tot t (cval j x) (Ty.cnt (kv t) (cval j x) + 1) c
      omega
theorem tc_Take {b r x : Nat} {j : Bool} {f : Nat → Nat} {n : Nat} {w : World} (hx : x < 18446744073709551616) (hf : 0 < f (cval j x)) (h : TC w b r j f n) : Ret Try.prog 12 [.pointer (some ⟨b, 0, none⟩), .float .f64 x] w fun v w' =>
    v = .bool true ∧ Chg [b, r] w w' ∧ TC w' b r j (fun k => if k = cval j x then f k - 1 else f k) (n - 1) := by
  obtain ⟨t, c, h1, h2, h3⟩ := h
  have hpos : 0 < Ty.cnt (kv t) (cval j x) := by rw [h2]; exact hf
  refine (tally_Tally_Take_spec b r x hx j t c w h1).mono fun v w' hh => ?_
  rcases hh with ⟨e, _⟩ | ⟨_, e, hc, ht⟩
  · omega
  · refine ⟨e, hc, _, _, ht, fun k => ?_, ?_⟩
    · rw [tk3_cnt h1.g _ hpos]
      show _ = if k = cval j x then f k - 1 else f k
      split
      · rename_i hk; subst hk; rw [h2]
      · exact h2 k
    · have := tk3_tot (c := c) _ hpos
      omega
theorem tc_Merge {b r b2 r2 : Nat} {j j2 : Bool} {f f2 : Nat → Nat} {n n2 : Nat} {l2 : KV} {w : World} (h : TC w b r j f n) (h2 : TC w b2 r2 j2 f2 n2) (hl : WF l2) (hlc : ∀ k, cnt l2 k = f2 k) (hb : b ≠ b2) (hr : r ≠ r2) (hx1 : b ≠ r2) (hx2 : r ≠ b2) :
    Ret Try.prog 11 [.pointer (some ⟨b, 0, none⟩), .pointer (some ⟨b2, 0, none⟩)] w fun v w' => (1099511627776 < n + n2 ∧ v = .int .i64 2 ∧ Chg [] w w') ∨ (n + n2 ≤ 1099511627776 ∧ v = .int .i64 0 ∧ Chg [b, r] w w' ∧ TC w' b r j (fun k => f k + msum j l2 k) (n + n2)) := by
  obtain ⟨t, c, h1, e1, e3⟩ := h
  obtain ⟨t2, c2, g1, g2, g3⟩ := h2
  refine (Merge_other b r b2 r2 j j2 t t2 c c2 w h1 g1 hb hr hx1 hx2).mono fun v w' hh => ?_
  rw [e3, g3] at hh
  rcases hh with hh | ⟨a1, a2, a3, t', c', a4, a5, a6⟩
  · exact .inl hh
  · refine .inr ⟨a1, a2, a3, t', c', a4, fun k => ?_, a6⟩
    rw [a5, e1, msum_cnt g1.g.wf hl fun k => (g2 k).trans (hlc k).symm]
theorem tc_Twice {b r : Nat} {j : Bool} {f : Nat → Nat} {n : Nat} {w : World} (h : TC w b r j f n) :
    Ret Try.prog 11 [.pointer (some ⟨b, 0, none⟩), .pointer (some ⟨b, 0, none⟩)] w fun v w' => (1099511627776 < n + n ∧ v = .int .i64 2 ∧ Chg [] w w') ∨ (n + n ≤ 1099511627776 ∧ v = .int .i64 0 ∧ Chg [b, r] w w' ∧ TC w' b r j (fun k => 2 * f k) (2 * n)) := by
  obtain ⟨t, c, h1, e1, e3⟩ := h
  refine (Merge_self b r j t c w h1).mono fun v w' hh => ?_
  rw [e3] at hh
  rcases hh with hh | ⟨a1, a2, a3, t', c', a4, a5, a6⟩
  · exact .inl hh
  · exact .inr ⟨a1, a2, a3, t', c', a4, fun k => by rw [a5, e1], a6⟩
theorem tc_All {b r : Nat} {j : Bool} {f : Nat → Nat} {n : Nat} {w : World} (h : TC w b r j f n) : Ret Try.prog 15 [.pointer (some ⟨b, 0, none⟩)] w fun v w' => v = .int .i64 (n : Int) ∧ w = w' := by
  obtain ⟨t, c, h1, h2, rfl⟩ := h
  exact tally_Tally_All_spec b r j t c w h1
theorem tc_Unlike {b r : Nat} {j : Bool} {f : Nat → Nat} {n : Nat} {l : KV} {w : World} (h : TC w b r j f n) (hl : SL l f) : Ret Try.prog 19 [.pointer (some ⟨b, 0, none⟩)] w fun v w' => v = .int .i64 (l.length : Int) ∧ w = w' := by
  obtain ⟨t, c, h1, h2, h3⟩ := h
  rw [(hl.perm h1 h2).length_eq]
  exact tally_Tally_Unlike_spec b r j t c w h1
theorem tc_Count {b r x : Nat} {j : Bool} {f : Nat → Nat} {n : Nat} {w : World} (hx : x < 18446744073709551616) (h : TC w b r j f n) : Ret Try.prog 18 [.pointer (some ⟨b, 0, none⟩), .float .f64 x] w fun v w' => v = .int .i64 (f (cval j x) : Int) ∧ w.drew = w' := by
  obtain ⟨t, c, h1, h2, h3⟩ := h
  rw [← h2]
  exact tally_Tally_Count_spec b r x hx j t c w h1
theorem tc_Entries {b r : Nat} {j : Bool} {f : Nat → Nat} {n : Nat} {w : World} (h : TC w b r j f n) : Ret Try.prog 13 [.pointer (some ⟨b, 0, none⟩)] w fun v w' =>
    ∃ l : KV, SL l f ∧ w'.ownsRow 0 50 2 v l.length (flatE l) ∧ Chg [] w w' ∧ ∀ x, v.ownBlock = some x → w.heap.size ≤ x := by
  obtain ⟨t, c, h1, h2, h3⟩ := h
  refine (tally_Tally_Entries_spec b r j _ t c w h1.q).mono fun v w' ⟨l, a1, a2, a3, a4, a5⟩ => ⟨l, SL.of_perm h1 h2 a1 a2, a3, a4, a5⟩
theorem tc_Often {b r : Nat} {j : Bool} {f : Nat → Nat} {n : Nat} {l : KV} {w : World} (h : TC w b r j f n) (hl : SL l f) : Ret Try.prog 21 [.pointer (some ⟨b, 0, none⟩)] w fun v w' =>
    v = .tuple [.agg [.float .f64 (best l).1, .int .i64 ((best l).2 : Int)].toArray, .bool (decide (0 < (best l).2))].toArray ∧ Chg [] w w' := by
  obtain ⟨t, c, h1, h2, h3⟩ := h
  refine (tally_Tally_Often_spec b r j t c w h1).mono fun v w' ⟨l', a1, a2, a3, a4⟩ => ⟨?_, a4⟩
  rw [(SL.of_perm h1 h2 a1 a2).uniq hl] at a3
  exact a3
/-- How often a key is met in a list of numbers. -/
def occ (j : Bool) (fs : List Nat) (k : Nat) : Nat := fs.countP fun x => decide (cval j x = k)
theorem occ_nil (j : Bool) (k : Nat) : occ j [] k = 0 := rfl
theorem occ_append (j : Bool) (a b : List Nat) (k : Nat) : occ j (a ++ b) k = occ j a k + occ j b k := by simp [occ]
theorem occ_one (j : Bool) (x k : Nat) : occ j [x] k = if k = cval j x then 1 else 0 := by
  unfold occ
  rw [List.countP_singleton]
  by_cases h : k = cval j x
  · rw [if_pos h, if_pos (by simp [h])]
  · rw [if_neg h, if_neg (by simp; exact fun e => h e.symm)]
theorem takeN {l : List Nat} {i x : Nat} (h : l[i]? = some x) : l.take (i + 1) = l.take i ++ [x] := by
  have hlt : i < l.length := by
    by_cases y : i < l.length
    · exact y
    · rw [List.getElem?_eq_none (by omega)] at h; cases h
  rw [List.take_succ_eq_append_getElem hlt]
  rw [List.getElem?_eq_getElem hlt] at h
  cases h; rfl
theorem occ_step {j : Bool} {l : List Nat} {i x : Nat} (h : l[i]? = some x) (k : Nat) : (if k = cval j x then occ j (l.take i) k + 1 else occ j (l.take i) k) = occ j (l.take (i + 1)) k := by
  rw [takeN h, occ_append, occ_one]
  split <;> rfl
end Go.Proofs.Ytjlmenmlpmfokaa
