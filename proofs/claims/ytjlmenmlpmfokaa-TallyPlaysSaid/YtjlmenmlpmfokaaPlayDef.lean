/- The state of a script's play: the tallies in pairs, the entries that came out. No condition. -/
import Derived.Test.YtjlmenmlpmfokaaOrd
namespace Go.Proofs.Ytjlmenmlpmfokaa
open Go Sx Fl Ty
set_option linter.unusedVariables false
set_option linter.unusedSimpArgs false

/-- A pair: the tally's struct and map, the document's struct, joined. -/
abbrev TB := Nat × Nat × Nat × Bool
def flatB (ts : List TB) : List Value := ts.flatMap fun x => [.pointer (some ⟨x.1, 0, none⟩), .pointer (some ⟨x.2.2.1, 0, none⟩)]
theorem flatB_append (a b : List TB) : flatB (a ++ b) = flatB a ++ flatB b := by simp [flatB]
theorem flatB_length (l : List TB) : (flatB l).length = l.length * 2 := by
  induction l with
  | nil => rfl
  | cons p l ih => show ([_, _] ++ flatB l).length = _; simp [ih]; omega
theorem flatB_get : ∀ (l : List TB) (i : Nat) (x : TB), l[i]? = some x → (flatB l)[i * 2]? = some (.pointer (some ⟨x.1, 0, none⟩)) ∧ (flatB l)[i * 2 + 1]? = some (.pointer (some ⟨x.2.2.1, 0, none⟩))
  | [], i, p, h => by simp at h
  | q :: l, 0, p, h => by
    simp at h; subst h; exact ⟨rfl, rfl⟩
  | q :: l, i + 1, p, h => by
    have := flatB_get l i p (by simpa using h)
    show ([_, _] ++ flatB l)[_]? = _ ∧ ([_, _] ++ flatB l)[_]? = _
    rw [show (i + 1) * 2 = i * 2 + 1 + 1 by omega]
    simpa using this
theorem flatB_one (l : List TB) : ∀ v ∈ flatB l, v.oneCell' = true := by
  intro v hv
  simp only [flatB, List.mem_flatMap, List.mem_cons, List.not_mem_nil, or_false] at hv
  obtain ⟨p, _, rfl | rfl⟩ := hv <;> rfl
/-- A pair in a world: both count alike; all of it at m or behind. -/
def Pair (m : Nat) (w : World) (x : TB) : Prop := ∃ t c v l, TallyP w x.1 x.2.1 x.2.2.2 t c ∧ RefP w x.2.2.1 v x.2.2.2 l ∧ (∀ k, cnt l k = cnt (kv t) k) ∧ m ≤ x.1 ∧ m ≤ x.2.1 ∧ m ≤ x.2.2.1
/-- A block that is none of the tallies'. -/
def Alien (w : World) (y : Nat) : Prop := w.heap.size ≤ y ∨ ∃ cs T fr, w.heap[y]? = some (.cells cs T fr) ∧ T ≠ 64 ∧ T ≠ 70 ∧ T ≠ 73
theorem row_obj {w : World} {e sz : Nat} {v : Value} {m : Nat} {xs : List Value} (h : w.ownsRow 0 e sz v m xs) {g : Nat} (hg : v.ownBlock = some g) : ∃ cs fr, w.heap[g]? = some (.cells cs e fr) := by
  rcases h.2 with ⟨rfl, _⟩ | ⟨g', cap, cur, rfl, _, a2, _⟩
  · cases hg
  · cases hg; exact ⟨_, _, a2⟩
theorem alien_row {w : World} {e sz : Nat} {v : Value} {m : Nat} {xs : List Value} (h : w.ownsRow 0 e sz v m xs) (h1 : e ≠ 64 ∧ e ≠ 70 ∧ e ≠ 73) : ∀ g ∈ v.ownBlock.toList, Alien w g := fun g hg => by
  obtain ⟨cs, fr, ho⟩ := row_obj h (by simpa using hg)
  exact .inr ⟨cs, e, fr, ho, h1⟩
theorem Pair.keep {m : Nat} {w w' : World} {T : List Nat} {x : TB} (h : Pair m w x) (hc : Chg T w w') (hT : ∀ y ∈ T, Alien w y) : Pair m w' x := by
  obtain ⟨t, c, v, l, h1, h2, h3, h4⟩ := h
  have n1 : x.1 ∉ T := fun hm => by
    rcases hT _ hm with a | ⟨cs, T', fr, ho, a, _⟩
    · have := lt_of_heap h1.cell; omega
    · rw [h1.cell] at ho; injection ho with ho; injection ho with _ hh; exact a hh.symm
  have n2 : x.2.1 ∉ T := fun hm => by
    rcases hT _ hm with a | ⟨cs, T', fr, ho, a, _⟩
    · have := lt_of_heap h1.map; omega
    · rw [h1.map] at ho; injection ho with ho; cases ho
  have n3 : x.2.2.1 ∉ T := fun hm => by
    rcases hT _ hm with a | ⟨cs, T', fr, ho, _, a, _⟩
    · have := lt_of_heap h2.cell; omega
    · rw [h2.cell] at ho; injection ho with ho; injection ho with _ hh; exact a hh.symm
  have n4 : ∀ y, v.ownBlock = some y → y ∉ T := fun y hy hm => by
    obtain ⟨cs', fr', ho'⟩ := row_obj h2.own hy
    rcases hT _ hm with a | ⟨cs, T', fr, ho, _, _, a⟩
    · have := lt_of_heap ho'; omega
    · rw [ho'] at ho; injection ho with ho; injection ho with _ hh; exact a hh.symm
  exact ⟨t, c, v, l, h1.keep hc n1 n2, h2.keep hc n3 n4, h3, h4⟩
/-- Another pair keeps, where a pair's own memory turns. -/
theorem Pair.keepA {m : Nat} {w w' : World} {x y : TB} (h : Pair m w x) (k : Pair m w y) (n1 : x.1 ≠ y.1) (n2 : x.2.1 ≠ y.2.1) (hc : Chg [y.1, y.2.1] w w') : Pair m w' x := by
  obtain ⟨t, c, v, l, h1, h2, h3, h4⟩ := h
  obtain ⟨t2, c2, v2, l2, k1, k2, k3, k4⟩ := k
  have a1 : x.1 ≠ y.2.1 := fun e => by have := h1.cell; rw [e, k1.map] at this; cases this
  have a2 : x.2.1 ≠ y.1 := fun e => by have := h1.map; rw [e, k1.cell] at this; cases this
  have a3 : x.2.2.1 ≠ y.1 := fun e => by have := h2.cell; rw [e, k1.cell] at this; injection this with this; injection this with _ hh; revert hh; decide
  have a4 : x.2.2.1 ≠ y.2.1 := fun e => by have := h2.cell; rw [e, k1.map] at this; cases this
  refine ⟨t, c, v, l, h1.keep hc (by simp [n1, a1]) (by simp [n2, a2]), h2.keep hc (by simp [a3, a4]) (fun g hg hm => ?_), h3, h4⟩
  obtain ⟨cs', fr', ho'⟩ := row_obj h2.own hg
  simp only [List.mem_cons, List.not_mem_nil, or_false] at hm
  rcases hm with rfl | rfl
  · rw [k1.cell] at ho'; injection ho' with ho'; injection ho' with _ hh; revert hh; decide
  · rw [k1.map] at ho'; cases ho'
theorem Pair.keepB {m : Nat} {w w' : World} {x y : TB} (h : Pair m w x) (k : Pair m w y) (n1 : x.2.2.1 ≠ y.2.2.1) (hc : Chg [y.2.2.1] w w') : Pair m w' x := by
  obtain ⟨t, c, v, l, h1, h2, h3, h4⟩ := h
  obtain ⟨t2, c2, v2, l2, k1, k2, k3, k4⟩ := k
  have a1 : x.1 ≠ y.2.2.1 := fun e => by have := h1.cell; rw [e, k2.cell] at this; injection this with this; injection this with _ hh; revert hh; decide
  have a2 : x.2.1 ≠ y.2.2.1 := fun e => by have := h1.map; rw [e, k2.cell] at this; cases this
  refine ⟨t, c, v, l, h1.keep hc (by simp [a1]) (by simp [a2]), h2.keep hc (by simp [n1]) (fun g hg hm => ?_), h3, h4⟩
  obtain ⟨cs', fr', ho'⟩ := row_obj h2.own hg
  simp only [List.mem_cons, List.not_mem_nil, or_false] at hm
  subst hm
  rw [k2.cell] at ho'; injection ho' with ho'; injection ho' with _ hh; revert hh; decide
/-- The play's struct and its three rows. -/
structure PB (m : Nat) (w : World) (pp : Nat) (vl vc vw : Value) (ts : List TB) (cv wv : List Value) : Prop where
  cell : w.heap[pp]? = some (.cells [vl, vc, vw].toArray 28 (0, 0))
  ol : w.ownsRow 0 37 2 vl ts.length (flatB ts)
  oc : w.ownsRow 0 45 1 vc cv.length cv
  ow : w.ownsRow 0 45 1 vw wv.length wv
  cw : ∀ x, vc.ownBlock = some x → vw.ownBlock ≠ some x
  pr : ∀ x ∈ ts, Pair m w x
  nb : (ts.map (·.1)).Nodup
  nr : (ts.map (·.2.1)).Nodup
  nd : (ts.map (·.2.2.1)).Nodup
  mp : m ≤ pp
  ml : ∀ x, vl.ownBlock = some x → m ≤ x
  mc : ∀ x, vc.ownBlock = some x → m ≤ x
  mw : ∀ x, vw.ownBlock = some x → m ≤ x
/-- The entries that came out, and what they are to be. -/
structure CM (m : Nat) (w : World) (cv wv : List Value) (cs : List KV) : Prop where
  lc : cv.length = cs.length
  lw : wv.length = cs.length
  oc : ∀ (i : Nat) (v : Value) (l : KV), cv[i]? = some v → cs[i]? = some l → w.ownsRow 0 50 2 v l.length (flatE l)
  ow : ∀ (i : Nat) (v : Value) (l : KV), wv[i]? = some v → cs[i]? = some l → w.ownsRow 0 50 2 v l.length (flatE l)
  len : ∀ l ∈ cs, l.length ≤ 1099511627776
  ne : ∀ (i j : Nat) (v u : Value) (x : Nat), cv[i]? = some v → cv[j]? = some u → v.ownBlock = some x → u.ownBlock = some x → i = j
  fr : ∀ v ∈ cv, ∀ x, v.ownBlock = some x → m ≤ x
/-- Blocks that are not rows of entries. -/
theorem CM.keep {m : Nat} {w w' : World} {T : List Nat} {cv wv : List Value} {cs : List KV} (h : CM m w cv wv cs) (hc : Chg T w w') (hT : ∀ y ∈ T, w.heap.size ≤ y ∨ ∀ cs fr, w.heap[y]? ≠ some (.cells cs 50 fr)) : CM m w' cv wv cs := by
  have key : ∀ v n xs, w.ownsRow 0 50 2 v n xs → w'.ownsRow 0 50 2 v n xs := fun v n xs ho => by
    refine own_keep ho hc fun g hg hm => ?_
    obtain ⟨cs', fr', ho'⟩ := row_obj ho hg
    rcases hT g hm with a | a
    · have := lt_of_heap ho'; omega
    · exact a _ _ ho'
  exact ⟨h.lc, h.lw, fun i v l a b => key _ _ _ (h.oc i v l a b), fun i v l a b => key _ _ _ (h.ow i v l a b), h.len, h.ne, h.fr⟩
theorem oneCell_of_own {w : World} {e sz : Nat} {v : Value} {m : Nat} {xs : List Value} (h : w.ownsRow 0 e sz v m xs) : v.oneCell' = true := by
  obtain ⟨a, cap, rfl⟩ := own_form h; rfl
end Go.Proofs.Ytjlmenmlpmfokaa
