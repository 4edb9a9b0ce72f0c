/- How the loops of owned go. No condition. -/
import Derived.Test.YtjlmenmlpmfokaaOwnedDef2
namespace Go.Proofs.Ytjlmenmlpmfokaa
open Go Sx Fl Ty
set_option linter.unusedVariables false
set_option linter.unusedSimpArgs false

/-- What all the loops keep: the play; the rows from number i on; the slices that were put by (AL), told apart from those rows. -/
structure OW (m : Nat) (w : World) (pp : Nat) (vl vc vw : Value) (ts : List TB) (cv wv : List Value) (cs : List KV) (i : Nat) (va : Value) (AL : List Value) (wr : World) : Prop where
  pb : PB m wr pp vl vc vw ts cv wv
  rows : ∀ (j : Nat) (v : Value) (l : KV), i ≤ j → cv[j]? = some v → cs[j]? = some l → wr.ownsRow 0 50 2 v l.length (flatE l)
  al : wr.ownsRow 0 45 1 va AL.length AL
  fu : ∀ (t : Nat) (v : Value), AL[t]? = some v → Full wr v (t / 4)
  ok : ∀ (t : Nat) (v : Value) (z : Nat), AL[t]? = some v → v.ownBlock = some z → ∃ cs fr, wr.heap[z]? = some (.cells cs 50 fr)
  ds : ∀ (t j : Nat) (v u : Value) (z : Nat), AL[t]? = some v → i ≤ j → cv[j]? = some u → v.ownBlock = some z → u.ownBlock ≠ some z
  fr : ∀ z, va.ownBlock = some z → w.heap.size ≤ z
  bel : RowKit.Below m w wr
  sm : m ≤ w.heap.size
/-- A change of one row's block of entries, or of nothing that was there, that is none of those told. -/
theorem OW.keep {m : Nat} {w : World} {pp : Nat} {vl vc vw : Value} {ts : List TB} {cv wv : List Value} {cs : List KV} {i i' : Nat} {va : Value} {AL : List Value} {wr w' : World} {T : List Nat} (h : OW m w pp vl vc vw ts cv wv cs i va AL wr) (hii : i ≤ i') (hc : Chg T wr w')
    (hT : ∀ y ∈ T, m ≤ y ∧ ∃ cs fr, wr.heap[y]? = some (.cells cs 50 fr)) (hr : ∀ y ∈ T, ∀ (j : Nat) (u : Value), i' ≤ j → cv[j]? = some u → u.ownBlock ≠ some y) (ha : ∀ y ∈ T, ∀ (t : Nat) (v : Value), AL[t]? = some v → v.ownBlock ≠ some y) : OW m w pp vl vc vw ts cv wv cs i' va AL w' := by
  refine ⟨h.pb.keepE hc fun y hy => .inr (hT y hy).2, fun j v l hj hv hl => own_keep (h.rows j v l (by omega) hv hl) hc fun g hg hm => hr g hm j v hj hv hg, own_keep h.al hc fun g hg hm => ?_, fun t v hv => (h.fu t v hv).keep hc fun z hz hm => ha z hm t v hv hz, fun t v z hv hz => ?_, fun t j v u z hv hj => h.ds t j v u z hv (by omega), h.fr, h.bel.trans (below_chg hc (fun y hy => (hT y hy).1) ?_), h.sm⟩
  · obtain ⟨cs', fr', ho'⟩ := row_obj h.al hg
    obtain ⟨_, cs2, fr2, ho2⟩ := hT g hm
    exact obj_ne ho' ho2 (by decide) rfl
  · obtain ⟨cs', fr', ho'⟩ := h.ok t v z hv hz
    exact ⟨cs', fr', hc.heap ho' fun hm => ha z hm t v hv hz⟩
  · have := h.bel.size; have := h.pb.mp; have := lt_of_heap h.pb.cell; omega
theorem OW.keep0 {m : Nat} {w : World} {pp : Nat} {vl vc vw : Value} {ts : List TB} {cv wv : List Value} {cs : List KV} {i i' : Nat} {va : Value} {AL : List Value} {wr w' : World} (h : OW m w pp vl vc vw ts cv wv cs i va AL wr) (hii : i ≤ i') (hc : Chg [] wr w') : OW m w pp vl vc vw ts cv wv cs i' va AL w' :=
  h.keep hii hc (by simp) (by simp) (by simp)
theorem getElem?_append_some {α : Type} {A B : List α} {i : Nat} {x : α} (h : A[i]? = some x) : (A ++ B)[i]? = some x := by
  rw [List.getElem?_append_left (by
    by_cases hl : i < A.length
    · exact hl
    · rw [List.getElem?_eq_none (by omega)] at h; cases h)]
  exact h
theorem appendAt {α : Type} {A : List α} {a u : α} {i : Nat} (hu : (A ++ [a])[i]? = some u) : (i < A.length ∧ A[i]? = some u) ∨ (i = A.length ∧ u = a) := by
  by_cases hi : i < A.length
  · rw [List.getElem?_append_left hi] at hu; exact .inl ⟨hi, hu⟩
  · rw [List.getElem?_append_right (by omega)] at hu
    have : i - A.length = 0 := by
      by_cases e : i - A.length = 0
      · exact e
      · rw [List.getElem?_eq_none (by simp; omega)] at hu; cases hu
    rw [this] at hu
    simp at hu
    exact .inr ⟨by omega, hu.symm⟩
/-- Where blocks turn that are none of the play's. -/
theorem PB.keepT {m : Nat} {w w' : World} {T : List Nat} {pp : Nat} {vl vc vw : Value} {ts : List TB} {cv wv : List Value} (h : PB m w pp vl vc vw ts cv wv) (hc : Chg T w w') (hT : ∀ y ∈ T, Alien w y) (hp : pp ∉ T) (hl : ∀ g, vl.ownBlock = some g → g ∉ T) (hcv : ∀ g, vc.ownBlock = some g → g ∉ T) (hwv : ∀ g, vw.ownBlock = some g → g ∉ T) : PB m w' pp vl vc vw ts cv wv :=
  ⟨hc.heap h.cell hp, own_keep h.ol hc hl, own_keep h.oc hc hcv, own_keep h.ow hc hwv, h.cw, fun x hx => (h.pr x hx).keep hc hT, h.nb, h.nr, h.nd, h.mp, h.ml, h.mc, h.mw⟩
/-- One slice more is put by. -/
theorem OW.put {m : Nat} {w : World} {pp : Nat} {vl vc vw : Value} {ts : List TB} {cv wv : List Value} {cs : List KV} {i : Nat} {va va' x : Value} {AL : List Value} {wr w' : World} (h : OW m w pp vl vc vw ts cv wv cs i va AL wr) (h0 : PB m w pp vl vc vw ts cv wv) (hc : Chg va.ownBlock.toList wr w') (ho : w'.ownsRow 0 45 1 va' (AL.length + 1) (AL ++ [x])) (hl : va'.ownBlock = va.ownBlock ∨ va'.ownBlock = some wr.heap.size)
    (hf : Full wr x (AL.length / 4)) (hk : ∀ z, x.ownBlock = some z → ∃ cs fr, wr.heap[z]? = some (.cells cs 50 fr)) (hd : ∀ (j : Nat) (u : Value) (z : Nat), i ≤ j → cv[j]? = some u → x.ownBlock = some z → u.ownBlock ≠ some z) : OW m w pp vl vc vw ts cv wv cs i va' (AL ++ [x]) w' := by
  have kind : ∀ y ∈ va.ownBlock.toList, ∃ cs fr, wr.heap[y]? = some (.cells cs 45 fr) := fun y hy => row_obj h.al (by simpa using hy)
  have hge : ∀ y ∈ va.ownBlock.toList, w.heap.size ≤ y := fun y hy => h.fr y (by simpa using hy)
  have notE : ∀ y, (∃ cs fr, wr.heap[y]? = some (.cells cs 50 fr)) → y ∉ va.ownBlock.toList := fun y ⟨cs, fr, a⟩ hm => by
    obtain ⟨cs', fr', a'⟩ := kind y hm
    exact obj_ne a a' (by decide) rfl
  refine ⟨h.pb.keepT hc (fun y hy => ?_) (fun hm => ?_) (fun g hg hm => ?_) (fun g hg hm => ?_) (fun g hg hm => ?_), fun j v l hj hv hl' => own_keep (h.rows j v l hj hv hl') hc fun g hg hm => notE g (row_obj (h.rows j v l hj hv hl') hg) hm, by simpa using ho, fun t v hv => ?_, fun t v z hv hz => ?_, fun t j v u z hv hj hu hz => ?_, fun z hz => ?_, h.bel.trans (below_chg hc (fun y hy => ?_) ?_), h.sm⟩
  · obtain ⟨cs', fr', a⟩ := kind y hy
    exact .inr ⟨cs', _, fr', a, by decide, by decide, by decide⟩
  · have := hge pp hm; have := lt_of_heap h0.cell; omega
  · have := hge g hm; have := own_lt h0.ol hg; omega
  · have := hge g hm; have := own_lt h0.oc hg; omega
  · have := hge g hm; have := own_lt h0.ow hg; omega
  · rcases appendAt hv with ⟨_, a⟩ | ⟨rfl, rfl⟩
    · exact (h.fu t v a).keep hc fun z hz => notE z (h.ok t v z a hz)
    · exact hf.keep hc fun z hz => notE z (hk z hz)
  · rcases appendAt hv with ⟨_, a⟩ | ⟨rfl, rfl⟩
    · obtain ⟨cs', fr', b⟩ := h.ok t v z a hz
      exact ⟨cs', fr', hc.heap b (notE z ⟨_, _, b⟩)⟩
    · obtain ⟨cs', fr', b⟩ := hk z hz
      exact ⟨cs', fr', hc.heap b (notE z ⟨_, _, b⟩)⟩
  · rcases appendAt hv with ⟨_, a⟩ | ⟨rfl, rfl⟩
    · exact h.ds t j v u z a hj hu hz
    · exact hd j u z hj hu hz
  · rcases hl with e | e
    · exact h.fr z (by rw [← e]; exact hz)
    · rw [e] at hz; cases hz
      have a := h.bel.size
      have := h.sm
      exact a
  · have := hge y hy; have := h.sm; omega
  · have := h.bel.size; have := h.sm; omega
/-- The owner's own slice grows in place. -/
theorem OW.grow {m : Nat} {w : World} {pp : Nat} {vl vc vw : Value} {ts : List TB} {cv wv : List Value} {cs : List KV} {i n : Nat} {va x x' : Value} {AL xs : List Value} {wr w' : World} (h : OW m w pp vl vc vw ts cv wv cs (i + 1) va AL wr) (hc : Chg x.ownBlock.toList wr w')
    (hxo : wr.ownsRow 0 50 2 x n xs) (hx' : w'.ownsRow 0 50 2 x' (n + 1) (xs ++ [.float .f64 (fI i), .int .i64 (-(i : Int))])) (hl : x'.ownBlock = x.ownBlock) (hw : wrC i n xs) (hm : ∀ z, x.ownBlock = some z → m ≤ z)
    (hd : ∀ (j : Nat) (u : Value) (z : Nat), i + 1 ≤ j → cv[j]? = some u → x.ownBlock = some z → u.ownBlock ≠ some z)
    (hx : ∀ (t : Nat) (v : Value) (z : Nat), AL[t]? = some v → v.ownBlock = some z → x.ownBlock = some z → t / 4 = i ∧ ∃ a mm cap, v = .slice a mm cap ∧ mm ≤ n) : OW m w pp vl vc vw ts cv wv cs (i + 1) va AL w' := by
  have kind : ∀ y ∈ x.ownBlock.toList, ∃ cs fr, wr.heap[y]? = some (.cells cs 50 fr) := fun y hy => row_obj hxo (by simpa using hy)
  refine ⟨h.pb.keepE hc fun y hy => .inr (kind y hy), fun j v l hj hv hl => own_keep (h.rows j v l hj hv hl) hc fun g hg hm => hd j v g hj hv (by simpa using hm) hg, own_keep h.al hc fun g hg hm => ?_, fun t v hv => ?_, fun t v z hv hz => ?_, h.ds, h.fr, h.bel.trans (below_chg hc (fun y hy => hm y (by simpa using hy)) ?_), h.sm⟩
  · obtain ⟨cs', fr', ho'⟩ := row_obj h.al hg
    obtain ⟨cs2, fr2, ho2⟩ := kind g hm
    exact obj_ne ho' ho2 (by decide) rfl
  · by_cases hz : ∃ z, v.ownBlock = some z ∧ x.ownBlock = some z
    · obtain ⟨z, hz1, hz2⟩ := hz
      obtain ⟨e1, a, mm, cap, rfl, hmm⟩ := hx t v z hv hz1 hz2
      obtain ⟨a0, n0, cap0, e0, hn0, hk0⟩ := h.fu t _ hv
      cases e0
      refine ⟨a, mm, cap, rfl, hn0, fun k hk => ?_⟩
      obtain ⟨g, rfl, c1, c2⟩ := hk0 k hk
      cases hz1
      obtain ⟨a', cap', rfl⟩ := own_form hx'
      obtain ⟨g', hg', hcell⟩ := own_cell hx' (by simp)
      subst hg'
      rw [hz2] at hl
      have hgg : g' = g := by injection hl
      subst hgg
      obtain ⟨q1, q2⟩ := hw k (by omega)
      rw [e1]
      exact ⟨g', rfl, hcell _ _ (getElem?_append_some q1), hcell _ _ (getElem?_append_some q2)⟩
    · exact (h.fu t v hv).keep hc fun z hz1 hm => hz ⟨z, hz1, by simpa using hm⟩
  · by_cases hm : z ∈ x.ownBlock.toList
    · exact row_obj hx' (by rw [hl]; simpa using hm)
    · obtain ⟨cs', fr', b⟩ := h.ok t v z hv hz
      exact ⟨cs', fr', hc.heap b hm⟩
  · have := h.bel.size; have := h.sm; omega
theorem wrC_set {i k : Nat} {xs : List Value} {n : Nat} (h : wrC i k xs) (hl : xs.length = n * 2) (hk : k < n) : wrC i (k + 1) ((xs.set (k * 2) (.float .f64 (fI i))).set (k * 2 + 1) (.int .i64 (-(i : Int)))) := fun j hj => by
  by_cases e : j = k
  · subst e
    simp only [List.getElem?_set]
    refine ⟨?_, ?_⟩
    · rw [if_neg (by omega), if_pos trivial, if_pos (by omega)]
    · rw [if_pos trivial, if_pos (by simp; omega)]
  · obtain ⟨h1, h2⟩ := h j (by omega)
    simp only [List.getElem?_set]
    refine ⟨?_, ?_⟩
    · rw [if_neg (by omega), if_neg (by omega)]; exact h1
    · rw [if_neg (by omega), if_neg (by omega)]; exact h2
theorem wrC_app {i k : Nat} {xs : List Value} (h : wrC i k xs) (hl : xs.length = k * 2) : wrC i (k + 1) (xs ++ [.float .f64 (fI i), .int .i64 (-(i : Int))]) := fun j hj => by
  by_cases e : j = k
  · subst e
    rw [List.getElem?_append_right (by omega), List.getElem?_append_right (by omega), hl]
    simp
  · obtain ⟨h1, h2⟩ := h j (by omega)
    exact ⟨getElem?_append_some h1, getElem?_append_some h2⟩
end Go.Proofs.Ytjlmenmlpmfokaa
