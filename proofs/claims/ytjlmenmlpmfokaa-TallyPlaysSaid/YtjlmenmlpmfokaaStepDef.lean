/- How a play goes on: a pair turned, a pair added. No condition. -/
import Derived.Test.YtjlmenmlpmfokaaPlay
namespace Go.Proofs.Ytjlmenmlpmfokaa
open Go Sx Fl Ty
set_option linter.unusedVariables false
set_option linter.unusedSimpArgs false

theorem nodup_ne {α : Type} {f : α → Nat} {l : List α} (h : (l.map f).Nodup) {x y : α} (hx : x ∈ l) (hy : y ∈ l) (hn : x ≠ y) : f x ≠ f y := by
  induction l with
  | nil => cases hx
  | cons a l ih =>
    simp only [List.map_cons, List.nodup_cons] at h
    rcases List.mem_cons.1 hx with e1 | p1 <;> rcases List.mem_cons.1 hy with e2 | p2
    · exact absurd (e1.trans e2.symm) hn
    · subst e1; intro e; exact h.1 (e ▸ List.mem_map_of_mem (f := f) p2)
    · subst e2; intro e; exact h.1 (e ▸ List.mem_map_of_mem (f := f) p1)
    · exact ih h.2 p1 p2
theorem Pair.keepA' {m : Nat} {w w' : World} {x y : TB} {j : Bool} {t2 : T3} {c2 : Nat} (h : Pair m w x) (k1 : TallyP w y.1 y.2.1 j t2 c2) (n1 : x.1 ≠ y.1) (n2 : x.2.1 ≠ y.2.1) (hc : Chg [y.1, y.2.1] w w') : Pair m w' x := by
  obtain ⟨t, c, v, l, h1, h2, h3, h4⟩ := h
  have a1 : x.1 ≠ y.2.1 := fun e => by have := h1.cell; rw [e, k1.map] at this; cases this
  have a2 : x.2.1 ≠ y.1 := fun e => by have := h1.map; rw [e, k1.cell] at this; cases this
  have a3 : x.2.2.1 ≠ y.1 := obj_ne h2.cell k1.cell (by decide)
  have a4 : x.2.2.1 ≠ y.2.1 := fun e => by have := h2.cell; rw [e, k1.map] at this; cases this
  refine ⟨t, c, v, l, h1.keep hc (by simp [n1, a1]) (by simp [n2, a2]), h2.keep hc (by simp [a3, a4]) (fun g hg hm => ?_), h3, h4⟩
  obtain ⟨cs', fr', ho'⟩ := row_obj h2.own hg
  simp only [List.mem_cons, List.not_mem_nil, or_false] at hm
  rcases hm with rfl | rfl
  · exact obj_ne k1.cell ho' (by decide) rfl
  · rw [k1.map] at ho'; cases ho'
theorem Pair.keepB' {m : Nat} {w w' : World} {x : TB} {b : Nat} {v2 : Value} {j : Bool} {l2 : KV} (h : Pair m w x) (k2 : RefP w b v2 j l2) (n1 : x.2.2.1 ≠ b) (hc : Chg [b] w w') : Pair m w' x := by
  obtain ⟨t, c, v, l, h1, h2, h3, h4⟩ := h
  have a1 : x.1 ≠ b := fun e => by have := obj_ne h1.cell k2.cell (by decide); exact this e
  have a2 : x.2.1 ≠ b := fun e => by have := h1.map; rw [e, k2.cell] at this; cases this
  refine ⟨t, c, v, l, h1.keep hc (by simp [a1]) (by simp [a2]), h2.keep hc (by simp [n1]) (fun g hg hm => ?_), h3, h4⟩
  obtain ⟨cs', fr', ho'⟩ := row_obj h2.own hg
  simp only [List.mem_singleton] at hm
  subst hm
  exact obj_ne k2.cell ho' (by decide) rfl
theorem PX.of {w : World} {x : TB} {f : Nat → Nat} {n : Nat} {v : Value} {l : KV} (h : PX w x f n v l) : (∃ t c, TallyP w x.1 x.2.1 x.2.2.2 t c) ∧ RefP w x.2.2.1 v x.2.2.2 l := by
  obtain ⟨⟨t, c, h1, _⟩, h2, _⟩ := h
  exact ⟨⟨t, c, h1⟩, h2⟩
/-- One pair's memory turns: first the tally's, then the document's. -/
theorem PB.turn {m : Nat} {w w1 w2 : World} {pp : Nat} {vl vc vw : Value} {ts : List TB} {cv wv : List Value} (h : PB m w pp vl vc vw ts cv wv) {x : TB} (hx : x ∈ ts) (h1 : Chg [x.1, x.2.1] w w1) (h2 : Chg [x.2.2.1] w1 w2) (hp : Pair m w2 x) :
    PB m w2 pp vl vc vw ts cv wv ∧ (∀ cs, CM m w cv wv cs → CM m w2 cv wv cs) ∧ Chg [x.1, x.2.1, x.2.2.1] w w2 := by
  obtain ⟨t, c, v, l, k1, k2, k3, k4⟩ := h.pr x hx
  have k2' : RefP w1 x.2.2.1 v x.2.2.2 l := k2.keep h1 (by
      have a3 : x.2.2.1 ≠ x.1 := obj_ne k2.cell k1.cell (by decide)
      have a4 : x.2.2.1 ≠ x.2.1 := fun e => by have := k2.cell; rw [e, k1.map] at this; cases this
      simp [a3, a4]) (fun g hg hm => by
      obtain ⟨cs', fr', ho'⟩ := row_obj k2.own hg
      simp only [List.mem_cons, List.not_mem_nil, or_false] at hm
      rcases hm with rfl | rfl
      · exact obj_ne k1.cell ho' (by decide) rfl
      · rw [k1.map] at ho'; cases ho')
  have hc : Chg [x.1, x.2.1, x.2.2.1] w w2 := (h1.mono (fun y hy => by simp at hy ⊢; omega)).step h2 (fun y hy => .inl (by simp at hy; subst hy; simp))
  have kind : ∀ y ∈ [x.1, x.2.1, x.2.2.1], ∀ cs T fr, T ≠ 64 → T ≠ 70 → w.heap[y]? ≠ some (.cells cs T fr) := by
    intro y hy cs T fr n1 n2 ho
    simp only [List.mem_cons, List.not_mem_nil, or_false] at hy
    rcases hy with rfl | rfl | rfl
    · exact obj_ne k1.cell ho (fun e => n1 e.symm) rfl
    · rw [k1.map] at ho; cases ho
    · exact obj_ne k2.cell ho (fun e => n2 e.symm) rfl
  have rows : ∀ e sz v' n xs, e ≠ 64 → e ≠ 70 → w.ownsRow 0 e sz v' n xs → w2.ownsRow 0 e sz v' n xs := fun e sz v' n xs n1 n2 ho => own_keep ho hc fun g hg hm => by
    obtain ⟨cs', fr', ho'⟩ := row_obj ho hg
    exact kind g hm _ _ _ n1 n2 ho'
  refine ⟨⟨hc.heap h.cell (fun hm => kind pp hm _ _ _ (by decide) (by decide) h.cell), rows _ _ _ _ _ (by decide) (by decide) h.ol, rows _ _ _ _ _ (by decide) (by decide) h.oc, rows _ _ _ _ _ (by decide) (by decide) h.ow, h.cw, fun y hy => ?_, h.nb, h.nr, h.nd, h.mp, h.ml, h.mc, h.mw⟩, fun cs hcs => hcs.keep hc (fun y hy => .inr fun cs fr => kind y hy _ _ _ (by decide) (by decide)), hc⟩
  by_cases e : y = x
  · subst e; exact hp
  · exact ((h.pr y hy).keepA' k1 (nodup_ne h.nb hy hx e) (nodup_ne h.nr hy hx e) h1).keepB' k2' (nodup_ne h.nd hy hx e) h2
theorem below_chg {m : Nat} {T : List Nat} {w w' : World} (h : Chg T w w') (hT : ∀ y ∈ T, m ≤ y) (hm : m ≤ w.heap.size) : RowKit.Below m w w' :=
  ⟨h.os, h.tape, h.output, h.size, fun k hk => h.block k (by omega) fun hk2 => by have := hT k hk2; omega⟩
/-- A play that may go on; k bounds the answers that came out. -/
def SX (m : Nat) (w : World) (pp : Nat) (e : Bool) (k : Nat) : Prop := ∃ vl vc vw ts cv wv cs, PB m w pp vl vc vw ts cv wv ∧ CM m w cv wv cs ∧ (e = true → 0 < ts.length) ∧ ts.length ≤ 16 ∧ cs.length ≤ k
end Go.Proofs.Ytjlmenmlpmfokaa
