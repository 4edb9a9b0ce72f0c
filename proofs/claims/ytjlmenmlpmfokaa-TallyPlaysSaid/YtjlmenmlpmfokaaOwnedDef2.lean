/- Rows of entries that their owner writes over. No condition. -/
import Derived.Test.YtjlmenmlpmfokaaOwnedDef
import Derived.Test.YtjlmenmlpmfokaaSxKeep
namespace Go.Proofs.Ytjlmenmlpmfokaa
open Go Sx Fl Ty
set_option linter.unusedVariables false
set_option linter.unusedSimpArgs false

/-- One entry of an own row is written over. -/
theorem own_store2 {w w' : World} {e : Nat} {g m cap k : Nat} {xs : List Value} {a b : Value} {cur : List Value} (h : w.ownsRow 0 e 2 (.slice (some ⟨g, 0, none⟩) m cap) m xs) (hk : k < m) (hcur : w.heap[g]? = some (.cells cur.toArray e (0, 0))) (hu : Upd w g (.cells (Sx.splice cur (k * 2) [a, b]).toArray e (0, 0)) w') :
    w'.ownsRow 0 e 2 (.slice (some ⟨g, 0, none⟩) m cap) m ((xs.set (k * 2) a).set (k * 2 + 1) b) := by
  obtain ⟨h1, h2⟩ := h
  refine ⟨by simp [h1], ?_⟩
  rcases h2 with ⟨e0, _⟩ | ⟨g', cap', cur', e0, q1, q2, q3, q4, q5, q6⟩
  · cases e0
  · injection e0 with e1 e2 e3
    injection e1 with e1
    injection e1 with e1
    subst e1; subst e3
    rw [hcur] at q2
    injection q2 with q2
    injection q2 with q2
    subst q2
    refine .inr ⟨g, cap, _, rfl, q1, hu.at_, q3, q4, ?_, ?_⟩
    · simp [Sx.splice]; simpa using q5
    · simp only [Sx.splice]
      simp only [List.toList_toArray] at q6 ⊢
      rw [List.take_set, List.take_set, q6]
/-- Where rows of entries turn, the play stays. -/
theorem PB.keepE {m : Nat} {w w' : World} {T : List Nat} {pp : Nat} {vl vc vw : Value} {ts : List TB} {cv wv : List Value} (h : PB m w pp vl vc vw ts cv wv) (hc : Chg T w w') (hT : ∀ y ∈ T, w.heap.size ≤ y ∨ ∃ cs fr, w.heap[y]? = some (.cells cs 50 fr)) : PB m w' pp vl vc vw ts cv wv := by
  have rows : ∀ e sz v n xs, e ≠ 50 → w.ownsRow 0 e sz v n xs → w'.ownsRow 0 e sz v n xs := fun e sz v n xs hn ho => own_keep ho hc fun g hg hm => by
    obtain ⟨cs', fr', ho'⟩ := row_obj ho hg
    rcases hT g hm with a | ⟨cs, fr, a⟩
    · have := lt_of_heap ho'; omega
    · exact obj_ne ho' a hn rfl
  refine ⟨hc.heap h.cell (fun hm => ?_), rows _ _ _ _ _ (by decide) h.ol, rows _ _ _ _ _ (by decide) h.oc, rows _ _ _ _ _ (by decide) h.ow, h.cw, fun x hx => (h.pr x hx).keep hc fun y hy => ?_, h.nb, h.nr, h.nd, h.mp, h.ml, h.mc, h.mw⟩
  · rcases hT pp hm with a | ⟨cs, fr, a⟩
    · have := lt_of_heap h.cell; omega
    · exact obj_ne h.cell a (by decide) rfl
  · rcases hT y hy with a | ⟨cs, fr, a⟩
    · exact .inl a
    · exact .inr ⟨cs, _, fr, a, by decide, by decide, by decide⟩
/-- A slice that reads as so many times what the owner of number i writes. -/
def Full (w : World) (v : Value) (i : Nat) : Prop := ∃ a n cap, v = .slice a n cap ∧ n ≤ 1099511627800 ∧ ∀ k, k < n → ∃ g, a = some ⟨g, 0, none⟩ ∧ w.cell? ⟨g, k * 2, none⟩ = some (.float .f64 (fI i)) ∧ w.cell? ⟨g, k * 2 + 1, none⟩ = some (.int .i64 (-(i : Int)))
theorem Full.keep {w w' : World} {T : List Nat} {v : Value} {i : Nat} (h : Full w v i) (hc : Chg T w w') (hT : ∀ z, v.ownBlock = some z → z ∉ T) : Full w' v i := by
  obtain ⟨a, n, cap, rfl, hn, hk⟩ := h
  refine ⟨a, n, cap, rfl, hn, fun k hkn => ?_⟩
  obtain ⟨g, rfl, h1, h2⟩ := hk k hkn
  exact ⟨g, rfl, hc.cell h1 (hT g rfl), hc.cell h2 (hT g rfl)⟩
/-- The cells that an owner of number i has written. -/
def wrC (i : Nat) (n : Nat) (xs : List Value) : Prop := ∀ k, k < n → xs[k * 2]? = some (.float .f64 (fI i)) ∧ xs[k * 2 + 1]? = some (.int .i64 (-(i : Int)))
theorem Full.of_own {w : World} {e i m n cap : Nat} {a : Option Addr} {xs : List Value} (h : w.ownsRow 0 e 2 (.slice a m cap) m xs) (hx : wrC i m xs) (hm : m ≤ 1099511627800) : Full w (.slice a m cap) i := by
  refine ⟨a, m, cap, rfl, hm, fun k hk => ?_⟩
  obtain ⟨h1, h2⟩ := hx k hk
  have hl : 0 < xs.length := by
    cases xs with
    | nil => simp at h1
    | cons x xs => simp
  obtain ⟨g, hg, hc⟩ := own_cell h hl
  exact ⟨g, hg, hc _ _ h1, hc _ _ h2⟩
end Go.Proofs.Ytjlmenmlpmfokaa
