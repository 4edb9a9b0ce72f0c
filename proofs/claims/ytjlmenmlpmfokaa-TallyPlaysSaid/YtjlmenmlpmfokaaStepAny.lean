/- The tallies' calls, whatever comes of them, told alike for both. No condition. -/
import Derived.Test.YtjlmenmlpmfokaaStep
namespace Go.Proofs.Ytjlmenmlpmfokaa
open Go Sx Fl Ty
set_option linter.unusedVariables false
set_option linter.unusedSimpArgs false

theorem ref_keepA {w w' : World} {b r rb : Nat} {j j' : Bool} {t : T3} {c : Nat} {v : Value} {l : KV} (k1 : TallyP w b r j t c) (k2 : RefP w rb v j' l) (hc : Chg [b, r] w w') : RefP w' rb v j' l := by
  refine k2.keep hc ?_ fun g hg hm => ?_
  · have a3 : rb ≠ b := obj_ne k2.cell k1.cell (by decide)
    have a4 : rb ≠ r := fun e => by have := k2.cell; rw [e, k1.map] at this; cases this
    simp [a3, a4]
  · obtain ⟨cs', fr', ho'⟩ := row_obj k2.own hg
    simp only [List.mem_cons, List.not_mem_nil, or_false] at hm
    rcases hm with rfl | rfl
    · exact obj_ne k1.cell ho' (by decide) rfl
    · rw [k1.map] at ho'; cases ho'
theorem PX.refA {w w' : World} {x : TB} {f : Nat → Nat} {n : Nat} {v : Value} {l : KV} (h : PX w x f n v l) (hc : Chg [x.1, x.2.1] w w') : RefP w' x.2.2.1 v x.2.2.2 l := by
  obtain ⟨⟨t, c, h1, _⟩, h2, _⟩ := h
  exact ref_keepA h1 h2 hc
theorem tcB {w w' : World} {b r rb : Nat} {v : Value} {j j' : Bool} {f : Nat → Nat} {n : Nat} {l : KV} (h : TC w b r j f n) (k : RefP w rb v j' l) (hc : Chg [rb] w w') : TC w' b r j f n := by
  obtain ⟨t, c, h1, h2, h3⟩ := h
  have a1 : b ≠ rb := obj_ne h1.cell k.cell (by decide)
  have a2 : r ≠ rb := fun e => by have := h1.map; rw [e, k.cell] at this; cases this
  exact ⟨t, c, h1.keep hc (by simp [a1]) (by simp [a2]), h2, h3⟩
theorem any_Add {b r x : Nat} {j : Bool} {f : Nat → Nat} {n : Nat} {w : World} (hx : x < 18446744073709551616) (h : TC w b r j f n) : Ret Try.prog 10 [.pointer (some ⟨b, 0, none⟩), .float .f64 x] w fun v w' =>
    ∃ (e : Int) (f' : Nat → Nat) (n' : Nat), v = .int .i64 e ∧ Chg [b, r] w w' ∧ TC w' b r j f' n' ∧ ((n = 1099511627776 ∧ e = 2 ∧ ∀ k, f' k = f k) ∨ (n < 1099511627776 ∧ e = 0 ∧ ∀ k, f' k = if k = cval j x then f k + 1 else f k)) := by
  have hle := h.lt.2.2
  by_cases hn : n < 1099511627776
  · exact (tc_Add hx hn h).mono fun v w' ⟨h1, h2, h3⟩ => ⟨0, _, _, h1, h2, h3, .inr ⟨hn, rfl, fun k => rfl⟩⟩
  · obtain ⟨t, c, h1, h2, h3⟩ := h
    refine (tally_Tally_Add_spec b r x hx j t c w h1).mono fun v w' hh => ?_
    rcases hh with ⟨_, e, rfl⟩ | ⟨e, _⟩
    · exact ⟨2, f, n, e, Chg.refl _ _, ⟨t, c, h1, h2, h3⟩, .inl ⟨by omega, rfl, fun k => rfl⟩⟩
    · omega
theorem any_refAdd {b x : Nat} {v : Value} {j : Bool} {l : KV} {w : World} (hx : x < 18446744073709551616) (h : RefP w b v j l) : Ret Try.prog 24 [.pointer (some ⟨b, 0, none⟩), .float .f64 x] w fun u w' =>
    ∃ (e : Int) (v' : Value) (l' : KV), u = .int .i64 e ∧ Chg [b] w w' ∧ RefP w' b v' j l' ∧ ((tot l = 1099511627776 ∧ e = 2 ∧ ∀ k, cnt l' k = cnt l k) ∨ (tot l < 1099511627776 ∧ e = 0 ∧ ∀ k, cnt l' k = if k = cval j x then cnt l k + 1 else cnt l k)) := by
  refine (ref18_Add_spec b x hx v j l w h).mono fun u w' hh => ?_
  rcases hh with ⟨h1, h2, rfl⟩ | ⟨h1, h2, hc, v', l', h3, h4, h5, _⟩
  · exact ⟨2, v, l, h2, Chg.refl _ _, h, .inl ⟨h1, rfl, fun k => rfl⟩⟩
  · exact ⟨0, v', l', h2, hc, h3, .inr ⟨h1, rfl, fun k => by
      have := h4 k
      by_cases hk : k = cval j x
      · subst hk; rw [if_pos rfl] at this ⊢; omega
      · rw [if_neg hk] at this ⊢; omega⟩⟩
theorem any_Take {b r x : Nat} {j : Bool} {f : Nat → Nat} {n : Nat} {w : World} (hx : x < 18446744073709551616) (h : TC w b r j f n) : Ret Try.prog 12 [.pointer (some ⟨b, 0, none⟩), .float .f64 x] w fun v w' =>
    ∃ (e : Bool) (f' : Nat → Nat) (n' : Nat), v = .bool e ∧ Chg [b, r] w w' ∧ TC w' b r j f' n' ∧ e = decide (0 < f (cval j x)) ∧ ∀ k, f' k = if k = cval j x then f k - 1 else f k := by
  by_cases hn : 0 < f (cval j x)
  · exact (tc_Take hx hn h).mono fun v w' ⟨h1, h2, h3⟩ => ⟨true, _, _, h1, h2, h3, (decide_eq_true hn).symm, fun k => rfl⟩
  · obtain ⟨t, c, h1, h2, h3⟩ := h
    refine (tally_Tally_Take_spec b r x hx j t c w h1).mono fun v w' hh => ?_
    rcases hh with ⟨_, e, rfl⟩ | ⟨e, _⟩
    · refine ⟨false, f, n, e, Chg.refl _ _, ⟨t, c, h1, h2, h3⟩, (decide_eq_false hn).symm, fun k => ?_⟩
      split
      · rename_i hk; subst hk; omega
      · rfl
    · rw [h2] at e; omega
theorem any_refTake {b x : Nat} {v : Value} {j : Bool} {l : KV} {w : World} (hx : x < 18446744073709551616) (h : RefP w b v j l) : Ret Try.prog 25 [.pointer (some ⟨b, 0, none⟩), .float .f64 x] w fun u w' =>
    ∃ (e : Bool) (v' : Value) (l' : KV), u = .bool e ∧ Chg [b] w w' ∧ RefP w' b v' j l' ∧ e = decide (0 < cnt l (cval j x)) ∧ ∀ k, cnt l' k = if k = cval j x then cnt l k - 1 else cnt l k := by
  refine (ref18_Take_spec b x hx v j l w h).mono fun u w' hh => ?_
  rcases hh with ⟨h1, h2, hc⟩ | ⟨h1, h2, hc, v', l', h3, h4, h5, _⟩
  · refine ⟨false, v, l, h2, hc.any, h.keep hc (by simp) (by simp), (decide_eq_false (by omega)).symm, fun k => ?_⟩
    split
    · rename_i hk; subst hk; omega
    · rfl
  · refine ⟨true, v', l', h2, hc, h3, (decide_eq_true h1).symm, fun k => ?_⟩
    have := h4 k
    by_cases hk : k = cval j x
    · subst hk; rw [if_pos rfl] at this ⊢; omega
    · rw [if_neg hk] at this ⊢; omega
/-- One tally of a play merged with itself. -/
theorem any_Twice {w : World} {x : TB} {f : Nat → Nat} {n : Nat} {v : Value} {l : KV} (h : PX w x f n v l) :
    Ret Try.prog 11 [.pointer (some ⟨x.1, 0, none⟩), .pointer (some ⟨x.1, 0, none⟩)] w fun u w' =>
      ∃ (e : Int) (f' : Nat → Nat) (n' : Nat), u = .int .i64 e ∧ Chg [x.1, x.2.1] w w' ∧ TC w' x.1 x.2.1 x.2.2.2 f' n' ∧ ((1099511627776 < n + n ∧ e = 2 ∧ ∀ k, f' k = f k) ∨ (n + n ≤ 1099511627776 ∧ e = 0 ∧ ∀ k, f' k = f k + msum x.2.2.2 l k)) := by
  refine (tc_Twice h.tc).mono fun u w' hh => ?_
  rcases hh with ⟨q1, q2, q3⟩ | ⟨q1, q2, q3, q4⟩
  · exact ⟨2, f, n, q2, q3.any, h.tc.keep q3 (by simp) (by simp), .inl ⟨q1, rfl, fun k => rfl⟩⟩
  · refine ⟨0, _, _, q2, q3, q4, .inr ⟨q1, rfl, fun k => ?_⟩⟩
    rw [msum_ok h.sl.wf.nodup (fun p hp => (h.rf.ok p hp).2), h.sl.cnt]; omega
/-- Two tallies of a play merged. -/
theorem any_Other {m pp : Nat} {vl vc vw : Value} {ts : List TB} {cv wv : List Value} {w : World} (hB : PB m w pp vl vc vw ts cv wv) {x y : TB} (hx : x ∈ ts) (hy : y ∈ ts) (exy : x ≠ y) {f f2 : Nat → Nat} {n n2 : Nat} {v v2 : Value} {l l2 : KV} (h : PX w x f n v l) (h2 : PX w y f2 n2 v2 l2) :
    Ret Try.prog 11 [.pointer (some ⟨x.1, 0, none⟩), .pointer (some ⟨y.1, 0, none⟩)] w fun u w' =>
      ∃ (e : Int) (f' : Nat → Nat) (n' : Nat), u = .int .i64 e ∧ Chg [x.1, x.2.1] w w' ∧ TC w' x.1 x.2.1 x.2.2.2 f' n' ∧ ((1099511627776 < n + n2 ∧ e = 2 ∧ ∀ k, f' k = f k) ∨ (n + n2 ≤ 1099511627776 ∧ e = 0 ∧ ∀ k, f' k = f k + msum x.2.2.2 l2 k)) := by
  have hn := nodup_ne hB.nb hx hy exy
  have hr := nodup_ne hB.nr hx hy exy
  obtain ⟨t, c, a1, a2, a3⟩ := h.tc
  obtain ⟨t', c', b1, b2, b3⟩ := h2.tc
  have z1 : x.1 ≠ y.2.1 := fun e => by have := a1.cell; rw [e, b1.map] at this; cases this
  have z2 : x.2.1 ≠ y.1 := fun e => by have := a1.map; rw [e, b1.cell] at this; cases this
  refine (tc_Merge h.tc h2.tc h2.sl.wf h2.sl.cnt hn hr z1 z2).mono fun u w' hh => ?_
  rcases hh with ⟨q1, q2, q3⟩ | ⟨q1, q2, q3, q4⟩
  · exact ⟨2, f, n, q2, q3.any, h.tc.keep q3 (by simp) (by simp), .inl ⟨q1, rfl, fun k => rfl⟩⟩
  · exact ⟨0, _, _, q2, q3, q4, .inr ⟨q1, rfl, fun k => rfl⟩⟩
theorem any_refMerge {b b2 : Nat} {v v2 : Value} {j j2 : Bool} {l l2 : KV} {w : World} (h : RefP w b v j l) (h2 : RefP w b2 v2 j2 l2) (hx : ∀ x, v2.ownBlock = some x → x ≠ b) : Ret Try.prog 26 [.pointer (some ⟨b, 0, none⟩), .pointer (some ⟨b2, 0, none⟩)] w fun u w' =>
    ∃ (e : Int) (v' : Value) (l' : KV), u = .int .i64 e ∧ Chg [b] w w' ∧ RefP w' b v' j l' ∧ ((1099511627776 < tot l + tot l2 ∧ e = 2 ∧ ∀ k, cnt l' k = cnt l k) ∨ (tot l + tot l2 ≤ 1099511627776 ∧ e = 0 ∧ ∀ k, cnt l' k = cnt l k + msum j l2 k)) := by
  refine (ref18_Merge_spec b b2 v v2 j j2 l l2 w h h2 hx).mono fun u w' hh => ?_
  rcases hh with ⟨h1, h3, hc⟩ | ⟨h1, h3, hc, v', l', h4, h5, h6, _⟩
  · exact ⟨2, v, l, h3, hc.any, h.keep hc (by simp) (by simp), .inl ⟨h1, rfl, fun k => rfl⟩⟩
  · exact ⟨0, v', l', h3, hc, h4, .inr ⟨h1, rfl, h5⟩⟩
end Go.Proofs.Ytjlmenmlpmfokaa
