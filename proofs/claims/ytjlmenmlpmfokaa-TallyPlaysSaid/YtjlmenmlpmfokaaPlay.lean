/- Package steelyardlaw18: play.at, play.asked. No condition. -/
import Derived.Test.YtjlmenmlpmfokaaPlayDef
namespace Go.Proofs.Ytjlmenmlpmfokaa
open Go Sx Fl Ty
set_option linter.unusedVariables false
set_option linter.unusedSimpArgs false

/-- A pair with what it counts. -/
structure PX (w : World) (x : TB) (f : Nat → Nat) (n : Nat) (v : Value) (l : KV) : Prop where
  tc : TC w x.1 x.2.1 x.2.2.2 f n
  rf : RefP w x.2.2.1 v x.2.2.2 l
  sl : SL l f
theorem Pair.px {m : Nat} {w : World} {x : TB} (h : Pair m w x) : ∃ f n v l, PX w x f n v l := by
  obtain ⟨t, c, v, l, h1, h2, h3, _⟩ := h
  exact ⟨_, _, v, l, ⟨t, c, h1, fun _ => rfl, rfl⟩, h2, ⟨h2.srt, h2.pos, h3⟩⟩
theorem PX.pair {m : Nat} {w : World} {x : TB} {f : Nat → Nat} {n : Nat} {v : Value} {l : KV} (h : PX w x f n v l) (hm : m ≤ x.1 ∧ m ≤ x.2.1 ∧ m ≤ x.2.2.1) : Pair m w x := by
  obtain ⟨⟨t, c, h1, h2, h3⟩, h4, h5⟩ := h
  exact ⟨t, c, v, l, h1, h4, fun k => (h5.cnt k).trans (h2 k).symm, hm⟩
theorem PX.keep {w w' : World} {T : List Nat} {x : TB} {f : Nat → Nat} {n : Nat} {v : Value} {l : KV} (h : PX w x f n v l) (hc : Chg T w w') (hT : ∀ y ∈ T, Alien w y) : PX w' x f n v l := by
  obtain ⟨⟨t, c, h1, h5, h6⟩, h2, h3⟩ := h
  have n1 : x.1 ∉ T := fun hm => by
    rcases hT _ hm with a | ⟨cs, T', fr, ho, a, _⟩
    · have := lt_of_heap h1.cell; omega
    · rw [h1.cell] at ho; injection ho with ho; injection ho with _ hh; exact a hh.symm
  have n2 : x.2.1 ∉ T := fun hm => by
    rcases hT _ hm with a | ⟨cs, T', fr, ho, a, _⟩
    · have := lt_of_heap h1.map; omega
    · rw [h1.map] at ho; injection ho with ho; cases ho
  have n3 : x.2.2.1 ∉ T := fun hm => by
    rcases hT _ hm with a | ⟨cs, T', fr, ho, _, a, _⟩
    · have := lt_of_heap h2.cell; omega
    · rw [h2.cell] at ho; injection ho with ho; injection ho with _ hh; exact a hh.symm
  have n4 : ∀ y, v.ownBlock = some y → y ∉ T := fun y hy hm => by
    obtain ⟨cs', fr', ho'⟩ := row_obj h2.own hy
    rcases hT _ hm with a | ⟨cs, T', fr, ho, _, _, a⟩
    · have := lt_of_heap ho'; omega
    · rw [ho'] at ho; injection ho with ho; injection ho with _ hh; exact a hh.symm
  exact ⟨⟨t, c, h1.keep hc n1 n2, h5, h6⟩, h2.keep hc n3 n4, h3⟩
/-- What a play may turn: its struct, its rows. -/
def PT (pp : Nat) (vc vw : Value) : List Nat := pp :: (vc.ownBlock.toList ++ vw.ownBlock.toList)
theorem PB.alien {m : Nat} {w : World} {pp : Nat} {vl vc vw : Value} {ts : List TB} {cv wv : List Value} (h : PB m w pp vl vc vw ts cv wv) : ∀ y ∈ PT pp vc vw, Alien w y := by
  intro y hy
  simp only [PT, List.mem_cons, List.mem_append] at hy
  rcases hy with rfl | hy | hy
  · exact .inr ⟨_, _, _, h.cell, by decide, by decide, by decide⟩
  · exact alien_row h.oc (by decide) y hy
  · exact alien_row h.ow (by decide) y hy
theorem PB.ptlt {m : Nat} {w : World} {pp : Nat} {vl vc vw : Value} {ts : List TB} {cv wv : List Value} (h : PB m w pp vl vc vw ts cv wv) : ∀ y ∈ PT pp vc vw, y < w.heap.size ∧ m ≤ y := by
  intro y hy
  simp only [PT, List.mem_cons, List.mem_append] at hy
  rcases hy with rfl | hy | hy
  · exact ⟨lt_of_heap h.cell, h.mp⟩
  · exact ⟨own_lt h.oc (by simpa using hy), h.mc y (by simpa using hy)⟩
  · exact ⟨own_lt h.ow (by simpa using hy), h.mw y (by simpa using hy)⟩

set_option maxRecDepth 20000 in
theorem at_spec (m pp : Nat) (vl vc vw : Value) (ts : List TB) (cv wv : List Value) (n : Int) (hn : -9223372036854775808 ≤ n ∧ n ≤ 9223372036854775807) (w : World) (h : PB m w pp vl vc vw ts cv wv) (hts : 0 < ts.length) : Ret Try.prog 23 [.pointer (some ⟨pp, 0, none⟩), .int .i64 n] w fun u w' => Chg [] w w' ∧ ∃ x ∈ ts, u = .agg [.pointer (some ⟨x.1, 0, none⟩), .pointer (some ⟨x.2.2.1, 0, none⟩)].toArray := by
  have c0 : w.cell? ⟨pp, 0, none⟩ = some vl := by rw [cell_at h.cell]; rfl
  obtain ⟨gl, capl, hvl, hcl⟩ : ∃ gl capl, vl = .slice (some ⟨gl, 0, none⟩) ts.length capl ∧ ∀ j x, (flatB ts)[j]? = some x → w.cell? ⟨gl, j, none⟩ = some x := by
    rcases own_cases h.ol with ⟨_, h0, _⟩ | ⟨gl, capl, e, _, _, hc⟩
    · omega
    · exact ⟨gl, capl, e, hc⟩
  subst hvl
  refine Ret.enter Try.func23 rfl rfl ?_
  refine CW.seq fun kK1 kh1 => ?_
  refine CW.region fun kR2 kr2 => ?_  -- region 0
  refine WL.alloc (l := [.pointer none, .pointer none]) rfl rfl fun b4 w1 n4 => ?_
  refine WL.nil (kr2 _ _ _ ?_)
  refine kh1 _ _ _ ?_
  refine CW.seq fun kK3 kh3 => ?_
  refine CW.seq fun kK4 kh4 => ?_
  refine CW.region fun kR5 kr5 => ?_  -- region 1
  refine WL.ev (Ev.move rfl) rfl ?_
  refine WL.ev (Ev.lss rfl rfl) rfl ?_
  refine WL.nil (kr5 _ _ _ ?_)
  refine kh4 _ _ _ ?_
  refine CW.cond rfl (fun hc1 => ?_) (fun hc1 => ?_)  -- if 6
  ·
    simp only [decide_eq_true_eq, decide_eq_false_iff_not, Decidable.not_not, Bool.and_eq_true, Bool.or_eq_true, Bool.not_eq_true', ne_eq, Int.not_lt, Int.not_le] at hc1
    obtain ⟨q, hq, hql⟩ : ∃ q : Nat, (0 - (n + 1)) % (ts.length : Int) = (q : Int) ∧ q < ts.length := ⟨((0 - (n + 1)) % (ts.length : Int)).toNat, by have := Int.emod_nonneg (0 - (n + 1)) (b := (ts.length : Int)) (by omega); omega, by have := Int.emod_lt_of_pos (0 - (n + 1)) (b := (ts.length : Int)) (by omega); have := Int.emod_nonneg (0 - (n + 1)) (b := (ts.length : Int)) (by omega); omega⟩
    obtain ⟨x, hx⟩ : ∃ x, ts[q]? = some x := ⟨ts[q], by simp⟩
    obtain ⟨f1, f2⟩ := flatB_get ts q x hx
    have hone : ∀ v ∈ [Value.pointer (some ⟨x.1, 0, none⟩), Value.pointer (some ⟨x.2.2.1, 0, none⟩)], v.oneCell' = true := flatB_one [x]
    refine CW.region fun kR6 kr6 => ?_  -- region 2
    refine WL.ev (Ev.move rfl) rfl ?_
    refine WL.ev (Ev.addIn rfl rfl (by omega)) rfl ?_
    refine WL.ev (Ev.neg rfl) rfl ?_
    rw [wrap_i64 (by omega)]
    refine WL.ev (Ev.assign rfl) rfl ?_
    refine WL.nil (kr6 _ _ _ ?_)
    refine kh3 _ _ _ ?_
    refine CW.seq fun kK7 kh7 => ?_
    refine CW.regionT 13 hmix (by kernel_rfl) fun kR8 kr8 => ?_  -- region 3
    refine WS.ev (Ev.move rfl) rfl ?_
    refine WS.ev (Ev.nilPtr rfl) rfl ?_
    refine WS.ev (Ev.fieldAddr rfl) rfl ?_
    refine WS.ev (Ev.load rfl rfl ((Chg.drew [] w1).cell (n4.chg.cell c0 (by simp)) (by simp))) rfl ?_
    refine WS.ev (Ev.move rfl) rfl ?_
    refine WS.ev (Ev.move rfl) rfl ?_
    refine WS.ev (Ev.nilPtr rfl) rfl ?_
    refine WS.ev (Ev.fieldAddr rfl) rfl ?_
    refine WS.ev (Ev.load rfl rfl ((Chg.drew [] w1).cell (n4.chg.cell c0 (by simp)) (by simp))) rfl ?_
    refine WS.ev (Ev.len rfl) rfl ?_
    refine WS.ev (Ev.remIn rfl rfl (by omega) (by omega)) rfl ?_
    rw [hq]
    refine WS.ev (Ev.indexAddr rfl rfl (by omega) (by omega)) rfl ?_
    rw [show 0 + (((q : Nat) : Int)).toNat * 2 = q * 2 by omega]
    refine WS.ev (Ev.loadAgg (cs := [.pointer (some ⟨x.1, 0, none⟩), .pointer (some ⟨x.2.2.1, 0, none⟩)]) rfl rfl rfl (fun k x' hk => ?_)) rfl ?_
    · rw [add_addr]; exact row2 ((Chg.drew [] w1).cell (n4.chg.cell (hcl _ _ f1) (by simp)) (by simp)) ((Chg.drew [] w1).cell (n4.chg.cell (hcl _ _ f2) (by simp)) (by simp)) k x' hk
    refine WS.nil ?_
    refine WL.storeAgg (vs := [.pointer (some ⟨x.1, 0, none⟩), .pointer (some ⟨x.2.2.1, 0, none⟩)]) rfl rfl rfl hone ((Chg.drew [] w1).heap n4.at_ (by simp)) (by simp) fun w9 u9 => ?_
    refine WL.nil (kr8 _ _ _ ?_)
    refine kh7 _ _ _ ?_
    refine CW.ret ?_
    have hres : ∀ q x', [Value.pointer (some ⟨x.1, 0, none⟩), Value.pointer (some ⟨x.2.2.1, 0, none⟩)][q]? = some x' → _ := row2 (w := w9) (g := b4) (o := 0) (by rw [cell_at u9.at_]; rfl) (by rw [cell_at u9.at_]; rfl)
    refine bodyA.retR1 rfl (RVal.cell rfl (loadVar_agg (cs := [.pointer (some ⟨x.1, 0, none⟩), .pointer (some ⟨x.2.2.1, 0, none⟩)]) rfl rfl (fun q x' hq => by rw [add_addr]; exact hres q x' hq))) ?_
    exact ⟨(n4.chg.trans (Chg.drew _ _)).step u9.chg (fun y hy => .inr (by simp only [List.mem_singleton] at hy; have := n4.ge; omega)), x, List.mem_of_getElem? hx, rfl⟩
  ·
    simp only [decide_eq_true_eq, decide_eq_false_iff_not, Decidable.not_not, Bool.and_eq_true, Bool.or_eq_true, Bool.not_eq_true', ne_eq, Int.not_lt, Int.not_le] at hc1
    obtain ⟨q, hq, hql⟩ : ∃ q : Nat, (n) % (ts.length : Int) = (q : Int) ∧ q < ts.length := ⟨((n) % (ts.length : Int)).toNat, by have := Int.emod_nonneg (n) (b := (ts.length : Int)) (by omega); omega, by have := Int.emod_lt_of_pos (n) (b := (ts.length : Int)) (by omega); have := Int.emod_nonneg (n) (b := (ts.length : Int)) (by omega); omega⟩
    obtain ⟨x, hx⟩ : ∃ x, ts[q]? = some x := ⟨ts[q], by simp⟩
    obtain ⟨f1, f2⟩ := flatB_get ts q x hx
    have hone : ∀ v ∈ [Value.pointer (some ⟨x.1, 0, none⟩), Value.pointer (some ⟨x.2.2.1, 0, none⟩)], v.oneCell' = true := flatB_one [x]
    refine CW.skip ?_
    refine kh3 _ _ _ ?_
    refine CW.seq fun kK9 kh9 => ?_
    refine CW.regionT 13 hmix (by kernel_rfl) fun kR10 kr10 => ?_  -- region 3
    refine WS.ev (Ev.move rfl) rfl ?_
    refine WS.ev (Ev.nilPtr rfl) rfl ?_
    refine WS.ev (Ev.fieldAddr rfl) rfl ?_
    refine WS.ev (Ev.load rfl rfl ((Chg.drew [] w1).cell (n4.chg.cell c0 (by simp)) (by simp))) rfl ?_
    refine WS.ev (Ev.move rfl) rfl ?_
    refine WS.ev (Ev.move rfl) rfl ?_
    refine WS.ev (Ev.nilPtr rfl) rfl ?_
    refine WS.ev (Ev.fieldAddr rfl) rfl ?_
    refine WS.ev (Ev.load rfl rfl ((Chg.drew [] w1).cell (n4.chg.cell c0 (by simp)) (by simp))) rfl ?_
    refine WS.ev (Ev.len rfl) rfl ?_
    refine WS.ev (Ev.remIn rfl rfl (by omega) (by omega)) rfl ?_
    rw [hq]
    refine WS.ev (Ev.indexAddr rfl rfl (by omega) (by omega)) rfl ?_
    rw [show 0 + (((q : Nat) : Int)).toNat * 2 = q * 2 by omega]
    refine WS.ev (Ev.loadAgg (cs := [.pointer (some ⟨x.1, 0, none⟩), .pointer (some ⟨x.2.2.1, 0, none⟩)]) rfl rfl rfl (fun k x' hk => ?_)) rfl ?_
    · rw [add_addr]; exact row2 ((Chg.drew [] w1).cell (n4.chg.cell (hcl _ _ f1) (by simp)) (by simp)) ((Chg.drew [] w1).cell (n4.chg.cell (hcl _ _ f2) (by simp)) (by simp)) k x' hk
    refine WS.nil ?_
    refine WL.storeAgg (vs := [.pointer (some ⟨x.1, 0, none⟩), .pointer (some ⟨x.2.2.1, 0, none⟩)]) rfl rfl rfl hone ((Chg.drew [] w1).heap n4.at_ (by simp)) (by simp) fun w9 u9 => ?_
    refine WL.nil (kr10 _ _ _ ?_)
    refine kh9 _ _ _ ?_
    refine CW.ret ?_
    have hres : ∀ q x', [Value.pointer (some ⟨x.1, 0, none⟩), Value.pointer (some ⟨x.2.2.1, 0, none⟩)][q]? = some x' → _ := row2 (w := w9) (g := b4) (o := 0) (by rw [cell_at u9.at_]; rfl) (by rw [cell_at u9.at_]; rfl)
    refine bodyA.retR1 rfl (RVal.cell rfl (loadVar_agg (cs := [.pointer (some ⟨x.1, 0, none⟩), .pointer (some ⟨x.2.2.1, 0, none⟩)]) rfl rfl (fun q x' hq => by rw [add_addr]; exact hres q x' hq))) ?_
    exact ⟨(n4.chg.trans (Chg.drew _ _)).step u9.chg (fun y hy => .inr (by simp only [List.mem_singleton] at hy; have := n4.ge; omega)), x, List.mem_of_getElem? hx, rfl⟩

theorem PB.keep0 {m : Nat} {w w' : World} {pp : Nat} {vl vc vw : Value} {ts : List TB} {cv wv : List Value} (h : PB m w pp vl vc vw ts cv wv) (hc : Chg [] w w') : PB m w' pp vl vc vw ts cv wv :=
  ⟨hc.heap h.cell (by simp), own_keep h.ol hc (by simp), own_keep h.oc hc (by simp), own_keep h.ow hc (by simp), h.cw, fun x hx => (h.pr x hx).keep hc (by simp), h.nb, h.nr, h.nd, h.mp, h.ml, h.mc, h.mw⟩
theorem obj_ne {w : World} {a b : Nat} {cs cs' : Array Value} {T T' : TypeId} {fr fr' : Nat × Nat} (h : w.heap[a]? = some (.cells cs T fr)) (k : w.heap[b]? = some (.cells cs' T' fr')) (hn : T ≠ T') : a ≠ b := fun e => by
  subst e; rw [h] at k; injection k with k; injection k with _ k; exact hn k
theorem PB.ppc {m : Nat} {w : World} {pp : Nat} {vl vc vw : Value} {ts : List TB} {cv wv : List Value} (h : PB m w pp vl vc vw ts cv wv) : pp ∉ vc.ownBlock.toList ∧ pp ∉ vw.ownBlock.toList := by
  constructor <;> intro hm
  · obtain ⟨cs, fr, ho⟩ := row_obj h.oc (by simpa using hm)
    exact obj_ne h.cell ho (by decide) rfl
  · obtain ⟨cs, fr, ho⟩ := row_obj h.ow (by simpa using hm)
    exact obj_ne h.cell ho (by decide) rfl
theorem PB.lnot {m : Nat} {w : World} {pp : Nat} {vl vc vw : Value} {ts : List TB} {cv wv : List Value} (h : PB m w pp vl vc vw ts cv wv) : ∀ g, vl.ownBlock = some g → g ∉ PT pp vc vw := by
  intro g hg hm
  obtain ⟨cs, fr, ho⟩ := row_obj h.ol hg
  simp only [PT, List.mem_cons, List.mem_append] at hm
  rcases hm with rfl | hm | hm
  · exact obj_ne h.cell ho (by decide) rfl
  · obtain ⟨cs', fr', ho'⟩ := row_obj h.oc (by simpa using hm)
    exact obj_ne ho ho' (by decide) rfl
  · obtain ⟨cs', fr', ho'⟩ := row_obj h.ow (by simpa using hm)
    exact obj_ne ho ho' (by decide) rfl
theorem PB.enot {m : Nat} {w : World} {pp : Nat} {vl vc vw : Value} {ts : List TB} {cv wv : List Value} (h : PB m w pp vl vc vw ts cv wv) : ∀ y ∈ PT pp vc vw, w.heap.size ≤ y ∨ ∀ cs fr, w.heap[y]? ≠ some (.cells cs 50 fr) := by
  intro y hm
  simp only [PT, List.mem_cons, List.mem_append] at hm
  refine .inr fun cs fr ho => ?_
  rcases hm with rfl | hm | hm
  · exact obj_ne h.cell ho (by decide) rfl
  · obtain ⟨cs', fr', ho'⟩ := row_obj h.oc (by simpa using hm)
    exact obj_ne ho' ho (by decide) rfl
  · obtain ⟨cs', fr', ho'⟩ := row_obj h.ow (by simpa using hm)
    exact obj_ne ho' ho (by decide) rfl
/-- One answer more. -/
theorem CM.more {m : Nat} {w : World} {cv wv : List Value} {cs : List KV} {va vb : Value} {l : KV} {k : Nat} (h : CM m w cv wv cs) (ha : w.ownsRow 0 50 2 va l.length (flatE l)) (hb : w.ownsRow 0 50 2 vb l.length (flatE l)) (hl : l.length ≤ 1099511627776)
    (hk : ∀ v ∈ cv, ∀ x, v.ownBlock = some x → x < k) (hf : ∀ x, va.ownBlock = some x → k ≤ x) (hm : m ≤ k) : CM m w (cv ++ [va]) (wv ++ [vb]) (cs ++ [l]) := by
  have at_ : ∀ {α : Type} (A : List α) (a : α) (i : Nat) (u : α), (A ++ [a])[i]? = some u → (i < A.length ∧ A[i]? = some u) ∨ (i = A.length ∧ u = a) := by
    intro α A a i u hu
    by_cases hi : i < A.length
    · rw [List.getElem?_append_left hi] at hu; exact .inl ⟨hi, hu⟩
    · rw [List.getElem?_append_right (by omega)] at hu
      have : i - A.length = 0 := by
        by_cases e : i - A.length = 0
        · exact e
        · rw [List.getElem?_eq_none (by simp; omega)] at hu; cases hu
      rw [this] at hu
      simp at hu
      exact .inr ⟨by omega, hu.symm⟩
  have h1 := h.lc
  have h2 := h.lw
  refine ⟨by simp [h1], by simp [h2], ?_, ?_, ?_, ?_, ?_⟩
  · intro i v l' hv hl'
    rcases at_ _ _ _ _ hv with ⟨a, a2⟩ | ⟨a, rfl⟩ <;> rcases at_ _ _ _ _ hl' with ⟨b, b2⟩ | ⟨b, rfl⟩
    · exact h.oc i v l' a2 b2
    · omega
    · omega
    · exact ha
  · intro i v l' hv hl'
    rcases at_ _ _ _ _ hv with ⟨a, a2⟩ | ⟨a, rfl⟩ <;> rcases at_ _ _ _ _ hl' with ⟨b, b2⟩ | ⟨b, rfl⟩
    · exact h.ow i v l' a2 b2
    · omega
    · omega
    · exact hb
  · intro l' hl'
    rcases List.mem_append.1 hl' with q | q
    · exact h.len l' q
    · simp at q; subst q; exact hl
  · intro i j v u x hv hu hvx hux
    rcases at_ _ _ _ _ hv with ⟨a, a2⟩ | ⟨a, rfl⟩ <;> rcases at_ _ _ _ _ hu with ⟨b, b2⟩ | ⟨b, rfl⟩
    · exact h.ne i j v u x a2 b2 hvx hux
    · have := hk v (List.mem_of_getElem? a2) x hvx; have := hf x hux; omega
    · have := hk u (List.mem_of_getElem? b2) x hux; have := hf x hvx; omega
    · omega
  · intro v hv x hx
    rcases List.mem_append.1 hv with q | q
    · exact h.fr v q x hx
    · simp at q; subst q; have := hf x hx; omega
theorem CM.lt {m : Nat} {w : World} {cv wv : List Value} {cs : List KV} (h : CM m w cv wv cs) : ∀ v ∈ cv, ∀ x, v.ownBlock = some x → x < w.heap.size := by
  intro v hv x hx
  obtain ⟨i, hi, rfl⟩ := List.mem_iff_getElem.1 hv
  have hic : i < cs.length := by have := h.lc; omega
  exact own_lt (h.oc i _ _ (List.getElem?_eq_getElem hi) (List.getElem?_eq_getElem hic)) hx
/-- What the last test reads. -/
structure AS (b4 b9 b11 : Nat) (x : TB) (p : Nat × Nat) (w : World) : Prop where
  a0 : w.cell? ⟨b4, 0, none⟩ = some (.pointer (some ⟨x.1, 0, none⟩))
  a1 : w.cell? ⟨b4, 1, none⟩ = some (.pointer (some ⟨x.2.2.1, 0, none⟩))
  c0 : w.cell? ⟨b9, 0, none⟩ = some (.float .f64 p.1)
  c1 : w.cell? ⟨b9, 1, none⟩ = some (.int .i64 (p.2 : Int))
  d0 : w.cell? ⟨b11, 0, none⟩ = some (.float .f64 p.1)
  d1 : w.cell? ⟨b11, 1, none⟩ = some (.int .i64 (p.2 : Int))
theorem AS.keep {b4 b9 b11 : Nat} {x : TB} {p : Nat × Nat} {w w' : World} (h : AS b4 b9 b11 x p w) (hc : Chg [] w w') : AS b4 b9 b11 x p w' :=
  ⟨hc.cell h.a0 (by simp), hc.cell h.a1 (by simp), hc.cell h.c0 (by simp), hc.cell h.c1 (by simp), hc.cell h.d0 (by simp), hc.cell h.d1 (by simp)⟩

theorem pt_c {pp : Nat} {vc vw : Value} {y : Nat} (h : y ∈ vc.ownBlock.toList) : y ∈ PT pp vc vw := List.mem_cons_of_mem _ (List.mem_append_left _ h)
theorem pt_w {pp : Nat} {vc vw : Value} {y : Nat} (h : y ∈ vw.ownBlock.toList) : y ∈ PT pp vc vw := List.mem_cons_of_mem _ (List.mem_append_right _ h)
theorem pt_p {pp : Nat} {vc vw : Value} {y : Nat} (h : y ∈ [pp]) : y ∈ PT pp vc vw := by simp only [List.mem_singleton] at h; subst h; exact List.mem_cons_self ..

set_option maxRecDepth 20000 in
set_option maxHeartbeats 2000000 in
theorem asked_spec (m pp : Nat) (vl vc vw : Value) (ts : List TB) (cv wv : List Value) (x : TB) (hx : x ∈ ts) (y : Nat) (hy : y < 18446744073709551616) (hcl : cv.length ≤ 1048576) (hwl : wv.length ≤ 1048576) (w : World) (h : PB m w pp vl vc vw ts cv wv) : Ret Try.prog 7 [.pointer (some ⟨pp, 0, none⟩), .agg [.pointer (some ⟨x.1, 0, none⟩), .pointer (some ⟨x.2.2.1, 0, none⟩)].toArray, .float .f64 y] w fun u w' => u = .bool true ∧ Chg (PT pp vc vw) w w' ∧ ∃ vc' vw' va vb l, PB m w' pp vl vc' vw' ts (cv ++ [va]) (wv ++ [vb]) ∧ ∀ cs, CM m w cv wv cs → CM m w' (cv ++ [va]) (wv ++ [vb]) (cs ++ [l]) := by
  obtain ⟨f, n, v, l, hP⟩ := (h.pr x hx).px
  have hlen := hP.rf.len
  refine Ret.enter Try.func7 rfl rfl ?_
  refine CW.seq fun kK1 kh1 => ?_
  refine CW.region fun kR2 kr2 => ?_  -- region 0
  refine WL.box (l := [.pointer (some ⟨x.1, 0, none⟩), .pointer (some ⟨x.2.2.1, 0, none⟩)]) rfl rfl rfl fun b4 u1 n4 => ?_
  have h1 := h.keep0 n4.chg
  have hP1 := hP.keep n4.chg (by simp)
  have hal := h1.alien
  have hlt := h1.ptlt
  have kb0 : u1.cell? ⟨b4, 0, none⟩ = some (.pointer (some ⟨x.1, 0, none⟩)) := by rw [cell_at n4.at_]; rfl
  have kb1 : u1.cell? ⟨b4, 1, none⟩ = some (.pointer (some ⟨x.2.2.1, 0, none⟩)) := by rw [cell_at n4.at_]; rfl
  have pc1 : u1.cell? ⟨pp, 1, none⟩ = some vc := by rw [cell_at h1.cell]; rfl
  refine WL.ev (Ev.assign rfl) rfl ?_
  refine WL.nil (kr2 _ _ _ ?_)
  refine kh1 _ _ _ ?_
  refine CW.seq fun kK3 kh3 => ?_
  refine CW.region fun kR4 kr4 => ?_  -- region 1
  refine WL.ev (Ev.fieldAddr rfl) rfl ?_
  refine WL.ev (Ev.load rfl rfl (kb0)) rfl ?_
  refine WL.call hasF13 rfl rfl (tc_Entries hP1.tc) fun va w1 h' => ?_
  obtain ⟨L, hL, ha1, hca, hfa⟩ := h'
  obtain rfl := hP1.sl.uniq hL
  obtain ⟨aa, capa, hva⟩ := own_form ha1
  subst hva
  have hP2 := hP1.keep hca (by simp)
  refine WL.ev (Ev.assign rfl) rfl ?_
  refine WL.nil (kr4 _ _ _ ?_)
  refine kh3 _ _ _ ?_
  refine CW.seq fun kK5 kh5 => ?_
  refine CW.region fun kR6 kr6 => ?_  -- region 2
  refine WL.ev (Ev.fieldAddr rfl) rfl ?_
  refine WL.ev (Ev.load rfl rfl (hca.cell kb1 (by simp))) rfl ?_
  refine WL.call hasF27 rfl rfl (ref18_Entries_spec _ _ _ _ _ hP2.rf) fun vb w2 h' => ?_
  obtain ⟨hb1, hcb, hfb⟩ := h'
  obtain ⟨ab, capb, hvb⟩ := own_form hb1
  subst hvb
  refine WL.ev (Ev.assign rfl) rfl ?_
  refine WL.nil (kr6 _ _ _ ?_)
  refine kh5 _ _ _ ?_
  refine CW.seq fun kK7 kh7 => ?_
  refine CW.region fun kR8 kr8 => ?_  -- region 3
  refine WL.ev (Ev.move rfl) rfl ?_
  refine WL.ev (Ev.move rfl) rfl ?_
  refine WL.ev (Ev.nilPtr rfl) rfl ?_
  refine WL.ev (Ev.fieldAddr rfl) rfl ?_
  refine WL.ev (Ev.load rfl rfl ((hca.trans hcb).cell pc1 (by simp))) rfl ?_
  refine WL.ev (Ev.move rfl) rfl ?_
  refine WL.buildSlice (cs := [.slice aa l.length capa]) (by decide) (by decide) rfl (by kernel_rfl) rfl fun nb x1 n25 => ?_
  have Z3 : Chg [] u1 x1 := (hca.trans hcb).trans n25.chg
  refine WL.append (m := cv.length) (news := [.slice aa l.length capa]) (by rfl) (by decide) rfl rfl (own_keep h1.oc Z3 (by simp)) rfl (fun i u hu => by rw [add_addr, Nat.zero_add, cell_at n25.at_]; exact hu) (by simp [Value.oneCell']) (by unfold maxLen; omega) (by omega) rfl fun vc2 x2 hoc hcc hlc => ?_
  refine WL.ev (Ev.nilPtr rfl) rfl ?_
  refine WL.ev (Ev.fieldAddr rfl) rfl ?_
  have hpp2 := hcc.heap (Z3.heap h1.cell (by simp)) h1.ppc.1
  obtain ⟨ac2, capc2, hvc2⟩ := own_form hoc
  subst hvc2
  refine WL.store rfl rfl rfl hpp2 (by simp) fun x3 s5 => ?_
  refine WL.nil (kr8 _ _ _ ?_)
  refine kh7 _ _ _ ?_
  refine CW.seq fun kK9 kh9 => ?_
  refine CW.region fun kR10 kr10 => ?_  -- region 4
  refine WL.ev (Ev.move rfl) rfl ?_
  refine WL.ev (Ev.move rfl) rfl ?_
  refine WL.ev (Ev.nilPtr rfl) rfl ?_
  refine WL.ev (Ev.fieldAddr rfl) rfl ?_
  refine WL.ev (Ev.load rfl rfl ((by rw [cell_at s5.at_]; rfl))) rfl ?_
  refine WL.ev (Ev.move rfl) rfl ?_
  refine WL.buildSlice (cs := [.slice ab l.length capb]) (by decide) (by decide) rfl (by kernel_rfl) rfl fun nb2 y1 n35 => ?_
  have how0 := own_keep (own_keep (own_keep (own_keep h1.ow Z3 (by simp)) hcc (fun g hg hm => h1.cw g (by simpa using hm) hg)) s5.chg (fun g hg hm => by simp only [List.mem_singleton] at hm; subst hm; exact h1.ppc.2 (by simpa using hg))) n35.chg (by simp)
  refine WL.append (m := wv.length) (news := [.slice ab l.length capb]) (by rfl) (by decide) rfl rfl how0 rfl (fun i u hu => by rw [add_addr, Nat.zero_add, cell_at n35.at_]; exact hu) (by simp [Value.oneCell']) (by unfold maxLen; omega) (by omega) rfl fun vw2 y2 how hcw hlw => ?_
  refine WL.ev (Ev.nilPtr rfl) rfl ?_
  refine WL.ev (Ev.fieldAddr rfl) rfl ?_
  have hpp5 := hcw.heap (n35.heap s5.at_) h1.ppc.2
  obtain ⟨aw2, capw2, hvw2⟩ := own_form how
  subst hvw2
  refine WL.store rfl rfl rfl hpp5 (by simp) fun y3 s8 => ?_
  have QA : Chg (PT pp vc vw) u1 y3 := (((((Z3.any (T := PT pp vc vw)).step hcc (fun y hy => .inl (pt_c hy))).step s5.chg (fun y hy => .inl (pt_p hy))).step n35.chg (by simp)).step hcw (fun y hy => .inl (pt_w hy))).step s8.chg (fun y hy => .inl (pt_p hy))
  have RA : Chg (PT pp vc vw) w1 y3 := ((((((hcb.trans n25.chg).any (T := PT pp vc vw)).step hcc (fun y hy => .inl (pt_c hy))).step s5.chg (fun y hy => .inl (pt_p hy))).step n35.chg (by simp)).step hcw (fun y hy => .inl (pt_w hy))).step s8.chg (fun y hy => .inl (pt_p hy))
  have RB : Chg (PT pp vc vw) w2 y3 := (((((n25.chg.any (T := PT pp vc vw)).step hcc (fun y hy => .inl (pt_c hy))).step s5.chg (fun y hy => .inl (pt_p hy))).step n35.chg (by simp)).step hcw (fun y hy => .inl (pt_w hy))).step s8.chg (fun y hy => .inl (pt_p hy))
  have ha3 := own_keep ha1 RA (fun g hg hm => by have := hfa g hg; have := (hlt g hm).1; omega)
  have hb3 := own_keep hb1 RB (fun g hg hm => by have := hfb g hg; have := hca.size; have := (hlt g hm).1; omega)
  have hP3 := hP1.keep QA hal
  have hB4 := QA.heap n4.at_ (fun hm => by have := (h.ptlt b4 hm).1; have := n4.ge; omega)
  have kb2 : y3.cell? ⟨b4, 0, none⟩ = some (.pointer (some ⟨x.1, 0, none⟩)) := by rw [cell_at hB4]; rfl
  have kb3 : y3.cell? ⟨b4, 1, none⟩ = some (.pointer (some ⟨x.2.2.1, 0, none⟩)) := by rw [cell_at hB4]; rfl
  have npc : ∀ g, (Value.slice ac2 (cv.length + 1) capc2).ownBlock = some g → g ∉ [pp] := fun g hg hm => by
    simp only [List.mem_singleton] at hm; subst hm; obtain ⟨_, _, ho⟩ := row_obj hoc hg; exact obj_ne hpp2 ho (by decide) rfl
  have z1 := Z3.size
  have z2 := hcc.size
  have z3 := s5.size
  have z4 := n35.size
  have z5 := n4.size
  have hmw : m ≤ w.heap.size := by have := h.mp; have := lt_of_heap h.cell; omega
  have hoc3 := own_keep (own_keep (own_keep (own_keep hoc s5.chg npc) n35.chg (by simp)) hcw (fun g hg hm => by
    rcases hlc with e | e
    · exact h1.cw g (by rw [← e]; exact hg) (by simpa using hm)
    · rw [e] at hg; cases hg; have := own_lt h1.ow (b := x1.heap.size) (by simpa using hm); omega)) s8.chg npc
  have how3 := own_keep how s8.chg (fun g hg hm => by simp only [List.mem_singleton] at hm; subst hm; obtain ⟨_, _, ho⟩ := row_obj how hg; exact obj_ne hpp5 ho (by decide) rfl)
  have hPB : PB m y3 pp vl (.slice ac2 (cv.length + 1) capc2) (.slice aw2 (wv.length + 1) capw2) ts (cv ++ [.slice aa l.length capa]) (wv ++ [.slice ab l.length capb]) := by
    refine ⟨s8.at_, own_keep h1.ol QA h1.lnot, by rw [List.length_append]; exact hoc3, by rw [List.length_append]; exact how3, fun g hg hg2 => ?_, fun z hz => (h1.pr z hz).keep QA hal, h.nb, h.nr, h.nd, h.mp, h.ml, fun g hg => ?_, fun g hg => ?_⟩
    · rcases hlc with e | e <;> rcases hlw with e2 | e2
      · exact h1.cw g (by rw [← e]; exact hg) (by rw [← e2]; exact hg2)
      · rw [e2] at hg2; cases hg2; have := own_lt h1.oc (b := y1.heap.size) (by rw [← e]; exact hg); omega
      · rw [e] at hg; cases hg; have := own_lt h1.ow (b := x1.heap.size) (by rw [← e2]; exact hg2); omega
      · rw [e2] at hg2; cases hg2; have := own_lt hoc hg; omega
    · rcases hlc with e | e
      · exact h.mc g (by rw [← e]; exact hg)
      · rw [e] at hg; cases hg; omega
    · rcases hlw with e | e
      · exact h.mw g (by rw [← e]; exact hg)
      · rw [e] at hg; cases hg; omega
  have hCM : ∀ cs, CM m w cv wv cs → CM m y3 (cv ++ [.slice aa l.length capa]) (wv ++ [.slice ab l.length capb]) (cs ++ [l]) := fun cs hc => ((hc.keep n4.chg (by simp)).keep QA h1.enot).more (k := u1.heap.size) ha3 hb3 hlen (fun v hv z hz => (hc.keep n4.chg (by simp)).lt v hv z hz) hfa (by omega)
  refine WL.nil (kr10 _ _ _ ?_)
  refine kh9 _ _ _ ?_
  refine CW.seq fun kK11 kh11 => ?_
  refine CW.region fun kR12 kr12 => ?_  -- region 5
  refine WL.ev (Ev.fieldAddr rfl) rfl ?_
  refine WL.ev (Ev.load rfl rfl (kb2)) rfl ?_
  refine WL.call hasF21 rfl rfl (tc_Often hP3.tc hP3.sl) fun u w3 h' => ?_
  obtain ⟨rfl, hco⟩ := h'
  refine WL.ev (Ev.move rfl) rfl ?_
  refine WL.ev (Ev.extract rfl rfl) rfl ?_
  refine WL.ev (Ev.extract rfl rfl) rfl ?_
  refine WL.alloc (l := [.float .f64 0, .int .i64 0]) rfl rfl fun b9 q1 n9 => ?_
  refine WL.storeAgg (vs := [.float .f64 (best l).1, .int .i64 ((best l).2 : Int)]) rfl rfl rfl (flatE_one [best l]) n9.at_ (by simp) fun q2 s9 => ?_
  have V2 : Chg [] y3 q2 := (hco.trans n9.chg).step s9.chg (fun q hq => .inr (by simp only [List.mem_singleton] at hq; have := n9.ge; have := hco.size; omega))
  refine WL.ev (Ev.assign rfl) rfl ?_
  refine WL.nil (kr12 _ _ _ ?_)
  refine kh11 _ _ _ ?_
  refine CW.seq fun kK13 kh13 => ?_
  refine CW.region fun kR14 kr14 => ?_  -- region 6
  refine WL.ev (Ev.fieldAddr rfl) rfl ?_
  refine WL.ev (Ev.load rfl rfl (V2.cell kb3 (by simp))) rfl ?_
  refine WL.call hasF28 rfl rfl (ref18_Often_spec _ _ _ _ _ (hP3.keep V2 (by simp)).rf) fun u w4 h' => ?_
  obtain ⟨rfl, hcr⟩ := h'
  refine WL.ev (Ev.move rfl) rfl ?_
  refine WL.ev (Ev.extract rfl rfl) rfl ?_
  refine WL.ev (Ev.extract rfl rfl) rfl ?_
  refine WL.alloc (l := [.float .f64 0, .int .i64 0]) rfl rfl fun b11 q3 n11 => ?_
  refine WL.storeAgg (vs := [.float .f64 (best l).1, .int .i64 ((best l).2 : Int)]) rfl rfl rfl (flatE_one [best l]) n11.at_ (by simp) fun q4 s11 => ?_
  have V4 : Chg [] y3 q4 := ((V2.trans hcr).trans n11.chg).step s11.chg (fun q hq => .inr (by simp only [List.mem_singleton] at hq; have := n11.ge; have := hcr.size; have := V2.size; omega))
  have hb9 := s11.heap ((hcr.trans n11.chg).heap s9.at_ (by simp)) (by have := lt_of_heap s9.at_; have := n11.ge; have := hcr.size; omega)
  refine WL.ev (Ev.assign rfl) rfl ?_
  refine WL.nil (kr14 _ _ _ ?_)
  refine kh13 _ _ _ ?_
  refine CW.seq fun kK15 kh15 => ?_
  refine CW.regionH (AS b4 b9 b11 x (best l)) 52 rfl hmix fun kR16 kr16 => ?_  -- region 7
  have hS : AS b4 b9 b11 x (best l) q4.drew := ⟨V4.cell kb2 (by simp), V4.cell kb3 (by simp), (by show q4.cell? _ = _; rw [cell_at hb9]; rfl), (by show q4.cell? _ = _; rw [cell_at hb9]; rfl), (by show q4.cell? _ = _; rw [cell_at s11.at_]; rfl), (by show q4.cell? _ = _; rw [cell_at s11.at_]; rfl)⟩
  have V5 : Chg [] y3 q4.drew := V4.trans (Chg.drew _ _)
  refine WH.take 0 rfl (by kernel_rfl) (by kernel_rfl) (by kernel_rfl) hS (fun w' hw' => Ev.move rfl) rfl ?_
  refine WH.take 1 rfl (by kernel_rfl) (by kernel_rfl) (by kernel_rfl) hS (fun w' hw' => Ev.move rfl) rfl ?_
  refine WH.oneCall 2 rfl (by kernel_rfl) hasF14 rfl rfl (same_spec _ _ l l hlen _ (own_keep ha3 V5 (by simp)) (own_keep hb3 V5 (by simp))) fun v w5 h' => ?_
  obtain ⟨rfl, hcs⟩ := h'
  have hS := hS.keep hcs
  have V6 := V5.trans hcs
  refine ⟨hS, ?_⟩
  refine WH.val (v' := .bool true) (by simp) ?_
  refine WH.take 3 rfl (by kernel_rfl) (by kernel_rfl) (by kernel_rfl) hS (fun w' hw' => Ev.move rfl) rfl ?_
  refine WH.takeG 4 rfl (by kernel_rfl) (by kernel_rfl) (by kernel_rfl) rfl rfl rfl rfl hS (fun w' hw' => Ev.move rfl) rfl ?_
  refine WH.takeG 5 rfl (by kernel_rfl) (by kernel_rfl) (by kernel_rfl) rfl rfl rfl rfl hS (fun w' hw' => Ev.move rfl) rfl ?_
  refine WH.takeG 6 rfl (by kernel_rfl) (by kernel_rfl) (by kernel_rfl) rfl rfl rfl rfl hS (fun w' hw' => Ev.eql_bool rfl rfl) rfl ?_
  refine WH.val (v' := .bool true) (by simp) ?_
  refine WH.take 7 rfl (by kernel_rfl) (by kernel_rfl) (by kernel_rfl) hS (fun w' hw' => Ev.pickT rfl rfl rfl) rfl ?_
  refine WH.take 8 rfl (by kernel_rfl) (by kernel_rfl) (by kernel_rfl) hS (fun w' hw' => Ev.move rfl) rfl ?_
  refine WH.takeG 9 rfl (by kernel_rfl) (by kernel_rfl) (by kernel_rfl) rfl rfl rfl rfl hS (fun w' hw' => Ev.fieldAddr rfl) rfl ?_
  refine WH.takeG 10 rfl (by kernel_rfl) (by kernel_rfl) (by kernel_rfl) rfl rfl rfl rfl hS (fun w' hw' => Ev.load rfl rfl (hw'.c1)) rfl ?_
  refine WH.takeG 11 rfl (by kernel_rfl) (by kernel_rfl) (by kernel_rfl) rfl rfl rfl rfl hS (fun w' hw' => Ev.fieldAddr rfl) rfl ?_
  refine WH.takeG 12 rfl (by kernel_rfl) (by kernel_rfl) (by kernel_rfl) rfl rfl rfl rfl hS (fun w' hw' => Ev.load rfl rfl (hw'.d1)) rfl ?_
  refine WH.takeG 13 rfl (by kernel_rfl) (by kernel_rfl) (by kernel_rfl) rfl rfl rfl rfl hS (fun w' hw' => Ev.eql rfl rfl) rfl ?_
  refine WH.val (v' := .bool true) (by simp) ?_
  refine WH.take 14 rfl (by kernel_rfl) (by kernel_rfl) (by kernel_rfl) hS (fun w' hw' => Ev.pickT rfl rfl rfl) rfl ?_
  refine WH.take 15 rfl (by kernel_rfl) (by kernel_rfl) (by kernel_rfl) hS (fun w' hw' => Ev.move rfl) rfl ?_
  refine WH.takeG 16 rfl (by kernel_rfl) (by kernel_rfl) (by kernel_rfl) rfl rfl rfl rfl hS (fun w' hw' => Ev.fieldAddr rfl) rfl ?_
  refine WH.takeG 17 rfl (by kernel_rfl) (by kernel_rfl) (by kernel_rfl) rfl rfl rfl rfl hS (fun w' hw' => Ev.load rfl rfl (hw'.c0)) rfl ?_
  refine WH.takeG 18 rfl (by kernel_rfl) (by kernel_rfl) (by kernel_rfl) rfl rfl rfl rfl hS (fun w' hw' => Ev.fieldAddr rfl) rfl ?_
  refine WH.takeG 19 rfl (by kernel_rfl) (by kernel_rfl) (by kernel_rfl) rfl rfl rfl rfl hS (fun w' hw' => Ev.load rfl rfl (hw'.d0)) rfl ?_
  refine WH.oneCallG 20 rfl (by kernel_rfl) rfl rfl rfl rfl hasF29 rfl rfl (steelyardref03_Alike_spec _ _ _) fun v w6 h' => ?_
  obtain ⟨rfl, rfl⟩ := h'
  refine ⟨hS, ?_⟩
  refine WH.val (v' := .bool true) (by simp) ?_
  refine WH.take 21 rfl (by kernel_rfl) (by kernel_rfl) (by kernel_rfl) hS (fun w' hw' => Ev.pickT rfl rfl rfl) rfl ?_
  refine WH.take 22 rfl (by kernel_rfl) (by kernel_rfl) (by kernel_rfl) hS (fun w' hw' => Ev.move rfl) rfl ?_
  refine WH.takeG 23 rfl (by kernel_rfl) (by kernel_rfl) (by kernel_rfl) rfl rfl rfl rfl hS (fun w' hw' => Ev.fieldAddr rfl) rfl ?_
  refine WH.takeG 24 rfl (by kernel_rfl) (by kernel_rfl) (by kernel_rfl) rfl rfl rfl rfl hS (fun w' hw' => Ev.load rfl rfl (hw'.a0)) rfl ?_
  refine WH.takeG 26 rfl (by kernel_rfl) (by kernel_rfl) (by kernel_rfl) rfl rfl rfl rfl hS (fun w' hw' => Ev.fieldAddr rfl) rfl ?_
  refine WH.takeG 27 rfl (by kernel_rfl) (by kernel_rfl) (by kernel_rfl) rfl rfl rfl rfl hS (fun w' hw' => Ev.load rfl rfl (hw'.a1)) rfl ?_
  refine WH.oneCallG 25 rfl (by kernel_rfl) rfl rfl rfl rfl hasF15 rfl rfl (tc_All (hP3.keep V6 (by simp)).tc) fun v w7 h' => ?_
  obtain ⟨rfl, rfl⟩ := h'
  refine ⟨hS, ?_⟩
  refine WH.oneCallG 28 rfl (by kernel_rfl) rfl rfl rfl rfl hasF30 rfl rfl (ref18_All_spec _ _ _ _ _ (hP3.keep V6 (by simp)).rf) fun v w8 h' => ?_
  obtain ⟨rfl, rfl⟩ := h'
  refine ⟨hS, ?_⟩
  refine WH.takeG 29 rfl (by kernel_rfl) (by kernel_rfl) (by kernel_rfl) rfl rfl rfl rfl hS (fun w' hw' => Ev.eql rfl rfl) rfl ?_
  refine WH.val (v' := .bool true) (by rw [hP3.tc.tot hP3.sl]; simp) ?_
  refine WH.take 30 rfl (by kernel_rfl) (by kernel_rfl) (by kernel_rfl) hS (fun w' hw' => Ev.pickT rfl rfl rfl) rfl ?_
  refine WH.take 31 rfl (by kernel_rfl) (by kernel_rfl) (by kernel_rfl) hS (fun w' hw' => Ev.move rfl) rfl ?_
  refine WH.takeG 32 rfl (by kernel_rfl) (by kernel_rfl) (by kernel_rfl) rfl rfl rfl rfl hS (fun w' hw' => Ev.fieldAddr rfl) rfl ?_
  refine WH.takeG 33 rfl (by kernel_rfl) (by kernel_rfl) (by kernel_rfl) rfl rfl rfl rfl hS (fun w' hw' => Ev.load rfl rfl (hw'.a0)) rfl ?_
  refine WH.takeG 35 rfl (by kernel_rfl) (by kernel_rfl) (by kernel_rfl) rfl rfl rfl rfl hS (fun w' hw' => Ev.fieldAddr rfl) rfl ?_
  refine WH.takeG 36 rfl (by kernel_rfl) (by kernel_rfl) (by kernel_rfl) rfl rfl rfl rfl hS (fun w' hw' => Ev.load rfl rfl (hw'.a1)) rfl ?_
  refine WH.oneCallG 34 rfl (by kernel_rfl) rfl rfl rfl rfl hasF19 rfl rfl (tc_Unlike (hP3.keep V6 (by simp)).tc hP3.sl) fun v w9 h' => ?_
  obtain ⟨rfl, rfl⟩ := h'
  refine ⟨hS, ?_⟩
  refine WH.oneCallG 37 rfl (by kernel_rfl) rfl rfl rfl rfl hasF31 rfl rfl (ref18_Unlike_spec _ _ _ _ _ (hP3.keep V6 (by simp)).rf) fun v w10 h' => ?_
  obtain ⟨rfl, rfl⟩ := h'
  refine ⟨hS, ?_⟩
  refine WH.takeG 38 rfl (by kernel_rfl) (by kernel_rfl) (by kernel_rfl) rfl rfl rfl rfl hS (fun w' hw' => Ev.eql rfl rfl) rfl ?_
  refine WH.val (v' := .bool true) (by simp) ?_
  refine WH.take 39 rfl (by kernel_rfl) (by kernel_rfl) (by kernel_rfl) hS (fun w' hw' => Ev.pickT rfl rfl rfl) rfl ?_
  refine WH.take 40 rfl (by kernel_rfl) (by kernel_rfl) (by kernel_rfl) hS (fun w' hw' => Ev.move rfl) rfl ?_
  refine WH.takeG 41 rfl (by kernel_rfl) (by kernel_rfl) (by kernel_rfl) rfl rfl rfl rfl hS (fun w' hw' => Ev.fieldAddr rfl) rfl ?_
  refine WH.takeG 42 rfl (by kernel_rfl) (by kernel_rfl) (by kernel_rfl) rfl rfl rfl rfl hS (fun w' hw' => Ev.load rfl rfl (hw'.a0)) rfl ?_
  refine WH.takeG 43 rfl (by kernel_rfl) (by kernel_rfl) (by kernel_rfl) rfl rfl rfl rfl hS (fun w' hw' => Ev.move rfl) rfl ?_
  refine WH.takeG 45 rfl (by kernel_rfl) (by kernel_rfl) (by kernel_rfl) rfl rfl rfl rfl hS (fun w' hw' => Ev.fieldAddr rfl) rfl ?_
  refine WH.takeG 46 rfl (by kernel_rfl) (by kernel_rfl) (by kernel_rfl) rfl rfl rfl rfl hS (fun w' hw' => Ev.load rfl rfl (hw'.a1)) rfl ?_
  refine WH.takeG 47 rfl (by kernel_rfl) (by kernel_rfl) (by kernel_rfl) rfl rfl rfl rfl hS (fun w' hw' => Ev.move rfl) rfl ?_
  refine WH.oneCallG 44 rfl (by kernel_rfl) rfl rfl rfl rfl hasF18 rfl rfl (tc_Count hy (hP3.keep V6 (by simp)).tc) fun v w11 h' => ?_
  obtain ⟨rfl, rfl⟩ := h'
  have hS := hS.keep (Chg.drew [] _)
  have V7 := V6.trans (Chg.drew [] _)
  refine ⟨hS, ?_⟩
  refine WH.oneCallG 48 rfl (by kernel_rfl) rfl rfl rfl rfl hasF32 rfl rfl (ref18_Count_spec _ y hy _ _ _ _ (hP3.keep V7 (by simp)).rf) fun v w12 h' => ?_
  obtain ⟨rfl, rfl⟩ := h'
  have hS := hS.keep (Chg.drew [] _)
  have V8 := V7.trans (Chg.drew [] _)
  refine ⟨hS, ?_⟩
  refine WH.takeG 49 rfl (by kernel_rfl) (by kernel_rfl) (by kernel_rfl) rfl rfl rfl rfl hS (fun w' hw' => Ev.eql rfl rfl) rfl ?_
  refine WH.val (v' := .bool true) (by rw [hP3.sl.cnt]; simp) ?_
  refine WH.take 50 rfl (by kernel_rfl) (by kernel_rfl) (by kernel_rfl) hS (fun w' hw' => Ev.pickT rfl rfl rfl) rfl ?_
  refine WH.take 51 rfl (by kernel_rfl) (by kernel_rfl) (by kernel_rfl) hS (fun w' hw' => Ev.assign rfl) rfl ?_
  refine WH.done (by kernel_rfl) (kr16 _ _ _ ?_)
  refine kh15 _ _ _ ?_
  refine CW.ret ?_
  refine bodyA.ret1 rfl rfl ?_
  exact ⟨rfl, ((n4.chg.any (T := PT pp vc vw)).trans QA).trans V8.any, _, _, _, _, l, hPB.keep0 V8, fun cs hc => (hCM cs hc).keep V8 (by simp)⟩

end Go.Proofs.Ytjlmenmlpmfokaa
