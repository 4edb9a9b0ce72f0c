/- Package steelyardlaw18: play.owned. No condition. -/
import Derived.Test.YtjlmenmlpmfokaaOwnedInv
namespace Go.Proofs.Ytjlmenmlpmfokaa
open Go Sx Fl Ty
set_option linter.unusedVariables false
set_option linter.unusedSimpArgs false

/-- What the first test reads. -/
structure RO (pp gc gw i : Nat) (vc vw a b : Value) (w : World) : Prop where
  c1 : w.cell? ⟨pp, 1, none⟩ = some vc
  c2 : w.cell? ⟨pp, 2, none⟩ = some vw
  d1 : w.cell? ⟨gc, i, none⟩ = some a
  d2 : w.cell? ⟨gw, i, none⟩ = some b
theorem RO.keep {pp gc gw i : Nat} {vc vw a b : Value} {w w' : World} (h : RO pp gc gw i vc vw a b w) (hc : Chg [] w w') : RO pp gc gw i vc vw a b w' :=
  ⟨hc.cell h.c1 (by simp), hc.cell h.c2 (by simp), hc.cell h.d1 (by simp), hc.cell h.d2 (by simp)⟩
structure J1 (w : World) (cv : List Value) (i : Nat) (wr : World) : Prop where
  le : i ≤ cv.length
  chg : Chg [] w wr
/-- The outer loop of the second part. -/
structure J2 (m : Nat) (w : World) (pp : Nat) (vl vc vw : Value) (ts : List TB) (cv wv : List Value) (cs : List KV) (g : Nat × Value × List Value) (wr : World) : Prop where
  le : g.1 ≤ cv.length
  ow : OW m w pp vl vc vw ts cv wv cs g.1 g.2.1 g.2.2 wr
  al : g.2.2.length = g.1 * 4
structure J3 (m : Nat) (w : World) (pp : Nat) (vl vc vw : Value) (ts : List TB) (cv wv : List Value) (cs : List KV) (i : Nat) (va : Value) (AL : List Value) (n : Nat) (x : Value) (k : Nat) (wr : World) : Prop where
  le : k ≤ n
  ow : OW m w pp vl vc vw ts cv wv cs (i + 1) va AL wr
  own : ∃ xs, wr.ownsRow 0 50 2 x n xs ∧ wrC i k xs
structure J4 (m : Nat) (w : World) (pp : Nat) (vl vc vw : Value) (ts : List TB) (cv wv : List Value) (cs : List KV) (i n : Nat) (g : Nat × Value × List Value × Value) (wr : World) : Prop where
  le : g.1 ≤ 4
  ow : OW m w pp vl vc vw ts cv wv cs (i + 1) g.2.1 g.2.2.1 wr
  al : g.2.2.1.length = i * 4 + g.1
  own : ∃ xs, wr.ownsRow 0 50 2 g.2.2.2 (n + g.1) xs ∧ wrC i (n + g.1) xs
  mx : ∀ z, g.2.2.2.ownBlock = some z → m ≤ z
  hd : ∀ (j : Nat) (u : Value) (z : Nat), i + 1 ≤ j → cv[j]? = some u → g.2.2.2.ownBlock = some z → u.ownBlock ≠ some z
  hx : ∀ (t : Nat) (v : Value) (z : Nat), g.2.2.1[t]? = some v → v.ownBlock = some z → g.2.2.2.ownBlock = some z → t / 4 = i ∧ ∃ a mm cap, v = .slice a mm cap ∧ mm ≤ n + g.1
structure J5 (w2 : World) (AL : List Value) (i : Nat) (wr : World) : Prop where
  le : i ≤ AL.length
  eq : wr = w2
structure J6 (w2 : World) (n : Nat) (k : Nat) (wr : World) : Prop where
  le : k ≤ n
  eq : wr = w2
theorem getV {l : List Value} {i : Nat} (h : i < l.length) : ∃ x, l[i]? = some x := ⟨l[i], by simp⟩
theorem getC {l : List KV} {i : Nat} (h : i < l.length) : ∃ x, l[i]? = some x := ⟨l[i], by simp⟩

set_option maxRecDepth 20000 in
set_option maxHeartbeats 2000000 in
theorem owned_spec (m pp : Nat) (vl vc vw : Value) (ts : List TB) (cv wv : List Value) (cs : List KV) (hlen : cs.length ≤ 4000) (w : World) (h : PB m w pp vl vc vw ts cv wv) (hm : CM m w cv wv cs) : Ret Try.prog 8 [.pointer (some ⟨pp, 0, none⟩)] w fun u w' => u = .bool true ∧ PB m w' pp vl vc vw ts cv wv ∧ RowKit.Below m w w' := by
  obtain ⟨acv, capcv, hvc⟩ := own_form h.oc
  obtain ⟨awv, capwv, hvw⟩ := own_form h.ow
  refine Ret.enter Try.func8 rfl rfl ?_
  refine CW.seq fun kK1 kh1 => ?_
  refine CW.region fun kR2 kr2 => ?_  -- region 0
  refine WL.ev (Ev.assign rfl) rfl ?_
  refine WL.nil (kr2 _ _ _ ?_)
  refine kh1 _ _ _ ?_
  refine CW.seq fun kK3 kh3 => ?_
  refine CW.region fun kR4 kr4 => ?_  -- region 1
  refine WL.ev (Ev.assign rfl) rfl ?_
  refine WL.nil (kr4 _ _ _ ?_)
  refine kh3 _ _ _ ?_
  refine CW.seq fun kK5 kh5 => ?_
  refine CW.seq fun kK6 kh6 => ?_
  refine CW.region fun kR7 kr7 => ?_  -- region 2
  refine WL.ev (Ev.assign rfl) rfl ?_
  refine WL.nil (kr7 _ _ _ ?_)
  refine kh6 _ _ _ ?_
  refine CW.block ?_
  refine CW.loop (S := fun i : Nat => [(0, .pointer (some ⟨pp, 0, none⟩)), (2, .bool false), (3, .slice none 0 0), (4, .int .i64 (i : Int))]) (Inv := J1 w cv) (mu := fun i => cv.length - i) (0) ?_ ?_ ?_
  ·
    exact ⟨Nat.zero_le _, Chg.refl _ _⟩
  ·
    repeat (first | exact Subs.nil | refine Subs.cons rfl ?_)
  ·
    intro i wr hi
    have hle := hi.le
    have h1 := h.keep0 hi.chg
    have hm1 := hm.keep hi.chg (by simp)
    have k1 : wr.cell? ⟨pp, 1, none⟩ = some vc := by rw [cell_at h1.cell]; rfl
    refine CW.seq fun kK8 kh8 => ?_
    refine CW.seq fun kK9 kh9 => ?_
    refine CW.region fun kR10 kr10 => ?_  -- region 3
    refine WL.ev (Ev.move rfl) rfl ?_
    refine WL.ev (Ev.move rfl) rfl ?_
    refine WL.ev (Ev.nilPtr rfl) rfl ?_
    refine WL.ev (Ev.fieldAddr rfl) rfl ?_
    refine WL.ev (Ev.load rfl rfl k1) rfl ?_
    rw [hvc]
    refine WL.ev (Ev.len rfl) rfl ?_
    refine WL.ev (Ev.lss rfl rfl) rfl ?_
    refine WL.nil (kr10 _ _ _ ?_)
    refine kh9 _ _ _ ?_
    refine CW.cond rfl (fun hc1 => ?_) (fun hc1 => ?_)  -- if 18
    ·
      simp only [decide_eq_true_eq, decide_eq_false_iff_not, Decidable.not_not, Bool.and_eq_true, Bool.or_eq_true, Bool.not_eq_true', ne_eq, Int.not_lt, Int.not_le] at hc1
      obtain ⟨a, ha⟩ := getV (l := cv) (i := i) (by omega)
      have hcl := hm.lc
      have hwl := hm.lw
      obtain ⟨b, hb⟩ := getV (l := wv) (i := i) (by omega)
      obtain ⟨l, hl⟩ := getC (l := cs) (i := i) (by omega)
      have hll := hm.len l (List.mem_of_getElem? hl)
      have hoc1 := h1.oc
      have how1 := h1.ow
      rw [hvc] at hoc1
      rw [hvw] at how1
      obtain ⟨gc, hgc, hkc⟩ := own_cell hoc1 (by omega)
      obtain ⟨gw, hgw, hkw⟩ := own_cell how1 (by omega)
      subst hgc
      subst hgw
      have hoa := hm1.oc i a l ha hl
      have hob := hm1.ow i b l hb hl
      obtain ⟨aa, capa, hva⟩ := own_form hoa
      obtain ⟨ab, capb, hvb⟩ := own_form hob
      subst hva
      subst hvb
      refine CW.skip ?_
      refine kh8 _ _ _ ?_
      refine CW.seq fun kK11 kh11 => ?_
      refine CW.block ?_
      refine CW.seq fun kK12 kh12 => ?_
      refine CW.regionH (RO pp gc gw i (.slice (some ⟨gc, 0, none⟩) cv.length capcv) (.slice (some ⟨gw, 0, none⟩) wv.length capwv) (.slice aa l.length capa) (.slice ab l.length capb)) 16 rfl hmix fun kR13 kr13 => ?_  -- region 5
      have hS : RO pp gc gw i (.slice (some ⟨gc, 0, none⟩) cv.length capcv) (.slice (some ⟨gw, 0, none⟩) wv.length capwv) (.slice aa l.length capa) (.slice ab l.length capb) wr.drew := ⟨(by rw [← hvc]; exact k1), (by show wr.cell? _ = _; rw [cell_at h1.cell, ← hvw]; rfl), hkc _ _ ha, hkw _ _ hb⟩
      refine WH.take 0 rfl (by kernel_rfl) (by kernel_rfl) (by kernel_rfl) hS (fun w' hw' => Ev.move rfl) rfl ?_
      refine WH.take 1 rfl (by kernel_rfl) (by kernel_rfl) (by kernel_rfl) hS (fun w' hw' => Ev.nilPtr rfl) rfl ?_
      refine WH.take 2 rfl (by kernel_rfl) (by kernel_rfl) (by kernel_rfl) hS (fun w' hw' => Ev.fieldAddr rfl) rfl ?_
      refine WH.take 3 rfl (by kernel_rfl) (by kernel_rfl) (by kernel_rfl) hS (fun w' hw' => Ev.load rfl rfl (hw'.c1)) rfl ?_
      refine WH.take 4 rfl (by kernel_rfl) (by kernel_rfl) (by kernel_rfl) hS (fun w' hw' => Ev.move rfl) rfl ?_
      refine WH.take 5 rfl (by kernel_rfl) (by kernel_rfl) (by kernel_rfl) hS (fun w' hw' => Ev.indexAddr rfl rfl (by omega) (by omega)) rfl ?_
      refine WH.take 6 rfl (by kernel_rfl) (by kernel_rfl) (by kernel_rfl) hS (fun w' hw' => Ev.load rfl rfl (by simpa using hw'.d1)) rfl ?_
      refine WH.take 7 rfl (by kernel_rfl) (by kernel_rfl) (by kernel_rfl) hS (fun w' hw' => Ev.move rfl) rfl ?_
      refine WH.take 8 rfl (by kernel_rfl) (by kernel_rfl) (by kernel_rfl) hS (fun w' hw' => Ev.nilPtr rfl) rfl ?_
      refine WH.take 9 rfl (by kernel_rfl) (by kernel_rfl) (by kernel_rfl) hS (fun w' hw' => Ev.fieldAddr rfl) rfl ?_
      refine WH.take 10 rfl (by kernel_rfl) (by kernel_rfl) (by kernel_rfl) hS (fun w' hw' => Ev.load rfl rfl (hw'.c2)) rfl ?_
      refine WH.take 11 rfl (by kernel_rfl) (by kernel_rfl) (by kernel_rfl) hS (fun w' hw' => Ev.move rfl) rfl ?_
      refine WH.take 12 rfl (by kernel_rfl) (by kernel_rfl) (by kernel_rfl) hS (fun w' hw' => Ev.indexAddr rfl rfl (by omega) (by omega)) rfl ?_
      refine WH.take 13 rfl (by kernel_rfl) (by kernel_rfl) (by kernel_rfl) hS (fun w' hw' => Ev.load rfl rfl (by simpa using hw'.d2)) rfl ?_
      refine WH.oneCall 14 rfl (by kernel_rfl) hasF14 rfl rfl (same_spec _ _ l l hll _ (own_keep hoa (Chg.drew [] _) (by simp)) (own_keep hob (Chg.drew [] _) (by simp))) fun v w1 h' => ?_
      obtain ⟨rfl, hcs⟩ := h'
      rw [show decide (l = l) = true from decide_eq_true rfl]
      have hS := hS.keep hcs
      refine ⟨hS, ?_⟩
      refine WH.take 15 rfl (by kernel_rfl) (by kernel_rfl) (by kernel_rfl) hS (fun w' hw' => Ev.assign rfl) rfl ?_
      refine WH.done (by kernel_rfl) (kr13 _ _ _ ?_)
      refine kh12 _ _ _ ?_
      refine CW.seq fun kK14 kh14 => ?_
      refine CW.region fun kR15 kr15 => ?_  -- region 6
      refine WL.ev (Ev.move rfl) rfl ?_
      refine WL.ev (Ev.not rfl) rfl ?_
      refine WL.nil (kr15 _ _ _ ?_)
      refine kh14 _ _ _ ?_
      refine CW.condF rfl ?_
      refine CW.skip ?_
      refine kh11 _ _ _ ?_
      refine CW.region fun kR16 kr16 => ?_  -- region 4
      refine WL.ev (Ev.move rfl) rfl ?_
      first | refine WL.ev (Ev.addIn rfl rfl (by omega)) rfl ?_ | refine WL.ev (Ev.add rfl rfl) rfl ?_
      refine WL.ev (Ev.assign rfl) rfl ?_
      refine WL.nil (kr16 _ _ _ ?_)
      refine ⟨rfl, i + 1, ?_, ?_, ?_⟩
      ·
        repeat (first | exact Subs.nil | refine Subs.cons rfl ?_)
      ·
        exact ⟨by omega, (hi.chg.trans (Chg.drew _ _)).trans hcs⟩
      ·
        show cv.length - (i + 1) < cv.length - i; omega
    ·
      simp only [decide_eq_true_eq, decide_eq_false_iff_not, Decidable.not_not, Bool.and_eq_true, Bool.or_eq_true, Bool.not_eq_true', ne_eq, Int.not_lt, Int.not_le] at hc1
      refine CW.exit ?_  -- exit 0
      refine kh5 _ _ _ ?_
      refine CW.seq fun kK17 kh17 => ?_
      refine CW.seq fun kK18 kh18 => ?_
      have hmw : m ≤ w.heap.size := by have := h.mp; have := lt_of_heap h.cell; omega
      refine CW.region fun kR19 kr19 => ?_  -- region 8
      refine WL.ev (Ev.assign rfl) rfl ?_
      refine WL.nil (kr19 _ _ _ ?_)
      refine kh18 _ _ _ ?_
      refine CW.block ?_
      refine CW.loop (S := fun g : Nat × Value × List Value => [(0, .pointer (some ⟨pp, 0, none⟩)), (2, .bool false), (3, g.2.1), (6, .int .i64 (g.1 : Int))]) (Inv := J2 m w pp vl vc vw ts cv wv cs) (mu := fun g => cv.length - g.1) ((0, .slice none 0 0, [])) ?_ ?_ ?_
      ·
        exact ⟨Nat.zero_le _, ⟨h.keep0 hi.chg, fun j v l _ a b => (hm.keep hi.chg (by simp)).oc j v l a b, ⟨rfl, .inl ⟨rfl, rfl⟩⟩, (fun t v hv => by simp at hv), (fun t v z hv => by simp at hv), (fun t j v u z hv => by simp at hv), (fun z hz => by cases hz), below_chg hi.chg (by simp) hmw, hmw⟩, rfl⟩
      ·
        repeat (first | exact Subs.nil | refine Subs.cons rfl ?_)
      ·
        rintro ⟨i, va, AL⟩ wr hi
        have hle := hi.le
        have how := hi.ow
        have hal := hi.al
        dsimp only at hle how hal
        have k1 : wr.cell? ⟨pp, 1, none⟩ = some vc := by rw [cell_at how.pb.cell]; rfl
        refine CW.seq fun kK20 kh20 => ?_
        refine CW.seq fun kK21 kh21 => ?_
        refine CW.region fun kR22 kr22 => ?_  -- region 9
        refine WL.ev (Ev.move rfl) rfl ?_
        refine WL.ev (Ev.move rfl) rfl ?_
        refine WL.ev (Ev.nilPtr rfl) rfl ?_
        refine WL.ev (Ev.fieldAddr rfl) rfl ?_
        refine WL.ev (Ev.load rfl rfl k1) rfl ?_
        rw [hvc]
        refine WL.ev (Ev.len rfl) rfl ?_
        refine WL.ev (Ev.lss rfl rfl) rfl ?_
        refine WL.nil (kr22 _ _ _ ?_)
        refine kh21 _ _ _ ?_
        refine CW.cond rfl (fun hc3 => ?_) (fun hc3 => ?_)  -- if 44
        ·
          simp only [decide_eq_true_eq, decide_eq_false_iff_not, Decidable.not_not, Bool.and_eq_true, Bool.or_eq_true, Bool.not_eq_true', ne_eq, Int.not_lt, Int.not_le] at hc3
          have hcl := hm.lc
          obtain ⟨a, hcvi⟩ := getV (l := cv) (i := i) (by omega)
          obtain ⟨l, hl⟩ := getC (l := cs) (i := i) (by omega)
          have hll := hm.len l (List.mem_of_getElem? hl)
          have hoc1 := how.pb.oc
          rw [hvc] at hoc1
          obtain ⟨gc, hgc, hkc⟩ := own_cell hoc1 (by omega)
          subst hgc
          have hox := how.rows i a l (Nat.le_refl _) hcvi hl
          obtain ⟨ax, capx, hva⟩ := own_form hox
          subst hva
          refine CW.skip ?_
          refine kh20 _ _ _ ?_
          refine CW.seq fun kK23 kh23 => ?_
          refine CW.block ?_
          refine CW.seq fun kK24 kh24 => ?_
          refine CW.region fun kR25 kr25 => ?_  -- region 11
          refine WL.ev (Ev.move rfl) rfl ?_
          refine WL.ev (Ev.nilPtr rfl) rfl ?_
          refine WL.ev (Ev.fieldAddr rfl) rfl ?_
          refine WL.ev (Ev.load rfl rfl k1) rfl ?_
          rw [hvc]
          refine WL.ev (Ev.move rfl) rfl ?_
          refine WL.ev (Ev.indexAddr rfl rfl (by omega) (by omega)) rfl ?_
          rw [show 0 + (((i : Nat) : Int)).toNat * 1 = i by omega]
          refine WL.ev (Ev.load rfl rfl (hkc _ _ hcvi)) rfl ?_
          refine WL.ev (Ev.assign rfl) rfl ?_
          refine WL.nil (kr25 _ _ _ ?_)
          refine kh24 _ _ _ ?_
          refine CW.seq fun kK26 kh26 => ?_
          refine CW.seq fun kK27 kh27 => ?_
          refine CW.region fun kR28 kr28 => ?_  -- region 12
          refine WL.ev (Ev.assign rfl) rfl ?_
          refine WL.nil (kr28 _ _ _ ?_)
          refine kh27 _ _ _ ?_
          refine CW.block ?_
          refine CW.loop (S := fun k : Nat => [(0, .pointer (some ⟨pp, 0, none⟩)), (2, .bool false), (3, va), (6, .int .i64 (i : Int)), (7, .slice ax l.length capx), (8, .int .i64 (k : Int))]) (Inv := J3 m w pp vl vc vw ts cv wv cs i va AL l.length (.slice ax l.length capx)) (mu := fun k => l.length - k) (0) ?_ ?_ ?_
          ·
            exact ⟨Nat.zero_le _, how.keep0 (Nat.le_succ _) (Chg.refl _ _), _, hox, fun k hk => by omega⟩
          ·
            repeat (first | exact Subs.nil | refine Subs.cons rfl ?_)
          ·
            intro k wq hq
            have hkl := hq.le
            have hoq := hq.ow
            obtain ⟨xs, hxo, hxw⟩ := hq.own
            refine CW.seq fun kK29 kh29 => ?_
            refine CW.seq fun kK30 kh30 => ?_
            refine CW.region fun kR31 kr31 => ?_  -- region 13
            refine WL.ev (Ev.move rfl) rfl ?_
            refine WL.ev (Ev.move rfl) rfl ?_
            refine WL.ev (Ev.len rfl) rfl ?_
            refine WL.ev (Ev.lss rfl rfl) rfl ?_
            refine WL.nil (kr31 _ _ _ ?_)
            refine kh30 _ _ _ ?_
            refine CW.cond rfl (fun hc4 => ?_) (fun hc4 => ?_)  -- if 57
            ·
              simp only [decide_eq_true_eq, decide_eq_false_iff_not, Decidable.not_not, Bool.and_eq_true, Bool.or_eq_true, Bool.not_eq_true', ne_eq, Int.not_lt, Int.not_le] at hc4
              have hkn : k < l.length := by omega
              obtain ⟨gx, capx2, cur, hvx, hcur, hcl2⟩ : ∃ (gx c : Nat) (cur : List Value), (Value.slice ax l.length capx) = .slice (some ⟨gx, 0, none⟩) l.length c ∧ wq.heap[gx]? = some (.cells cur.toArray 50 (0, 0)) ∧ k * 2 + 2 ≤ cur.length := by
                rcases hxo.2 with ⟨e0, e1⟩ | ⟨g', c, cur, e0, q1, q2, q3, q4, q5, q6⟩
                · omega
                · exact ⟨g', c, cur.toList, e0, by simpa using q2, by simp only [Array.length_toList]; omega⟩
              cases hvx
              refine CW.skip ?_
              refine kh29 _ _ _ ?_
              refine CW.seq fun kK32 kh32 => ?_
              refine CW.block ?_
              refine CW.region fun kR33 kr33 => ?_  -- region 15
              refine WL.ev (Ev.move rfl) rfl ?_
              refine WL.ev (Ev.move rfl) rfl ?_
              refine WL.ev (Ev.move rfl) rfl ?_
              refine WL.ev (Ev.convF rfl rfl) rfl ?_
              refine WL.ev (Ev.move rfl) rfl ?_
              refine WL.ev (Ev.neg rfl) rfl ?_
              rw [show (0 : Int) - (i : Int) = -(i : Int) by omega, wrap_i64 (by omega)]
              refine WL.ev (Ev.build (vs := [(0, .float .f64 (fI i)), (1, .int .i64 (-(i : Int)))]) (cs := [.float .f64 (fI i), .int .i64 (-(i : Int))]) rfl rfl) rfl ?_
              refine WL.ev (Ev.indexAddr rfl rfl (by omega) (by omega)) rfl ?_
              rw [show 0 + (((k : Nat) : Int)).toNat * 2 = k * 2 by omega]
              refine WL.storeAgg (vs := [.float .f64 (fI i), .int .i64 (-(i : Int))]) rfl rfl rfl (by simp [Value.oneCell']) hcur (by simpa using hcl2) fun ws hu => ?_
              refine WL.nil (kr33 _ _ _ ?_)
              refine kh32 _ _ _ ?_
              refine CW.region fun kR34 kr34 => ?_  -- region 14
              refine WL.ev (Ev.move rfl) rfl ?_
              first | refine WL.ev (Ev.addIn rfl rfl (by omega)) rfl ?_ | refine WL.ev (Ev.add rfl rfl) rfl ?_
              refine WL.ev (Ev.assign rfl) rfl ?_
              refine WL.nil (kr34 _ _ _ ?_)
              refine ⟨rfl, k + 1, ?_, ?_, ?_⟩
              ·
                repeat (first | exact Subs.nil | refine Subs.cons rfl ?_)
              ·
                have hxo3 := own_store2 hxo hkn hcur hu
                refine ⟨by omega, hoq.keep (Nat.le_refl _) hu.chg (fun y hy => ?_) (fun y hy j u hj hcj hub => ?_) (fun y hy t v hv hvb => ?_), _, hxo3, wrC_set hxw hxo.1 hkn⟩
                · simp only [List.mem_singleton] at hy; subst hy; exact ⟨hm.fr _ (List.mem_of_getElem? hcvi) _ rfl, _, _, hcur⟩
                · simp only [List.mem_singleton] at hy; subst hy; have := hm.ne i j _ _ _ hcvi hcj rfl hub; omega
                · simp only [List.mem_singleton] at hy; subst hy; exact how.ds t i v _ _ hv (Nat.le_refl _) hcvi hvb rfl
              ·
                show l.length - (k + 1) < l.length - k; omega
            ·
              simp only [decide_eq_true_eq, decide_eq_false_iff_not, Decidable.not_not, Bool.and_eq_true, Bool.or_eq_true, Bool.not_eq_true', ne_eq, Int.not_lt, Int.not_le] at hc4
              refine CW.exit ?_  -- exit 4
              refine kh26 _ _ _ ?_
              refine CW.seq fun kK35 kh35 => ?_
              refine CW.region fun kR36 kr36 => ?_  -- region 16
              refine WL.ev (Ev.assign rfl) rfl ?_
              refine WL.nil (kr36 _ _ _ ?_)
              refine kh35 _ _ _ ?_
              refine CW.block ?_
              refine CW.loop (S := fun g : Nat × Value × List Value × Value => [(0, .pointer (some ⟨pp, 0, none⟩)), (2, .bool false), (3, g.2.1), (6, .int .i64 (i : Int)), (7, g.2.2.2), (9, .int .i64 (g.1 : Int))]) (Inv := J4 m w pp vl vc vw ts cv wv cs i l.length) (mu := fun g => 4 - g.1) ((0, va, AL, .slice ax l.length capx)) ?_ ?_ ?_
              ·
                have hkl2 : k = l.length := by omega
                subst hkl2
                obtain ⟨xs, hxo, hxw⟩ := hq.own
                exact ⟨by dsimp only; omega, hq.ow, by dsimp only; omega, ⟨xs, hxo, hxw⟩, fun z hz => hm.fr _ (List.mem_of_getElem? hcvi) z hz, fun j u z hj hcj hz hub => by have := hm.ne i j _ _ _ hcvi hcj hz hub; omega, fun t v z hv hvz hxz => (how.ds t i v _ z hv (Nat.le_refl _) hcvi hvz hxz).elim⟩
              ·
                repeat (first | exact Subs.nil | refine Subs.cons rfl ?_)
              ·
                rintro ⟨k, va4, AL4, x⟩ wq hq
                have hk4l := hq.le
                have hoq := hq.ow
                have hal4 := hq.al
                obtain ⟨xs, hxo, hxw⟩ := hq.own
                have hqm := hq.mx
                have hqd := hq.hd
                have hqx := hq.hx
                dsimp only at hk4l hoq hal4 hxo hxw hqm hqd hqx
                refine CW.seq fun kK37 kh37 => ?_
                refine CW.seq fun kK38 kh38 => ?_
                refine CW.region fun kR39 kr39 => ?_  -- region 17
                refine WL.ev (Ev.move rfl) rfl ?_
                refine WL.ev (Ev.lss rfl rfl) rfl ?_
                refine WL.nil (kr39 _ _ _ ?_)
                refine kh38 _ _ _ ?_
                refine CW.cond rfl (fun hc5 => ?_) (fun hc5 => ?_)  -- if 69
                ·
                  simp only [decide_eq_true_eq, decide_eq_false_iff_not, Decidable.not_not, Bool.and_eq_true, Bool.or_eq_true, Bool.not_eq_true', ne_eq, Int.not_lt, Int.not_le] at hc5
                  have hcl3 := hm.lc
                  have hxo0 := hxo
                  obtain ⟨ax4, capx4, hx4⟩ := own_form hxo
                  subst hx4
                  have hfx : Full wq (.slice ax4 (l.length + k) capx4) i := Full.of_own (n := 0) hxo hxw (by omega)
                  have hdi : AL4.length / 4 = i := by omega
                  refine CW.skip ?_
                  refine kh37 _ _ _ ?_
                  refine CW.seq fun kK40 kh40 => ?_
                  refine CW.block ?_
                  refine CW.seq fun kK41 kh41 => ?_
                  refine CW.region fun kR42 kr42 => ?_  -- region 19
                  refine WL.ev (Ev.move rfl) rfl ?_
                  refine WL.ev (Ev.move rfl) rfl ?_
                  refine WL.buildSlice (cs := [.slice ax4 (l.length + k) capx4]) (by decide) (by decide) rfl (by kernel_rfl) rfl fun nb w1 n74 => ?_
                  refine WL.append (m := AL4.length) (news := [.slice ax4 (l.length + k) capx4]) (by rfl) (by decide) rfl rfl (own_keep hoq.al n74.chg (by simp)) rfl (fun i u hu => by rw [add_addr, Nat.zero_add, cell_at n74.at_]; exact hu) (by simp [Value.oneCell']) (by unfold maxLen; omega) (by omega) rfl fun va5 w2 hov hcv hlv => ?_
                  have how5 := (hoq.keep0 (Nat.le_refl _) n74.chg).put h hcv hov hlv (by rw [hdi]; exact hfx.keep n74.chg (by simp)) (fun z hz => row_obj (own_keep hxo n74.chg (by simp)) hz) hqd
                  have hxo2 : w2.ownsRow 0 50 2 (.slice ax4 (l.length + k) capx4) (l.length + k) xs := own_keep (own_keep hxo n74.chg (by simp)) hcv (fun g hg hm2 => by
                    obtain ⟨c1, f1, o1⟩ := row_obj (own_keep hxo n74.chg (by simp)) hg
                    obtain ⟨c2, f2, o2⟩ := row_obj (own_keep hoq.al n74.chg (by simp)) (show va4.ownBlock = some g by simpa using hm2)
                    exact obj_ne o1 o2 (by decide) rfl)
                  refine WL.ev (Ev.assign rfl) rfl ?_
                  refine WL.nil (kr42 _ _ _ ?_)
                  refine kh41 _ _ _ ?_
                  refine CW.region fun kR43 kr43 => ?_  -- region 20
                  refine WL.ev (Ev.move rfl) rfl ?_
                  refine WL.ev (Ev.move rfl) rfl ?_
                  refine WL.ev (Ev.convF rfl rfl) rfl ?_
                  refine WL.ev (Ev.move rfl) rfl ?_
                  refine WL.ev (Ev.neg rfl) rfl ?_
                  rw [show (0 : Int) - (i : Int) = -(i : Int) by omega, wrap_i64 (by omega)]
                  refine WL.ev (Ev.build (vs := [(0, .float .f64 (fI i)), (1, .int .i64 (-(i : Int)))]) (cs := [.float .f64 (fI i), .int .i64 (-(i : Int))]) rfl rfl) rfl ?_
                  refine WL.buildSlice (cs := [.float .f64 (fI i), .int .i64 (-(i : Int))]) (by decide) (by decide) rfl (by kernel_rfl) rfl fun nb2 w3 n82 => ?_
                  have hxo3 := own_keep hxo2 n82.chg (by simp)
                  have how6 := how5.keep0 (Nat.le_refl _) n82.chg
                  have hnx : ∀ (t : Nat) (v : Value) (z : Nat), (AL4 ++ [.slice ax4 (l.length + k) capx4])[t]? = some v → v.ownBlock = some z → (Value.slice ax4 (l.length + k) capx4).ownBlock = some z → t / 4 = i ∧ ∃ a mm cap, v = .slice a mm cap ∧ mm ≤ l.length + k := fun t v z hv hvz hxz => by
                    rcases appendAt hv with ⟨_, a⟩ | ⟨rfl, rfl⟩
                    · exact hqx t v z a hvz hxz
                    · exact ⟨hdi, _, _, _, rfl, Nat.le_refl _⟩
                  refine WL.appendKeep (m := l.length + k) (news := [.float .f64 (fI i), .int .i64 (-(i : Int))]) (by rfl) (by decide) rfl rfl hxo3 rfl (fun i u hu => by rw [add_addr, Nat.zero_add, cell_at n82.at_]; exact hu) (by simp [Value.oneCell']) (by unfold maxLen; omega) (by omega) rfl fun x2 w4 hox4 hlx => ?_
                  have hJ4 : J4 m w pp vl vc vw ts cv wv cs i l.length (k + 1, va5, AL4 ++ [.slice ax4 (l.length + k) capx4], x2) w4 := by
                    have hlc : (AL4 ++ [Value.slice ax4 (l.length + k) capx4]).length = i * 4 + (k + 1) := by simp; omega
                    rcases hlx with ⟨hb, hcx⟩ | ⟨hb, hcx⟩
                    · refine ⟨by dsimp only; omega, how6.grow hcx hxo3 hox4 hb hxw hqm hqd hnx, hlc, ⟨_, hox4, wrC_app hxw hxo.1⟩, fun z hz => hqm z (by rw [← hb]; exact hz), fun j u z hj hcj hz => hqd j u z hj hcj (by rw [← hb]; exact hz), fun t v z hv hvz hxz => ?_⟩
                      obtain ⟨p1, a, mm, cap, p2, p3⟩ := hnx t v z hv hvz (by rw [← hb]; exact hxz)
                      exact ⟨p1, a, mm, cap, p2, by dsimp only; omega⟩
                    · refine ⟨by dsimp only; omega, how6.keep0 (Nat.le_refl _) hcx, hlc, ⟨_, hox4, wrC_app hxw hxo.1⟩, fun z hz => ?_, fun j u z hj hcj hz hub => ?_, fun t v z hv hvz hxz => ?_⟩
                      · dsimp only at hz; rw [hb] at hz; cases hz; have := how6.bel.size; have := how6.sm; omega
                      · dsimp only at hz; rw [hb] at hz; cases hz; have := hm.lt u (List.mem_of_getElem? hcj) _ hub; have := how6.bel.size; omega
                      · dsimp only at hxz; rw [hb] at hxz; cases hxz; obtain ⟨_, _, o1⟩ := how6.ok t v _ hv hvz; have := lt_of_heap o1; omega
                  refine WL.ev (Ev.assign rfl) rfl ?_
                  refine WL.nil (kr43 _ _ _ ?_)
                  refine kh40 _ _ _ ?_
                  refine CW.region fun kR44 kr44 => ?_  -- region 18
                  refine WL.ev (Ev.move rfl) rfl ?_
                  first | refine WL.ev (Ev.addIn rfl rfl (by omega)) rfl ?_ | refine WL.ev (Ev.add rfl rfl) rfl ?_
                  refine WL.ev (Ev.assign rfl) rfl ?_
                  refine WL.nil (kr44 _ _ _ ?_)
                  refine ⟨rfl, (k + 1, va5, AL4 ++ [.slice ax4 (l.length + k) capx4], x2), ?_, ?_, ?_⟩
                  ·
                    repeat (first | exact Subs.nil | refine Subs.cons rfl ?_)
                  ·
                    exact hJ4
                  ·
                    show 4 - (k + 1) < 4 - k; omega
                ·
                  simp only [decide_eq_true_eq, decide_eq_false_iff_not, Decidable.not_not, Bool.and_eq_true, Bool.or_eq_true, Bool.not_eq_true', ne_eq, Int.not_lt, Int.not_le] at hc5
                  refine CW.exit ?_  -- exit 6
                  refine kh23 _ _ _ ?_
                  refine CW.region fun kR45 kr45 => ?_  -- region 10
                  refine WL.ev (Ev.move rfl) rfl ?_
                  first | refine WL.ev (Ev.addIn rfl rfl (by omega)) rfl ?_ | refine WL.ev (Ev.add rfl rfl) rfl ?_
                  refine WL.ev (Ev.assign rfl) rfl ?_
                  refine WL.nil (kr45 _ _ _ ?_)
                  refine ⟨rfl, (i + 1, va4, AL4), ?_, ?_, ?_⟩
                  ·
                    repeat (first | exact Subs.nil | refine Subs.cons rfl ?_)
                  ·
                    have hk4 : k = 4 := by omega
                    subst hk4
                    exact ⟨by dsimp only; omega, hq.ow, by dsimp only; omega⟩
                  ·
                    show cv.length - (i + 1) < cv.length - i; omega
        ·
          simp only [decide_eq_true_eq, decide_eq_false_iff_not, Decidable.not_not, Bool.and_eq_true, Bool.or_eq_true, Bool.not_eq_true', ne_eq, Int.not_lt, Int.not_le] at hc3
          refine CW.exit ?_  -- exit 2
          refine kh17 _ _ _ ?_
          refine CW.seq fun kK46 kh46 => ?_
          refine CW.seq fun kK47 kh47 => ?_
          have hil : i = cv.length := by omega
          refine CW.region fun kR48 kr48 => ?_  -- region 21
          refine WL.ev (Ev.assign rfl) rfl ?_
          refine WL.nil (kr48 _ _ _ ?_)
          refine kh47 _ _ _ ?_
          refine CW.block ?_
          refine CW.loop (S := fun i : Nat => [(2, .bool false), (3, va), (10, .int .i64 (i : Int))]) (Inv := J5 wr AL) (mu := fun i => AL.length - i) (0) ?_ ?_ ?_
          ·
            exact ⟨Nat.zero_le _, rfl⟩
          ·
            repeat (first | exact Subs.nil | refine Subs.cons rfl ?_)
          ·
            rintro t wq ⟨hle5, rfl⟩
            obtain ⟨aal, capal, hva⟩ := own_form how.al
            subst hva
            refine CW.seq fun kK49 kh49 => ?_
            refine CW.seq fun kK50 kh50 => ?_
            refine CW.region fun kR51 kr51 => ?_  -- region 22
            refine WL.ev (Ev.move rfl) rfl ?_
            refine WL.ev (Ev.move rfl) rfl ?_
            refine WL.ev (Ev.len rfl) rfl ?_
            refine WL.ev (Ev.lss rfl rfl) rfl ?_
            refine WL.nil (kr51 _ _ _ ?_)
            refine kh50 _ _ _ ?_
            refine CW.cond rfl (fun hc6 => ?_) (fun hc6 => ?_)  -- if 87
            ·
              simp only [decide_eq_true_eq, decide_eq_false_iff_not, Decidable.not_not, Bool.and_eq_true, Bool.or_eq_true, Bool.not_eq_true', ne_eq, Int.not_lt, Int.not_le] at hc6
              have hcl5 := hm.lc
              obtain ⟨v, hv⟩ := getV (l := AL) (i := t) (by omega)
              obtain ⟨gal, hgal, hkal⟩ := own_cell how.al (by omega)
              subst hgal
              obtain ⟨av, n6, capv, rfl, hn6, hfull⟩ := how.fu t v hv
              refine CW.skip ?_
              refine kh49 _ _ _ ?_
              refine CW.seq fun kK52 kh52 => ?_
              refine CW.block ?_
              refine CW.seq fun kK53 kh53 => ?_
              refine CW.region fun kR54 kr54 => ?_  -- region 24
              refine WL.ev (Ev.assign rfl) rfl ?_
              refine WL.nil (kr54 _ _ _ ?_)
              refine kh53 _ _ _ ?_
              refine CW.block ?_
              refine CW.loop (S := fun k : Nat => [(2, .bool false), (3, .slice (some ⟨gal, 0, none⟩) AL.length capal), (10, .int .i64 (t : Int)), (11, .int .i64 (k : Int))]) (Inv := J6 wq n6) (mu := fun k => n6 - k) (0) ?_ ?_ ?_
              ·
                exact ⟨Nat.zero_le _, rfl⟩
              ·
                repeat (first | exact Subs.nil | refine Subs.cons rfl ?_)
              ·
                rintro k wk hq6
                have hle6 := hq6.le
                obtain rfl := hq6.eq
                refine CW.seq fun kK55 kh55 => ?_
                refine CW.seq fun kK56 kh56 => ?_
                refine CW.region fun kR57 kr57 => ?_  -- region 25
                refine WL.ev (Ev.move rfl) rfl ?_
                refine WL.ev (Ev.move rfl) rfl ?_
                refine WL.ev (Ev.move rfl) rfl ?_
                refine WL.ev (Ev.indexAddr rfl rfl (by omega) (by omega)) rfl ?_
                rw [show 0 + (((t : Nat) : Int)).toNat * 1 = t by omega]
                refine WL.ev (Ev.load rfl rfl (hkal _ _ hv)) rfl ?_
                refine WL.ev (Ev.len rfl) rfl ?_
                refine WL.ev (Ev.lss rfl rfl) rfl ?_
                refine WL.nil (kr57 _ _ _ ?_)
                refine kh56 _ _ _ ?_
                refine CW.cond rfl (fun hc7 => ?_) (fun hc7 => ?_)  -- if 96
                ·
                  simp only [decide_eq_true_eq, decide_eq_false_iff_not, Decidable.not_not, Bool.and_eq_true, Bool.or_eq_true, Bool.not_eq_true', ne_eq, Int.not_lt, Int.not_le] at hc7
                  obtain ⟨gv, hgv, hc1, hc2⟩ := hfull k (by omega)
                  subst hgv
                  refine CW.skip ?_
                  refine kh55 _ _ _ ?_
                  refine CW.seq fun kK58 kh58 => ?_
                  refine CW.block ?_
                  refine CW.seq fun kK59 kh59 => ?_
                  refine CW.region fun kR60 kr60 => ?_  -- region 27
                  refine WL.ev (Ev.move rfl) rfl ?_
                  refine WL.ev (Ev.move rfl) rfl ?_
                  refine WL.ev (Ev.indexAddr rfl rfl (by omega) (by omega)) rfl ?_
                  rw [show 0 + (((t : Nat) : Int)).toNat * 1 = t by omega]
                  refine WL.ev (Ev.load rfl rfl (hkal _ _ hv)) rfl ?_
                  refine WL.ev (Ev.move rfl) rfl ?_
                  refine WL.ev (Ev.indexAddr rfl rfl (by omega) (by omega)) rfl ?_
                  rw [show 0 + (((k : Nat) : Int)).toNat * 2 = k * 2 by omega]
                  refine WL.ev (Ev.fieldAddr rfl) rfl ?_
                  refine WL.ev (Ev.load rfl rfl (hc2)) rfl ?_
                  refine WL.ev (Ev.move rfl) rfl ?_
                  first | refine WL.ev (Ev.quoIn rfl rfl (by omega) (by simp only [IntKind.max, IntKind.signed, IntKind.bits]; omega) (by omega)) rfl ?_ | refine WL.ev (Ev.quo rfl rfl (by omega)) rfl ?_
                  refine WL.ev (Ev.neg rfl) rfl ?_
                  rw [show (0 : Int) - ((t : Int) / 4) = -((t / 4 : Nat) : Int) by omega, wrap_i64 (by omega)]
                  refine WL.ev (Ev.neq rfl rfl) rfl ?_
                  rw [show decide ((-((t / 4 : Nat) : Int)) ≠ (-((t / 4 : Nat) : Int))) = false from decide_eq_false (by omega)]
                  refine WL.ev (Ev.move rfl) rfl ?_
                  refine WL.want rfl rfl rfl rfl ?_
                  refine WL.ev (Ev.move rfl) rfl ?_
                  refine WL.want rfl rfl rfl rfl ?_
                  refine WL.ev (Ev.move rfl) rfl ?_
                  refine WL.want rfl rfl rfl rfl ?_
                  refine WL.ev (Ev.indexAddr rfl rfl (by omega) (by omega)) rfl ?_
                  rw [show 0 + (((t : Nat) : Int)).toNat * 1 = t by omega]
                  refine WL.want rfl rfl rfl rfl ?_
                  refine WL.ev (Ev.load rfl rfl (hkal _ _ hv)) rfl ?_
                  refine WL.want rfl rfl rfl rfl ?_
                  refine WL.ev (Ev.move rfl) rfl ?_
                  refine WL.want rfl rfl rfl rfl ?_
                  refine WL.ev (Ev.indexAddr rfl rfl (by omega) (by omega)) rfl ?_
                  rw [show 0 + (((k : Nat) : Int)).toNat * 2 = k * 2 by omega]
                  refine WL.want rfl rfl rfl rfl ?_
                  refine WL.ev (Ev.fieldAddr rfl) rfl ?_
                  refine WL.want rfl rfl rfl rfl ?_
                  refine WL.ev (Ev.load rfl rfl (hc1)) rfl ?_
                  refine WL.want rfl rfl rfl rfl ?_
                  refine WL.ev (Ev.move rfl) rfl ?_
                  refine WL.want rfl rfl rfl rfl ?_
                  refine WL.ev (Ev.quoIn rfl rfl (by omega) (by simp only [IntKind.max, IntKind.signed, IntKind.bits]; omega) (by omega)) rfl ?_
                  rw [show ((t : Int) / 4) = ((t / 4 : Nat) : Int) by omega]
                  refine WL.want rfl rfl rfl rfl ?_
                  refine WL.ev (Ev.convF rfl rfl) rfl ?_
                  refine WL.want rfl rfl rfl rfl ?_
                  refine WL.ev (Ev.fneq rfl rfl) rfl ?_
                  rw [show (FloatKind.f64.format.order (fI (t / 4)) (FloatKind.f64.nearest ((t / 4 : Nat) : Int)) != some .eq) = false from fI_eq (by omega)]
                  refine WL.ev (Ev.pickF rfl rfl rfl) rfl ?_
                  refine WL.nil (kr60 _ _ _ ?_)
                  refine kh59 _ _ _ ?_
                  refine CW.condF rfl ?_
                  refine CW.skip ?_
                  refine kh58 _ _ _ ?_
                  refine CW.region fun kR61 kr61 => ?_  -- region 26
                  refine WL.ev (Ev.move rfl) rfl ?_
                  first | refine WL.ev (Ev.addIn rfl rfl (by omega)) rfl ?_ | refine WL.ev (Ev.add rfl rfl) rfl ?_
                  refine WL.ev (Ev.assign rfl) rfl ?_
                  refine WL.nil (kr61 _ _ _ ?_)
                  refine ⟨rfl, k + 1, ?_, ?_, ?_⟩
                  ·
                    repeat (first | exact Subs.nil | refine Subs.cons rfl ?_)
                  ·
                    exact ⟨by omega, rfl⟩
                  ·
                    show n6 - (k + 1) < n6 - k; omega
                ·
                  simp only [decide_eq_true_eq, decide_eq_false_iff_not, Decidable.not_not, Bool.and_eq_true, Bool.or_eq_true, Bool.not_eq_true', ne_eq, Int.not_lt, Int.not_le] at hc7
                  refine CW.exit ?_  -- exit 10
                  refine kh52 _ _ _ ?_
                  refine CW.region fun kR62 kr62 => ?_  -- region 23
                  refine WL.ev (Ev.move rfl) rfl ?_
                  first | refine WL.ev (Ev.addIn rfl rfl (by omega)) rfl ?_ | refine WL.ev (Ev.add rfl rfl) rfl ?_
                  refine WL.ev (Ev.assign rfl) rfl ?_
                  refine WL.nil (kr62 _ _ _ ?_)
                  refine ⟨rfl, t + 1, ?_, ?_, ?_⟩
                  ·
                    repeat (first | exact Subs.nil | refine Subs.cons rfl ?_)
                  ·
                    exact ⟨by omega, hq6.eq⟩
                  ·
                    show AL.length - (t + 1) < AL.length - t; omega
            ·
              simp only [decide_eq_true_eq, decide_eq_false_iff_not, Decidable.not_not, Bool.and_eq_true, Bool.or_eq_true, Bool.not_eq_true', ne_eq, Int.not_lt, Int.not_le] at hc6
              refine CW.exit ?_  -- exit 8
              refine kh46 _ _ _ ?_
              refine CW.seq fun kK63 kh63 => ?_
              refine CW.region fun kR64 kr64 => ?_  -- region 29
              refine WL.ev (Ev.assign rfl) rfl ?_
              refine WL.nil (kr64 _ _ _ ?_)
              refine kh63 _ _ _ ?_
              refine CW.ret ?_
              refine bodyA.ret1 rfl rfl ?_
              have htl : True := trivial
              exact ⟨rfl, how.pb, how.bel⟩

end Go.Proofs.Ytjlmenmlpmfokaa
