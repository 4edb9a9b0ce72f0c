/- Package steelyardlaw18: play.step, a new pair. No condition. -/
import Derived.Test.YtjlmenmlpmfokaaStepDef
import Derived.Test.YtjlmenmlpmfokaaSxLate
namespace Go.Proofs.Ytjlmenmlpmfokaa
open Go Sx Fl Ty
set_option linter.unusedVariables false
set_option linter.unusedSimpArgs false

theorem nodup_push {f : TB → Nat} {ts : List TB} {x : TB} (h : (ts.map f).Nodup) (hn : ∀ y ∈ ts, f y ≠ f x) : ((ts ++ [x]).map f).Nodup := by
  rw [List.map_append, List.nodup_append]
  refine ⟨h, by simp, fun a ha c hc => ?_⟩
  obtain ⟨y, hy, rfl⟩ := List.mem_map.1 ha
  simp at hc; subst hc
  exact hn y hy
theorem PB.lts {m : Nat} {w : World} {pp : Nat} {vl vc vw : Value} {ts : List TB} {cv wv : List Value} (h : PB m w pp vl vc vw ts cv wv) : ∀ y ∈ ts, y.1 < w.heap.size ∧ y.2.1 < w.heap.size ∧ y.2.2.1 < w.heap.size := fun y hy => by
  obtain ⟨t, c, v, l, h1, h2, _⟩ := h.pr y hy
  exact ⟨lt_of_heap h1.cell, lt_of_heap h1.map, lt_of_heap h2.cell⟩
/-- A pair more: the play's row of pairs has grown. -/
theorem PB.push {m : Nat} {w w2 : World} {pp : Nat} {vl vl2 vc vw : Value} {ts : List TB} {cv wv : List Value} {x : TB} (h : PB m w pp vl vc vw ts cv wv) (hx : Pair m w x) (n1 : ∀ y ∈ ts, y.1 ≠ x.1 ∧ y.2.1 ≠ x.2.1 ∧ y.2.2.1 ≠ x.2.2.1) (hc : Chg (pp :: vl.ownBlock.toList) w w2)
    (hcell : w2.heap[pp]? = some (.cells [vl2, vc, vw].toArray 28 (0, 0))) (hol : w2.ownsRow 0 37 2 vl2 (ts.length + 1) (flatB ts ++ flatB [x])) (hml : ∀ z, vl2.ownBlock = some z → m ≤ z) :
    PB m w2 pp vl2 vc vw (ts ++ [x]) cv wv ∧ ∀ cs, CM m w cv wv cs → CM m w2 cv wv cs := by
  have al : ∀ y ∈ pp :: vl.ownBlock.toList, Alien w y := by
    intro y hy
    rcases List.mem_cons.1 hy with rfl | hy
    · exact .inr ⟨_, _, _, h.cell, by decide, by decide, by decide⟩
    · exact alien_row h.ol (by decide) y hy
  have kind : ∀ y ∈ pp :: vl.ownBlock.toList, ∀ cs T fr, T ≠ 28 → T ≠ 37 → w.heap[y]? ≠ some (.cells cs T fr) := by
    intro y hy cs T fr a1 a2 ho
    rcases List.mem_cons.1 hy with rfl | hy
    · exact obj_ne h.cell ho (fun e => a1 e.symm) rfl
    · obtain ⟨cs', fr', ho'⟩ := row_obj h.ol (by simpa using hy)
      exact obj_ne ho' ho (fun e => a2 e.symm) rfl
  have rows : ∀ e sz v' n xs, e ≠ 28 → e ≠ 37 → w.ownsRow 0 e sz v' n xs → w2.ownsRow 0 e sz v' n xs := fun e sz v' n xs a1 a2 ho => own_keep ho hc fun g hg hm => by
    obtain ⟨cs', fr', ho'⟩ := row_obj ho hg
    exact kind g hm _ _ _ a1 a2 ho'
  refine ⟨⟨hcell, ?_, rows _ _ _ _ _ (by decide) (by decide) h.oc, rows _ _ _ _ _ (by decide) (by decide) h.ow, h.cw, fun y hy => ?_, nodup_push h.nb fun y hy => (n1 y hy).1, nodup_push h.nr fun y hy => (n1 y hy).2.1, nodup_push h.nd fun y hy => (n1 y hy).2.2, h.mp, hml, h.mc, h.mw⟩, fun cs hcs => hcs.keep hc fun y hy => .inr fun cs fr => kind y hy _ _ _ (by decide) (by decide)⟩
  · rw [List.length_append, flatB_append]; exact hol
  · rcases List.mem_append.1 hy with q | q
    · exact (h.pr y q).keep hc al
    · simp at q; subst q; exact hx.keep hc al

set_option maxRecDepth 20000 in
set_option maxHeartbeats 2000000 in
theorem step_new (m pp k : Nat) (e : Bool) (on wi nn : Int) (xb : Nat) (jj : Bool) (w : World) (hS : SX m w pp e k) : Ret Try.prog 6 [.pointer (some ⟨pp, 0, none⟩), .agg [.int .i64 1, .int .i64 on, .int .i64 wi, .int .i64 nn, .float .f64 xb, .bool jj].toArray] w fun u w' => u = .bool true ∧ SX m w' pp true (k + 1) ∧ RowKit.Below m w w' := by
  obtain ⟨vl, vc, vw, ts, cv, wv, cs, h, hC, he, h16, hk⟩ := hS
  obtain ⟨al, capl, hvl⟩ := own_form h.ol
  subst hvl
  refine Ret.enter Try.func6 rfl rfl ?_
  refine CW.seq fun kK1 kh1 => ?_
  refine CW.region fun kR2 kr2 => ?_  -- region 0
  refine WL.box (l := [.int .i64 1, .int .i64 on, .int .i64 wi, .int .i64 nn, .float .f64 xb, .bool jj]) rfl rfl rfl fun b3 u1 n3 => ?_
  have h1 := h.keep0 n3.chg
  have hC1 := hC.keep n3.chg (by simp)
  have hm0 : m ≤ w.heap.size := by have := h.mp; have := lt_of_heap h.cell; omega
  have k30 : u1.cell? ⟨b3, 0, none⟩ = some (.int .i64 1) := by rw [cell_at n3.at_]; rfl
  have k35 : u1.cell? ⟨b3, 5, none⟩ = some (.bool jj) := by rw [cell_at n3.at_]; rfl
  have pc0 : u1.cell? ⟨pp, 0, none⟩ = some (.slice al ts.length capl) := by rw [cell_at h1.cell]; rfl
  refine WL.ev (Ev.assign rfl) rfl ?_
  refine WL.nil (kr2 _ _ _ ?_)
  refine kh1 _ _ _ ?_
  refine CW.seq fun kK3 kh3 => ?_
  refine CW.seq fun kK4 kh4 => ?_
  refine CW.region fun kR5 kr5 => ?_  -- region 1
  refine WL.ev (Ev.fieldAddr rfl) rfl ?_
  refine WL.ev (Ev.load rfl rfl (k30)) rfl ?_
  refine WL.ev (Ev.eql rfl rfl) rfl ?_
  refine WL.nil (kr5 _ _ _ ?_)
  refine kh4 _ _ _ ?_
  refine CW.condT rfl ?_
  refine CW.seq fun kK6 kh6 => ?_
  refine CW.region fun kR7 kr7 => ?_  -- region 2
  refine WL.ev (Ev.fieldAddr rfl) rfl ?_
  refine WL.ev (Ev.load rfl rfl (k35)) rfl ?_
  refine WL.call hasF9 rfl rfl (tc_New jj _) fun v w1 h' => ?_
  obtain ⟨b, r, rfl, hb, hr, hcn, htn⟩ := h'
  obtain ⟨lb, lr, _⟩ := htn.lt
  have h2 := h1.keep0 hcn
  have hC2 := hC1.keep hcn (by simp)
  refine WL.ev (Ev.assign rfl) rfl ?_
  refine WL.nil (kr7 _ _ _ ?_)
  refine kh6 _ _ _ ?_
  refine CW.seq fun kK8 kh8 => ?_
  refine CW.seq fun kK9 kh9 => ?_
  refine CW.region fun kR10 kr10 => ?_  -- region 3
  refine WL.ev (Ev.move rfl) rfl ?_
  refine WL.ev (Ev.neqPtrNil (a := some ⟨b, 0, none⟩) rfl rfl) rfl ?_
  refine WL.ev (Ev.move rfl) rfl ?_
  refine WL.want rfl rfl rfl rfl ?_
  refine WL.ev (Ev.move rfl) rfl ?_
  refine WL.want rfl rfl rfl rfl ?_
  refine WL.ev (Ev.nilPtr rfl) rfl ?_
  refine WL.want rfl rfl rfl rfl ?_
  refine WL.ev (Ev.fieldAddr rfl) rfl ?_
  refine WL.want rfl rfl rfl rfl ?_
  refine WL.ev (Ev.load rfl rfl (hcn.cell pc0 (by simp))) rfl ?_
  refine WL.want rfl rfl rfl rfl ?_
  refine WL.ev (Ev.len rfl) rfl ?_
  refine WL.want rfl rfl rfl rfl ?_
  refine WL.ev (Ev.lss rfl rfl) rfl ?_
  refine WL.ev (Ev.pickT rfl rfl rfl) rfl ?_
  refine WL.nil (kr10 _ _ _ ?_)
  refine kh9 _ _ _ ?_
  refine CW.cond rfl (fun hc2 => ?_) (fun hc2 => ?_)  -- if 24
  ·
    simp only [decide_eq_true_eq, decide_eq_false_iff_not, Decidable.not_not, Bool.and_eq_true, Bool.or_eq_true, Bool.not_eq_true', ne_eq, Int.not_lt, Int.not_le] at hc2
    refine CW.regionK (fun w' => w'.cell? ⟨pp, 0, none⟩ = some (.slice al ts.length capl) ∧ w'.cell? ⟨b3, 5, none⟩ = some (.bool jj)) 14 15 rfl hmix fun kR11 kr11 => ?_  -- region 4
    have hS : (fun w' => w'.cell? ⟨pp, 0, none⟩ = some (.slice al ts.length capl) ∧ w'.cell? ⟨b3, 5, none⟩ = some (.bool jj)) w1.drew := ⟨(Chg.drew [] w1).cell (hcn.cell pc0 (by simp)) (by simp), (Chg.drew [] w1).cell (hcn.cell k35 (by simp)) (by simp)⟩
    refine WK.take 0 rfl (by kernel_rfl) (by kernel_rfl) (by kernel_rfl) (by kernel_rfl) (by kernel_rfl) (by kernel_rfl) hS (fun w' hw' => Ev.move rfl) rfl ?_
    refine WK.take 1 rfl (by kernel_rfl) (by kernel_rfl) (by kernel_rfl) (by kernel_rfl) (by kernel_rfl) (by kernel_rfl) hS (fun w' hw' => Ev.move rfl) rfl ?_
    refine WK.take 2 rfl (by kernel_rfl) (by kernel_rfl) (by kernel_rfl) (by kernel_rfl) (by kernel_rfl) (by kernel_rfl) hS (fun w' hw' => Ev.nilPtr rfl) rfl ?_
    refine WK.take 3 rfl (by kernel_rfl) (by kernel_rfl) (by kernel_rfl) (by kernel_rfl) (by kernel_rfl) (by kernel_rfl) hS (fun w' hw' => Ev.fieldAddr rfl) rfl ?_
    refine WK.take 4 rfl (by kernel_rfl) (by kernel_rfl) (by kernel_rfl) (by kernel_rfl) (by kernel_rfl) (by kernel_rfl) hS (fun w' hw' => Ev.load rfl rfl (hw'.1)) rfl ?_
    refine WK.take 5 rfl (by kernel_rfl) (by kernel_rfl) (by kernel_rfl) (by kernel_rfl) (by kernel_rfl) (by kernel_rfl) hS (fun w' hw' => Ev.move rfl) rfl ?_
    refine WK.take 6 rfl (by kernel_rfl) (by kernel_rfl) (by kernel_rfl) (by kernel_rfl) (by kernel_rfl) (by kernel_rfl) hS (fun w' hw' => Ev.fieldAddr rfl) rfl ?_
    refine WK.take 7 rfl (by kernel_rfl) (by kernel_rfl) (by kernel_rfl) (by kernel_rfl) (by kernel_rfl) (by kernel_rfl) hS (fun w' hw' => Ev.load rfl rfl (hw'.2)) rfl ?_
    refine WK.oneCall 8 rfl (by kernel_rfl) hasF22 rfl rfl (steelyardref18_New_spec jj _) fun v w2 h' => ?_
    obtain ⟨rb, rfl, hrb, hcr, hRn⟩ := h'
    have hS := (⟨hcr.cell hS.1 (by simp), hcr.cell hS.2 (by simp)⟩ : _ ∧ _)
    refine ⟨hS, ?_⟩
    refine WK.take 9 rfl (by kernel_rfl) (by kernel_rfl) (by kernel_rfl) (by kernel_rfl) (by kernel_rfl) (by kernel_rfl) hS (fun w' hw' => Ev.build (cs := [.pointer (some ⟨b, 0, none⟩), .pointer (some ⟨rb, 0, none⟩)]) rfl rfl) rfl ?_
    refine WK.buildSlice 10 (cs := [.pointer (some ⟨b, 0, none⟩), .pointer (some ⟨rb, 0, none⟩)]) rfl (by kernel_rfl) (by decide) (by decide) rfl (by kernel_rfl) rfl fun nb x1 n35 => ?_
    have hS := (⟨n35.chg.cell hS.1 (by simp), n35.chg.cell hS.2 (by simp)⟩ : _ ∧ _)
    refine ⟨hS, ?_⟩
    have Z : Chg [] w1 x1 := ((Chg.drew [] w1).trans hcr).trans n35.chg
    refine WK.append 11 (m := ts.length) (news := [.pointer (some ⟨b, 0, none⟩), .pointer (some ⟨rb, 0, none⟩)]) rfl (by kernel_rfl) (by rfl) (by decide) rfl rfl (own_keep h2.ol Z (by simp)) rfl (fun i u hu => by rw [add_addr, Nat.zero_add, cell_at n35.at_]; exact hu) (flatB_one [(b, r, rb, jj)]) (by unfold maxLen; omega) (by omega) rfl fun vl2 x2 hol hcl hll => ?_
    have npl : pp ∉ (Value.slice al ts.length capl).ownBlock.toList := fun hm => by
      obtain ⟨cs', fr, ho⟩ := row_obj h1.ol (by simpa using hm)
      exact obj_ne h1.cell ho (by decide) rfl
    have nbl : b3 ∉ (Value.slice al ts.length capl).ownBlock.toList := fun hm => by
      have := own_lt h.ol (b := b3) (by simpa using hm); have := n3.ge; omega
    have hS := (⟨hcl.cell hS.1 npl, hcl.cell hS.2 nbl⟩ : _ ∧ _)
    refine ⟨hS, ?_⟩
    refine WK.one 12 rfl (by kernel_rfl) (Ev.nilPtr rfl) (fun _ => hS) rfl ?_
    refine WK.take 13 rfl (by kernel_rfl) (by kernel_rfl) (by kernel_rfl) (by kernel_rfl) (by kernel_rfl) (by kernel_rfl) hS (fun w' hw' => Ev.fieldAddr rfl) rfl ?_
    have hpp := hcl.heap (Z.heap h2.cell (by simp)) npl
    obtain ⟨al2, capl2, hvl2⟩ := own_form hol
    subst hvl2
    refine WK.storeLast 14 rfl (by kernel_rfl) (by kernel_rfl) rfl rfl rfl hpp (by simp) fun x3 s14 => ?_
    refine WK.done (by kernel_rfl) (kr11 _ _ _ ?_)
    refine kh8 _ _ _ ?_
    refine CW.seq fun kK12 kh12 => ?_
    refine CW.region fun kR13 kr13 => ?_  -- region 5
    refine WL.ev (Ev.move rfl) rfl ?_
    refine WL.ev (Ev.neqPtrNil (a := some ⟨b, 0, none⟩) rfl rfl) rfl ?_
    refine WL.ev (Ev.assign rfl) rfl ?_
    refine WL.nil (kr13 _ _ _ ?_)
    refine kh12 _ _ _ ?_
    refine CW.ret ?_
    refine bodyA.ret1 rfl rfl ?_
    have D : Chg [] w1 w2 := (Chg.drew [] w1).trans hcr
    have h4 := h2.keep0 D
    have hC4 := hC2.keep D (by simp)
    obtain ⟨t, c, ht, hf, hn⟩ := htn
    have hlts := h1.lts
    have hsz := hcn.size
    have hsz2 := n3.size
    have hrb2 : w1.heap.size ≤ rb := hrb
    have hPn : Pair m w2 (b, r, rb, jj) := ⟨t, c, _, [], ht.keep D (by simp) (by simp), hRn, fun k => by rw [hf]; rfl, (by show m ≤ b; omega), (by show m ≤ r; omega), (by show m ≤ rb; omega)⟩
    have hQ : Chg (pp :: (Value.slice al ts.length capl).ownBlock.toList) w2 x3 := ((n35.chg.any (T := pp :: (Value.slice al ts.length capl).ownBlock.toList)).step hcl (fun y hy => .inl (List.mem_cons_of_mem _ hy))).step s14.chg (fun y hy => .inl (by simp only [List.mem_singleton] at hy; subst hy; exact List.mem_cons_self ..))
    have hzs := Z.size
    obtain ⟨hPB, hCM⟩ := h4.push hPn (fun y hy => by have := hlts y hy; exact ⟨by show y.1 ≠ b; omega, by show y.2.1 ≠ r; omega, by show y.2.2.1 ≠ rb; omega⟩) hQ s14.at_ (own_keep hol s14.chg (fun g hg hm => by simp only [List.mem_singleton] at hm; subst hm; obtain ⟨_, _, ho⟩ := row_obj hol hg; exact obj_ne hpp ho (by decide) rfl)) (fun g hg => by
      rcases hll with e | e
      · exact h.ml g (by rw [← e]; exact hg)
      · rw [e] at hg; cases hg; omega)
    refine ⟨rfl, ⟨_, vc, vw, ts ++ [(b, r, rb, jj)], cv, wv, cs, hPB, hCM cs hC4, fun _ => by simp, by simp; omega, by omega⟩, below_chg ((((n3.chg.trans hcn).trans D).any (T := pp :: (Value.slice al ts.length capl).ownBlock.toList)).trans hQ) (fun y hy => ?_) hm0⟩
    rcases List.mem_cons.1 hy with rfl | hy
    · exact h.mp
    · exact h.ml y (by simpa using hy)
  ·
    simp only [decide_eq_true_eq, decide_eq_false_iff_not, Decidable.not_not, Bool.and_eq_true, Bool.or_eq_true, Bool.not_eq_true', ne_eq, Int.not_lt, Int.not_le] at hc2
    refine CW.skip ?_
    refine kh8 _ _ _ ?_
    refine CW.seq fun kK14 kh14 => ?_
    refine CW.region fun kR15 kr15 => ?_  -- region 5
    refine WL.ev (Ev.move rfl) rfl ?_
    refine WL.ev (Ev.neqPtrNil (a := some ⟨b, 0, none⟩) rfl rfl) rfl ?_
    refine WL.ev (Ev.assign rfl) rfl ?_
    refine WL.nil (kr15 _ _ _ ?_)
    refine kh14 _ _ _ ?_
    refine CW.ret ?_
    refine bodyA.ret1 rfl rfl ?_
    have hts : ts.length = 16 := by omega
    refine ⟨rfl, ⟨_, vc, vw, ts, cv, wv, cs, h2, hC2, fun _ => by omega, h16, by omega⟩, below_chg (n3.chg.trans hcn) (by simp) hm0⟩

end Go.Proofs.Ytjlmenmlpmfokaa
