/- Package steelyardref18: Merge, Entries, Often; package tally's Often. No condition. -/
import Derived.Test.YtjlmenmlpmfokaaRef
namespace Go.Proofs.Ytjlmenmlpmfokaa
open Go Sx Fl Ty
set_option linter.unusedVariables false
set_option linter.unusedSimpArgs false

structure RMInv (w : World) (b : Nat) (v v2 : Value) (j : Bool) (l l2 : KV) (g : Nat × Value × KV) (wr : World) : Prop where
  le : g.1 ≤ l2.length
  ref : RefP wr b g.2.1 j g.2.2
  own : wr.ownsRow 0 73 2 v2 l2.length (flatR l2)
  cnt : ∀ k, Ty.cnt g.2.2 k = Ty.cnt l k + msum j (l2.take g.1) k
  tot : tot g.2.2 = tot l + tot (l2.take g.1)
  chg : Chg [b] w wr
  fr : ∀ x, g.2.1.ownBlock = some x → v.ownBlock = some x ∨ w.heap.size ≤ x
theorem take_next {l : KV} {i : Nat} {p : Nat × Nat} (h : l[i]? = some p) : l.take (i + 1) = l.take i ++ [p] := by
  have hlt : i < l.length := by
    by_cases x : i < l.length
    · exact x
    · rw [List.getElem?_eq_none (by omega)] at h; cases h
  rw [List.take_succ_eq_append_getElem hlt]
  rw [List.getElem?_eq_getElem hlt] at h
  cases h; rfl
theorem tot_take (l : KV) (i : Nat) : tot (l.take i) ≤ tot l := by
  have := tot_append (l.take i) (l.drop i)
  rw [List.take_append_drop] at this; omega

set_option maxRecDepth 20000 in
theorem ref18_Merge_spec (b b2 : Nat) (v v2 : Value) (j j2 : Bool) (l l2 : KV) (w : World) (h : RefP w b v j l) (h2 : RefP w b2 v2 j2 l2) (hx : ∀ x, v2.ownBlock = some x → x ≠ b) : Ret Try.prog 26 [.pointer (some ⟨b, 0, none⟩), .pointer (some ⟨b2, 0, none⟩)] w fun u w' => (1099511627776 < tot l + tot l2 ∧ u = .int .i64 2 ∧ Chg [] w w') ∨ (tot l + tot l2 ≤ 1099511627776 ∧ u = .int .i64 0 ∧ Chg [b] w w' ∧ ∃ v' l', RefP w' b v' j l' ∧ (∀ k, cnt l' k = cnt l k + msum j l2 k) ∧ tot l' = tot l + tot l2 ∧ ∀ x, v'.ownBlock = some x → v.ownBlock = some x ∨ w.heap.size ≤ x) := by
  have c0 : w.cell? ⟨b, 0, none⟩ = some (.bool j) := by rw [cell_at h.cell]; rfl
  have c1 : w.cell? ⟨b, 1, none⟩ = some v := by rw [cell_at h.cell]; rfl
  have c2 : w.cell? ⟨b, 2, none⟩ = some (.int .i64 (tot l : Int)) := by rw [cell_at h.cell]; rfl
  have hlen := h.len
  have hs := h.small
  have d1 : w.cell? ⟨b2, 1, none⟩ = some v2 := by rw [cell_at h2.cell]; rfl
  have d2 : w.cell? ⟨b2, 2, none⟩ = some (.int .i64 (tot l2 : Int)) := by rw [cell_at h2.cell]; rfl
  have hlen2 := h2.len
  have hs2 := h2.small
  refine Ret.enter Try.func26 rfl rfl ?_
  refine CW.seq fun kK1 kh1 => ?_
  refine CW.region fun kR2 kr2 => ?_  -- region 0
  refine WL.ev (Ev.assign rfl) rfl ?_
  refine WL.nil (kr2 _ _ _ ?_)
  refine kh1 _ _ _ ?_
  refine CW.seq fun kK3 kh3 => ?_
  refine CW.seq fun kK4 kh4 => ?_
  refine CW.regionS hmix (by kernel_rfl) fun kR5 kr5 => ?_  -- region 1
  refine WS.ev (Ev.move rfl) rfl ?_
  refine WS.ev (Ev.nilPtr rfl) rfl ?_
  refine WS.ev (Ev.fieldAddr rfl) rfl ?_
  refine WS.ev (Ev.load rfl rfl (c2)) rfl ?_
  refine WS.ev (Ev.move rfl) rfl ?_
  refine WS.ev (Ev.nilPtr rfl) rfl ?_
  refine WS.ev (Ev.fieldAddr rfl) rfl ?_
  refine WS.ev (Ev.load rfl rfl (d2)) rfl ?_
  first | refine WS.ev (Ev.addIn rfl rfl (by omega)) rfl ?_ | refine WS.ev (Ev.add rfl rfl) rfl ?_
  refine WS.ev (Ev.gtr rfl rfl) rfl ?_
  refine WS.nil (kr5 _ _ ?_)
  refine kh4 _ _ _ ?_
  refine CW.cond rfl (fun hc1 => ?_) (fun hc1 => ?_)  -- if 17
  ·
    simp only [decide_eq_true_eq, decide_eq_false_iff_not, Decidable.not_not, Bool.and_eq_true, Bool.or_eq_true, Bool.not_eq_true', ne_eq, Int.not_lt, Int.not_le] at hc1
    refine CW.seq fun kK6 kh6 => ?_
    refine CW.region fun kR7 kr7 => ?_  -- region 2
    refine WL.ev (Ev.assign rfl) rfl ?_
    refine WL.nil (kr7 _ _ _ ?_)
    refine kh6 _ _ _ ?_
    refine CW.ret ?_
    refine bodyA.ret1 rfl rfl ?_
    exact .inl ⟨by omega, rfl, Chg.drew _ _⟩
  ·
    simp only [decide_eq_true_eq, decide_eq_false_iff_not, Decidable.not_not, Bool.and_eq_true, Bool.or_eq_true, Bool.not_eq_true', ne_eq, Int.not_lt, Int.not_le] at hc1
    refine CW.skip ?_
    refine kh3 _ _ _ ?_
    refine CW.seq fun kK8 kh8 => ?_
    refine CW.region fun kR9 kr9 => ?_  -- region 3
    refine WL.ev (Ev.move rfl) rfl ?_
    refine WL.ev (Ev.nilPtr rfl) rfl ?_
    refine WL.ev (Ev.fieldAddr rfl) rfl ?_
    refine WL.ev (Ev.load rfl rfl ((Chg.drew [] w).cell d1 (by simp))) rfl ?_
    refine WL.ev (Ev.assign rfl) rfl ?_
    refine WL.nil (kr9 _ _ _ ?_)
    refine kh8 _ _ _ ?_
    refine CW.seq fun kK10 kh10 => ?_
    refine CW.seq fun kK11 kh11 => ?_
    refine CW.region fun kR12 kr12 => ?_  -- region 4
    refine WL.ev (Ev.assign rfl) rfl ?_
    refine WL.nil (kr12 _ _ _ ?_)
    refine kh11 _ _ _ ?_
    refine CW.block ?_
    refine CW.loop (S := fun g : Nat × Value × KV => [(0, .pointer (some ⟨b, 0, none⟩)), (5, v2), (6, .int .i64 (g.1 : Int))]) (Inv := RMInv w b v v2 j l l2) (mu := fun g => l2.length - g.1) ((0, v, l)) ?_ ?_ ?_
    ·
      exact ⟨Nat.zero_le _, h.keep (Chg.drew [] w) (by simp) (by simp), own_keep h2.own (Chg.drew [] w) (by simp), fun k => by simp [msum_nil], by simp [tot], Chg.drew _ w, fun x hx => .inl hx⟩
    ·
      repeat (first | exact Subs.nil | refine Subs.cons rfl ?_)
    ·
      rintro ⟨i, vi, li⟩ wr hi
      have hle := hi.le
      have hrf := hi.ref
      have hown := hi.own
      have htt := hi.tot
      dsimp only at hle hrf hown htt ⊢
      obtain ⟨a2, cap2, hv2⟩ := own_form hown
      subst hv2
      refine CW.seq fun kK13 kh13 => ?_
      refine CW.seq fun kK14 kh14 => ?_
      refine CW.region fun kR15 kr15 => ?_  -- region 5
      refine WL.ev (Ev.move rfl) rfl ?_
      refine WL.ev (Ev.move rfl) rfl ?_
      refine WL.ev (Ev.len rfl) rfl ?_
      refine WL.ev (Ev.lss rfl rfl) rfl ?_
      refine WL.nil (kr15 _ _ _ ?_)
      refine kh14 _ _ _ ?_
      refine CW.cond rfl (fun hc2 => ?_) (fun hc2 => ?_)  -- if 25
      ·
        simp only [decide_eq_true_eq, decide_eq_false_iff_not, Decidable.not_not, Bool.and_eq_true, Bool.or_eq_true, Bool.not_eq_true', ne_eq, Int.not_lt, Int.not_le] at hc2
        refine CW.skip ?_
        refine kh13 _ _ _ ?_
        refine CW.seq fun kK16 kh16 => ?_
        refine CW.block ?_
        refine CW.seq fun kK17 kh17 => ?_
        refine CW.region fun kR18 kr18 => ?_  -- region 7
        refine WL.ev (Ev.move rfl) rfl ?_
        refine WL.ev (Ev.move rfl) rfl ?_
        refine WL.ev (Ev.move rfl) rfl ?_
        obtain ⟨p, hp⟩ : ∃ p, l2[i]? = some p := ⟨l2[i]'(by omega), by simp⟩
        rcases own_cases hown with ⟨_, hl0, _⟩ | ⟨gg, cap', hvv, hcap, hgl, hcells⟩
        · exfalso; omega
        injection hvv with hv1 hv2 hv3
        subst hv1
        obtain ⟨f1, f2⟩ := flatR_get l2 _ p hp
        have hpm := List.mem_of_getElem? hp
        have hpos := h2.pos p hpm
        have hpk := (h2.ok p hpm).1
        have htt2 := tot_take l2 (i + 1)
        have htk0 : tot (l2.take (i + 1)) = tot (l2.take i) + p.2 := by rw [take_next hp, tot_append]; simp [tot]
        refine WL.ev (Ev.indexAddr rfl rfl (by omega) (by omega)) rfl ?_
        rw [show 0 + (((i : Nat) : Int)).toNat * 2 = i * 2 by omega]
        refine WL.ev (Ev.fieldAddr rfl) rfl ?_
        refine WL.ev (Ev.load rfl rfl (hcells _ _ f1)) rfl ?_
        refine WL.call hasF20 rfl rfl (steelyardref01_Of_spec _ _) fun v w1 h' => ?_
        obtain ⟨rfl, rfl⟩ := h'
        rw [Int.toNat_natCast]
        refine WL.call hasF41 rfl rfl (ref18_value_spec b p.1 hpk j _ (by rw [cell_at hrf.cell]; rfl)) fun v w2 h' => ?_
        obtain ⟨rfl, rfl⟩ := h'
        refine WL.ev (Ev.assign rfl) rfl ?_
        refine WL.nil (kr18 _ _ _ ?_)
        refine kh17 _ _ _ ?_
        refine CW.region fun kR19 kr19 => ?_  -- region 8
        refine WL.ev (Ev.move rfl) rfl ?_
        refine WL.ev (Ev.move rfl) rfl ?_
        refine WL.ev (Ev.move rfl) rfl ?_
        refine WL.ev (Ev.move rfl) rfl ?_
        refine WL.ev (Ev.indexAddr rfl rfl (by omega) (by omega)) rfl ?_
        rw [show 0 + (((i : Nat) : Int)).toNat * 2 = i * 2 by omega]
        refine WL.ev (Ev.fieldAddr rfl) rfl ?_
        refine WL.ev (Ev.load rfl rfl (hcells _ _ f2)) rfl ?_
        refine WL.call hasF40 rfl rfl (ref18_more_spec b vi j li (cval j p.1) (cval_ok hpk) (p.2 : Int) (by omega) (by omega) _ hrf) fun v w3 h' => ?_
        obtain ⟨rfl, hC, v', l', hr', hcn', htot', hF⟩ := h'
        refine WL.nil (kr19 _ _ _ ?_)
        refine kh16 _ _ _ ?_
        refine CW.region fun kR20 kr20 => ?_  -- region 6
        refine WL.ev (Ev.move rfl) rfl ?_
        first | refine WL.ev (Ev.addIn rfl rfl (by omega)) rfl ?_ | refine WL.ev (Ev.add rfl rfl) rfl ?_
        refine WL.ev (Ev.assign rfl) rfl ?_
        refine WL.nil (kr20 _ _ _ ?_)
        refine ⟨rfl, (i + 1, v', l'), ?_, ?_, ?_⟩
        ·
          repeat (first | exact Subs.nil | refine Subs.cons rfl ?_)
        ·
          have htk := take_next hp
          refine ⟨by dsimp only; omega, hr', own_keep hown hC (fun x hxx hm => hx x hxx (by simpa using hm)), fun k => ?_, by dsimp only; omega, hi.chg.trans hC, fun x hxx => .inr (by have := hF x hxx; have := hi.chg.size; omega)⟩
          have h1 := hi.cnt k
          have h3 := hcn' k
          dsimp only at h1 h3 ⊢
          rw [htk, msum_append, msum_one]
          by_cases e : k = cval j p.1
          · rw [if_pos e] at h3; rw [if_pos e.symm]; rw [← e] at h3; omega
          · rw [if_neg e] at h3; rw [if_neg (fun x => e x.symm)]; omega
        ·
          show l2.length - (i + 1) < l2.length - i; omega
      ·
        simp only [decide_eq_true_eq, decide_eq_false_iff_not, Decidable.not_not, Bool.and_eq_true, Bool.or_eq_true, Bool.not_eq_true', ne_eq, Int.not_lt, Int.not_le] at hc2
        refine CW.exit ?_  -- exit 0
        refine kh10 _ _ _ ?_
        refine CW.seq fun kK21 kh21 => ?_
        refine CW.region fun kR22 kr22 => ?_  -- region 9
        refine WL.ev (Ev.assign rfl) rfl ?_
        refine WL.nil (kr22 _ _ _ ?_)
        refine kh21 _ _ _ ?_
        refine CW.ret ?_
        refine bodyA.ret1 rfl rfl ?_
        have hil : i = l2.length := by omega
        subst hil
        refine .inr ⟨by omega, rfl, hi.chg, vi, li, hrf, fun k => by have := hi.cnt k; dsimp only at this; rw [List.take_length] at this; exact this, by rw [List.take_length] at htt; exact htt, hi.fr⟩

structure REInv (w : World) (b : Nat) (v : Value) (j : Bool) (l : KV) (g : Nat × Value) (wr : World) : Prop where
  le : g.1 ≤ l.length
  ref : RefP wr b v j l
  own : wr.ownsRow 0 50 2 g.2 g.1 (flatE (l.take g.1))
  chg : Chg [] w wr
  fr : ∀ x, g.2.ownBlock = some x → w.heap.size ≤ x
theorem RefQ.lt {w : World} {b : Nat} {v : Value} {j : Bool} {a : Value} {l : KV} (h : RefQ w b v j a l) : b < w.heap.size := lt_of_heap h.cell
theorem RefQ.vlt {w : World} {b : Nat} {v : Value} {j : Bool} {a : Value} {l : KV} (h : RefQ w b v j a l) : ∀ x, v.ownBlock = some x → x < w.heap.size := fun x hx => own_lt h.own hx
theorem RefQ.keepNew {w w1 w' : World} {T : List Nat} {b : Nat} {v : Value} {j : Bool} {a : Value} {l : KV} (h : RefQ w b v j a l) (h1 : RefQ w1 b v j a l) (hc : Chg T w1 w') (hT : ∀ x ∈ T, w.heap.size ≤ x) : RefQ w' b v j a l :=
  h1.keep hc (fun hm => by have := hT b hm; have := h.lt; omega) (fun x hx hm => by have := hT x hm; have := h.vlt x hx; omega)

set_option maxRecDepth 20000 in
theorem ref18_Entries_spec (b : Nat) (v : Value) (j : Bool) (l : KV) (w : World) (h : RefP w b v j l) : Ret Try.prog 27 [.pointer (some ⟨b, 0, none⟩)] w fun u w' => w'.ownsRow 0 50 2 u l.length (flatE l) ∧ Chg [] w w' ∧ ∀ x, u.ownBlock = some x → w.heap.size ≤ x := by
  have c0 : w.cell? ⟨b, 0, none⟩ = some (.bool j) := by rw [cell_at h.cell]; rfl
  have c1 : w.cell? ⟨b, 1, none⟩ = some v := by rw [cell_at h.cell]; rfl
  have c2 : w.cell? ⟨b, 2, none⟩ = some (.int .i64 (tot l : Int)) := by rw [cell_at h.cell]; rfl
  have hlen := h.len
  have hs := h.small
  obtain ⟨a, cap, hv⟩ := own_form h.own
  subst hv
  refine Ret.enter Try.func27 rfl rfl ?_
  refine CW.seq fun kK1 kh1 => ?_
  refine CW.region fun kR2 kr2 => ?_  -- region 0
  refine WL.ev (Ev.assign rfl) rfl ?_
  refine WL.nil (kr2 _ _ _ ?_)
  refine kh1 _ _ _ ?_
  refine CW.seq fun kK3 kh3 => ?_
  refine CW.region fun kR4 kr4 => ?_  -- region 1
  refine WL.ev (Ev.assign rfl) rfl ?_
  refine WL.nil (kr4 _ _ _ ?_)
  refine kh3 _ _ _ ?_
  refine CW.seq fun kK5 kh5 => ?_
  refine CW.seq fun kK6 kh6 => ?_
  refine CW.region fun kR7 kr7 => ?_  -- region 2
  refine WL.ev (Ev.assign rfl) rfl ?_
  refine WL.nil (kr7 _ _ _ ?_)
  refine kh6 _ _ _ ?_
  refine CW.block ?_
  refine CW.loop (S := fun g : Nat × Value => [(0, .pointer (some ⟨b, 0, none⟩)), (3, g.2), (4, .int .i64 (g.1 : Int))]) (Inv := REInv w b (.slice a l.length cap) j l) (mu := fun g => l.length - g.1) ((0, .slice none 0 0)) ?_ ?_ ?_
  ·
    exact ⟨Nat.zero_le _, h, ⟨rfl, .inl ⟨rfl, rfl⟩⟩, Chg.refl _ w, fun x hx => by cases hx⟩
  ·
    repeat (first | exact Subs.nil | refine Subs.cons rfl ?_)
  ·
    rintro ⟨i, u⟩ wr hi
    have hle := hi.le
    have hrf := hi.ref
    have hown := hi.own
    dsimp only at hle hrf hown ⊢
    have e1 : wr.cell? ⟨b, 1, none⟩ = some (.slice a l.length cap) := by rw [cell_at hrf.cell]; rfl
    refine CW.seq fun kK8 kh8 => ?_
    refine CW.seq fun kK9 kh9 => ?_
    refine CW.region fun kR10 kr10 => ?_  -- region 3
    refine WL.ev (Ev.move rfl) rfl ?_
    refine WL.ev (Ev.move rfl) rfl ?_
    refine WL.ev (Ev.nilPtr rfl) rfl ?_
    refine WL.ev (Ev.fieldAddr rfl) rfl ?_
    refine WL.ev (Ev.load rfl rfl (e1)) rfl ?_
    refine WL.ev (Ev.len rfl) rfl ?_
    refine WL.ev (Ev.lss rfl rfl) rfl ?_
    refine WL.nil (kr10 _ _ _ ?_)
    refine kh9 _ _ _ ?_
    refine CW.cond rfl (fun hc1 => ?_) (fun hc1 => ?_)  -- if 11
    ·
      simp only [decide_eq_true_eq, decide_eq_false_iff_not, Decidable.not_not, Bool.and_eq_true, Bool.or_eq_true, Bool.not_eq_true', ne_eq, Int.not_lt, Int.not_le] at hc1
      refine CW.skip ?_
      refine kh8 _ _ _ ?_
      refine CW.seq fun kK11 kh11 => ?_
      refine CW.block ?_
      obtain ⟨p, hp⟩ : ∃ p, l[i]? = some p := ⟨l[i]'(by omega), by simp⟩
      rcases own_cases hrf.own with ⟨_, hl0, _⟩ | ⟨gg, cap', hvv, hcap, hgl, hcells⟩
      · exfalso; omega
      injection hvv with hv1 hv2 hv3
      subst hv1
      obtain ⟨f1, f2⟩ := flatR_get l _ p hp
      have hpm := List.mem_of_getElem? hp
      refine CW.regionH (fun w' => w'.cell? ⟨b, 1, none⟩ = some (.slice (some ⟨gg, 0, none⟩) l.length cap) ∧ w'.cell? ⟨gg, i * 2, none⟩ = some (.int .u64 (p.1 : Int)) ∧ w'.cell? ⟨gg, i * 2 + 1, none⟩ = some (.int .i64 (p.2 : Int))) 22 rfl hmix fun kR12 kr12 => ?_  -- region 5
      have hS : (fun w' : World => w'.cell? ⟨b, 1, none⟩ = some (.slice (some ⟨gg, 0, none⟩) l.length cap) ∧ w'.cell? ⟨gg, i * 2, none⟩ = some (.int .u64 (p.1 : Int)) ∧ w'.cell? ⟨gg, i * 2 + 1, none⟩ = some (.int .i64 (p.2 : Int))) wr.drew := ⟨(Chg.drew [] wr).cell e1 (by simp), (Chg.drew [] wr).cell (hcells _ _ f1) (by simp), (Chg.drew [] wr).cell (hcells _ _ f2) (by simp)⟩
      refine WH.take 0 rfl (by kernel_rfl) (by kernel_rfl) (by kernel_rfl) hS (fun w' hw' => Ev.move rfl) rfl ?_
      refine WH.take 1 rfl (by kernel_rfl) (by kernel_rfl) (by kernel_rfl) hS (fun w' hw' => Ev.move rfl) rfl ?_
      refine WH.take 2 rfl (by kernel_rfl) (by kernel_rfl) (by kernel_rfl) hS (fun w' hw' => Ev.nilPtr rfl) rfl ?_
      refine WH.take 3 rfl (by kernel_rfl) (by kernel_rfl) (by kernel_rfl) hS (fun w' hw' => Ev.fieldAddr rfl) rfl ?_
      refine WH.take 4 rfl (by kernel_rfl) (by kernel_rfl) (by kernel_rfl) hS (fun w' hw' => Ev.load rfl rfl (hw'.1)) rfl ?_
      refine WH.take 5 rfl (by kernel_rfl) (by kernel_rfl) (by kernel_rfl) hS (fun w' hw' => Ev.move rfl) rfl ?_
      refine WH.take 6 rfl (by kernel_rfl) (by kernel_rfl) (by kernel_rfl) hS (fun w' hw' => Ev.indexAddr rfl rfl (by omega) (by omega)) rfl ?_
      rw [show 0 + (((i : Nat) : Int)).toNat * 2 = i * 2 by omega]
      refine WH.take 7 rfl (by kernel_rfl) (by kernel_rfl) (by kernel_rfl) hS (fun w' hw' => Ev.fieldAddr rfl) rfl ?_
      refine WH.take 8 rfl (by kernel_rfl) (by kernel_rfl) (by kernel_rfl) hS (fun w' hw' => Ev.load rfl rfl (hw'.2.1)) rfl ?_
      refine WH.take 10 rfl (by kernel_rfl) (by kernel_rfl) (by kernel_rfl) hS (fun w' hw' => Ev.move rfl) rfl ?_
      refine WH.take 11 rfl (by kernel_rfl) (by kernel_rfl) (by kernel_rfl) hS (fun w' hw' => Ev.nilPtr rfl) rfl ?_
      refine WH.take 12 rfl (by kernel_rfl) (by kernel_rfl) (by kernel_rfl) hS (fun w' hw' => Ev.fieldAddr rfl) rfl ?_
      refine WH.take 13 rfl (by kernel_rfl) (by kernel_rfl) (by kernel_rfl) hS (fun w' hw' => Ev.load rfl rfl (hw'.1)) rfl ?_
      refine WH.take 14 rfl (by kernel_rfl) (by kernel_rfl) (by kernel_rfl) hS (fun w' hw' => Ev.move rfl) rfl ?_
      refine WH.take 15 rfl (by kernel_rfl) (by kernel_rfl) (by kernel_rfl) hS (fun w' hw' => Ev.indexAddr rfl rfl (by omega) (by omega)) rfl ?_
      rw [show 0 + (((i : Nat) : Int)).toNat * 2 = i * 2 by omega]
      refine WH.take 16 rfl (by kernel_rfl) (by kernel_rfl) (by kernel_rfl) hS (fun w' hw' => Ev.fieldAddr rfl) rfl ?_
      refine WH.take 17 rfl (by kernel_rfl) (by kernel_rfl) (by kernel_rfl) hS (fun w' hw' => Ev.load rfl rfl (hw'.2.2)) rfl ?_
      refine WH.oneCall 9 rfl (by kernel_rfl) hasF20 rfl rfl (steelyardref01_Of_spec _ _) fun v w1 h' => ?_
      obtain ⟨rfl, rfl⟩ := h'
      rw [Int.toNat_natCast]
      refine ⟨hS, ?_⟩
      refine WH.take 18 rfl (by kernel_rfl) (by kernel_rfl) (by kernel_rfl) hS (fun w' hw' => Ev.build (cs := [.float .f64 p.1, .int .i64 (p.2 : Int)]) rfl rfl) rfl ?_
      refine WH.buildSlice 19 (cs := [.float .f64 p.1, .int .i64 (p.2 : Int)]) rfl (by kernel_rfl) (by decide) (by decide) rfl (by kernel_rfl) rfl fun nb w5 n5 => ?_
      have hS5 := (⟨n5.chg.cell hS.1 (by simp), n5.chg.cell hS.2.1 (by simp), n5.chg.cell hS.2.2 (by simp)⟩ : _ ∧ _ ∧ _)
      refine ⟨hS5, ?_⟩
      refine WH.append 20 (m := i) (news := [.float .f64 p.1, .int .i64 (p.2 : Int)]) rfl (by kernel_rfl) (by rfl) (by decide) rfl rfl (own_keep (own_keep hown (Chg.drew [] wr) (by simp)) n5.chg (by simp)) rfl (fun i u hu => by rw [add_addr, Nat.zero_add, cell_at n5.at_]; exact hu) (flatE_one [p]) (by unfold maxLen; omega) (by omega) rfl fun u' w6 ho hc hl => ?_
      have hnf : ∀ x, x ∈ u.ownBlock.toList → x ≠ b ∧ x ≠ gg := fun x hx => by have := hi.fr x (by simpa using hx); have := h.lt; have := h.vlt gg rfl; exact ⟨by omega, by omega⟩
      have hS6 := (⟨hc.cell hS5.1 (fun hm => (hnf _ hm).1 rfl), hc.cell hS5.2.1 (fun hm => (hnf _ hm).2 rfl), hc.cell hS5.2.2 (fun hm => (hnf _ hm).2 rfl)⟩ : _ ∧ _ ∧ _)
      refine ⟨hS6, ?_⟩
      refine WH.one 21 rfl (by kernel_rfl) (Ev.assign rfl) hS6 rfl ?_
      refine WH.done (by kernel_rfl) (kr12 _ _ _ ?_)
      refine kh11 _ _ _ ?_
      refine CW.region fun kR13 kr13 => ?_  -- region 4
      refine WL.ev (Ev.move rfl) rfl ?_
      first | refine WL.ev (Ev.addIn rfl rfl (by omega)) rfl ?_ | refine WL.ev (Ev.add rfl rfl) rfl ?_
      refine WL.ev (Ev.assign rfl) rfl ?_
      refine WL.nil (kr13 _ _ _ ?_)
      refine ⟨rfl, (i + 1, u'), ?_, ?_, ?_⟩
      ·
        repeat (first | exact Subs.nil | refine Subs.cons rfl ?_)
      ·
        refine ⟨by dsimp only; omega, h.keepNew (h.keepNew (h.keepNew hrf (Chg.drew [] wr) (by simp)) n5.chg (by simp)) hc (fun x hx => hi.fr x (by simpa using hx)), ?_, ((hi.chg.trans (Chg.drew _ wr)).trans n5.chg).step hc (fun x hx => .inr (hi.fr x (by simpa using hx))), fresh_step hl hi.fr (by have := hi.chg.size; have := n5.chg.size; have h9 : wr.drew.heap.size = wr.heap.size := rfl; omega)⟩
        show w6.ownsRow 0 _ 2 u' (i + 1) (flatE (l.take (i + 1)))
        rw [take_next hp, flatE_append]
        exact ho
      ·
        show l.length - (i + 1) < l.length - i; omega
    ·
      simp only [decide_eq_true_eq, decide_eq_false_iff_not, Decidable.not_not, Bool.and_eq_true, Bool.or_eq_true, Bool.not_eq_true', ne_eq, Int.not_lt, Int.not_le] at hc1
      refine CW.exit ?_  -- exit 0
      refine kh5 _ _ _ ?_
      refine CW.seq fun kK14 kh14 => ?_
      refine CW.region fun kR15 kr15 => ?_  -- region 6
      refine WL.ev (Ev.move rfl) rfl ?_
      refine WL.ev (Ev.assign rfl) rfl ?_
      refine WL.nil (kr15 _ _ _ ?_)
      refine kh14 _ _ _ ?_
      refine CW.ret ?_
      refine bodyA.ret1 rfl rfl ?_
      have hil : i = l.length := by omega
      subst hil
      rw [List.take_length] at hown
      exact ⟨hown, hi.chg, hi.fr⟩

def bestF (b p : Nat × Nat) : Nat × Nat := if b.2 < p.2 then p else b
/-- The first entry of the greatest count. -/
def best (l : KV) : Nat × Nat := l.foldl bestF (0, 0)
theorem best_take {l : KV} {i : Nat} {p : Nat × Nat} (h : l[i]? = some p) : best (l.take (i + 1)) = bestF (best (l.take i)) p := by
  rw [take_next h]; simp [best]
theorem best_mem (l : KV) : best l = (0, 0) ∨ best l ∈ l := by
  have : ∀ (l : KV) (a : Nat × Nat), l.foldl bestF a = a ∨ l.foldl bestF a ∈ l := by
    intro l
    induction l with
    | nil => intro a; exact .inl rfl
    | cons p l ih =>
      intro a
      rw [List.foldl_cons]
      rcases ih (bestF a p) with h | h
      · rw [h]; unfold bestF; split
        · exact .inr (List.mem_cons_self ..)
        · exact .inl rfl
      · exact .inr (List.mem_cons_of_mem _ h)
  exact this l (0, 0)
theorem best_lt {l : KV} (h : ∀ p ∈ l, p.1 < 18446744073709551616) : (best l).1 < 18446744073709551616 := by
  rcases best_mem l with e | e
  · rw [e]; decide
  · exact h _ e
theorem best_ge (l : KV) : ∀ (a : Nat × Nat), a.2 ≤ (l.foldl bestF a).2 ∧ ∀ p ∈ l, p.2 ≤ (l.foldl bestF a).2 := by
  induction l with
  | nil => intro a; simp
  | cons q l ih =>
    intro a
    rw [List.foldl_cons]
    have h := ih (bestF a q)
    have h2 : a.2 ≤ (bestF a q).2 ∧ q.2 ≤ (bestF a q).2 := by unfold bestF; split <;> omega
    refine ⟨by omega, fun p hp => ?_⟩
    rcases List.mem_cons.1 hp with rfl | hp
    · omega
    · exact h.2 p hp
theorem best_pos {l : KV} (h : ∀ p ∈ l, 0 < p.2) (hl : 0 < l.length) : 0 < (best l).2 := by
  cases l with
  | nil => simp at hl
  | cons p l => have := (best_ge (p :: l) (0, 0)).2 p (List.mem_cons_self ..); have := h p (List.mem_cons_self ..); show 0 < ((p :: l).foldl bestF (0, 0)).2; omega
structure OInv (w : World) (b2 b4 : Nat) (v : Value) (l : KV) (i : Nat) (wr : World) : Prop where
  le : i ≤ l.length
  z : wr.heap[b2]? = some (.cells [.float .f64 0, .int .i64 0].toArray 50 (0, 0))
  bst : wr.heap[b4]? = some (.cells [.float .f64 (best (l.take i)).1, .int .i64 ((best (l.take i)).2 : Int)].toArray 50 (0, 0))
  own : wr.ownsRow 0 50 2 v l.length (flatE l)
  chg : Chg [] w wr
theorem TallyQ.keep {w w' : World} {T : List Nat} {b r : Nat} {j : Bool} {a : Value} {t : T3} {c : Nat} (h : TallyQ w b r j a t c) (hc : Chg T w w') (hb : b ∉ T) (hr : r ∉ T) : TallyQ w' b r j a t c :=
  ⟨hc.heap h.cell hb, hc.heap h.map hr, h.ne, h.g, h.ok, h.small⟩
theorem TallyP.keep {w w' : World} {T : List Nat} {b r : Nat} {j : Bool} {t : T3} {c : Nat} (h : TallyP w b r j t c) (hc : Chg T w w') (hb : b ∉ T) (hr : r ∉ T) : TallyP w' b r j t c :=
  ⟨hc.heap h.cell hb, hc.heap h.map hr, h.ne, h.g, h.ok, h.small⟩

set_option maxRecDepth 20000 in
theorem tally_Tally_Often_spec (b r : Nat) (j : Bool) (t : T3) (c : Nat) (w : World) (h : TallyP w b r j t c) : Ret Try.prog 21 [.pointer (some ⟨b, 0, none⟩)] w fun u w' => ∃ l : KV, Srt l ∧ l.Perm (kv t) ∧ u = .tuple [.agg [.float .f64 (best l).1, .int .i64 ((best l).2 : Int)].toArray, .bool (decide (0 < (best l).2))].toArray ∧ Chg [] w w' := by
  refine Ret.enter Try.func21 rfl rfl ?_
  refine CW.seq fun kK1 kh1 => ?_
  refine CW.region fun kR2 kr2 => ?_  -- region 0
  refine WL.alloc (l := [.float .f64 0, .int .i64 0]) rfl rfl fun b2 w1 n2 => ?_
  refine WL.ev (Ev.assign rfl) rfl ?_
  refine WL.nil (kr2 _ _ _ ?_)
  refine kh1 _ _ _ ?_
  refine CW.seq fun kK3 kh3 => ?_
  refine CW.region fun kR4 kr4 => ?_  -- region 1
  refine WL.alloc (l := [.float .f64 0, .int .i64 0]) rfl rfl fun b4 w2 n4 => ?_
  refine WL.nil (kr4 _ _ _ ?_)
  refine kh3 _ _ _ ?_
  refine CW.seq fun kK5 kh5 => ?_
  refine CW.seq fun kK6 kh6 => ?_
  refine CW.region fun kR7 kr7 => ?_  -- region 2
  refine WL.ev (Ev.move rfl) rfl ?_
  refine WL.call hasF13 rfl rfl (tally_Tally_Entries_spec b r j _ t c _ (h.q.keep (n2.chg.trans n4.chg) (by simp) (by simp))) fun ve w1 he => ?_
  obtain ⟨l, hsrt, hlp, hoe, hce, hve⟩ := he
  obtain ⟨a, cap, hv0⟩ := own_form hoe
  subst hv0
  have hs := h.small
  have hll : l.length ≤ 1099511627776 := by have := hlp.length_eq; have := length_le_tot h.g.wf.pos; omega
  have hne24 : b2 ≠ b4 := by have := n4.is; have := n2.lt; omega
  refine WL.ev (Ev.len rfl) rfl ?_
  refine WL.ev (Ev.move rfl) rfl ?_
  refine WL.nil (kr7 _ _ _ ?_)
  refine kh6 _ _ _ ?_
  refine CW.block ?_
  refine CW.loop (S := fun i : Nat => [(2, .pointer (some ⟨b2, 0, none⟩)), (4, .pointer (some ⟨b4, 0, none⟩)), (8, .slice a l.length cap), (9, .int .i64 (l.length : Int)), (10, .int .i64 (i : Int)), (3, .bool false)]) (Inv := OInv w b2 b4 (.slice a l.length cap) l) (mu := fun i => l.length - i) (0) ?_ ?_ ?_
  ·
    exact ⟨Nat.zero_le _, hce.heap (n4.heap n2.at_) (by simp), hce.heap n4.at_ (by simp), hoe, (n2.chg.trans n4.chg).trans hce⟩
  ·
    repeat (first | exact Subs.nil | refine Subs.cons rfl ?_)
  ·
    intro i wr hi
    have hle := hi.le
    refine CW.seq fun kK8 kh8 => ?_
    refine CW.region fun kR9 kr9 => ?_  -- region 3
    refine WL.ev (Ev.lss rfl rfl) rfl ?_
    refine WL.nil (kr9 _ _ _ ?_)
    refine kh8 _ _ _ ?_
    refine CW.seq fun kK10 kh10 => ?_
    refine CW.cond rfl (fun hc1 => ?_) (fun hc1 => ?_)  -- if 11
    ·
      simp only [decide_eq_true_eq, decide_eq_false_iff_not, Decidable.not_not, Bool.and_eq_true, Bool.or_eq_true, Bool.not_eq_true', ne_eq, Int.not_lt, Int.not_le] at hc1
      refine CW.skip ?_
      refine kh10 _ _ _ ?_
      refine CW.seq fun kK11 kh11 => ?_
      refine CW.block ?_
      refine CW.seq fun kK12 kh12 => ?_
      refine CW.region fun kR13 kr13 => ?_  -- region 4
      obtain ⟨p, hp⟩ : ∃ p, l[i]? = some p := ⟨l[i]'(by omega), by simp⟩
      rcases own_cases hi.own with ⟨_, hl0, _⟩ | ⟨gg, cap', hvv, hcap, hgl, hcells⟩
      · exfalso; omega
      injection hvv with hv1 hv2 hv3
      subst hv1
      obtain ⟨f1, f2⟩ := flatE_get l _ p hp
      have hpm := List.mem_of_getElem? hp
      refine WL.ev (Ev.indexAddr rfl rfl (by omega) (by omega)) rfl ?_
      rw [show 0 + (((i : Nat) : Int)).toNat * 2 = i * 2 by omega]
      refine WL.ev (Ev.loadAgg (cs := [.float .f64 p.1, .int .i64 (p.2 : Int)]) rfl rfl rfl (fun q x hq => ?_)) rfl ?_
      · rw [add_addr]; exact row2 (hcells _ _ f1) (hcells _ _ f2) q x hq
      refine WL.alloc (l := [.float .f64 0, .int .i64 0]) rfl rfl fun b6 w5 n6 => ?_
      refine WL.storeAgg (vs := [.float .f64 p.1, .int .i64 (p.2 : Int)]) rfl rfl rfl (flatE_one [p]) n6.at_ (by simp) fun w6 u6 => ?_
      have hb2 : b2 ≠ b6 := by have := lt_of_heap hi.z; have := n6.is; omega
      have hb4 : b4 ≠ b6 := by have := lt_of_heap hi.bst; have := n6.is; omega
      have hbb := u6.heap (n6.heap hi.bst) hb4
      have hzz := u6.heap (n6.heap hi.z) hb2
      have k6a : w6.cell? ⟨b6, 0, none⟩ = some (.float .f64 p.1) := by rw [cell_at u6.at_]; rfl
      have k6b : w6.cell? ⟨b6, 1, none⟩ = some (.int .i64 (p.2 : Int)) := by rw [cell_at u6.at_]; rfl
      have k4b : w6.cell? ⟨b4, 1, none⟩ = some (.int .i64 ((best (l.take i)).2 : Int)) := by rw [cell_at hbb]; rfl
      have hown6 := own_keep (own_keep hi.own n6.chg (by simp)) u6.chg (fun x hx hm => by have := own_lt hi.own hx; have := n6.is; simp only [List.mem_singleton] at hm; omega)
      have hch6 : Chg [] w w6 := (hi.chg.trans n6.chg).step u6.chg (fun x hx => .inr (by simp only [List.mem_singleton] at hx; have := hi.chg.size; have := n6.is; omega))
      refine WL.nil (kr13 _ _ _ ?_)
      refine kh12 _ _ _ ?_
      refine CW.seq fun kK14 kh14 => ?_
      refine CW.region fun kR15 kr15 => ?_  -- region 5
      refine WL.ev (Ev.fieldAddr rfl) rfl ?_
      refine WL.ev (Ev.load rfl rfl (k6b)) rfl ?_
      refine WL.ev (Ev.fieldAddr rfl) rfl ?_
      refine WL.ev (Ev.load rfl rfl (k4b)) rfl ?_
      refine WL.ev (Ev.gtr rfl rfl) rfl ?_
      refine WL.nil (kr15 _ _ _ ?_)
      refine kh14 _ _ _ ?_
      refine CW.cond rfl (fun hc2 => ?_) (fun hc2 => ?_)  -- if 18
      ·
        simp only [decide_eq_true_eq, decide_eq_false_iff_not, Decidable.not_not, Bool.and_eq_true, Bool.or_eq_true, Bool.not_eq_true', ne_eq, Int.not_lt, Int.not_le] at hc2
        have hbt : best (l.take (i + 1)) = p := by rw [best_take hp]; unfold bestF; rw [if_pos (by omega)]
        refine CW.region fun kR16 kr16 => ?_  -- region 6
        refine WL.ev (Ev.loadAgg (cs := [.float .f64 p.1, .int .i64 (p.2 : Int)]) rfl rfl rfl (fun q x hq => ?_)) rfl ?_
        · rw [add_addr]; exact row2 k6a k6b q x hq
        refine WL.storeAgg (vs := [.float .f64 p.1, .int .i64 (p.2 : Int)]) rfl rfl rfl (flatE_one [p]) hbb (by simp) fun w7 u7 => ?_
        refine WL.nil (kr16 _ _ _ ?_)
        refine kh11 _ _ _ ?_
        refine CW.region fun kR17 kr17 => ?_  -- region 7
        first | refine WL.ev (Ev.addIn rfl rfl (by omega)) rfl ?_ | refine WL.ev (Ev.add rfl rfl) rfl ?_
        refine WL.ev (Ev.move rfl) rfl ?_
        refine WL.nil (kr17 _ _ _ ?_)
        refine ⟨rfl, i + 1, ?_, ?_, ?_⟩
        ·
          repeat (first | exact Subs.nil | refine Subs.cons rfl ?_)
        ·
          have hb4l := lt_of_heap hi.bst
          refine ⟨by omega, u7.heap hzz hne24, ?_, own_keep hown6 u7.chg (fun x hx hm => by have := hve x hx; have := n4.lt; simp only [List.mem_singleton] at hm; omega), hch6.step u7.chg (fun x hx => .inr (by simp only [List.mem_singleton] at hx; have := n4.ge; have := n2.chg.size; omega))⟩
          rw [hbt]
          exact u7.at_
        ·
          show l.length - (i + 1) < l.length - i; omega
      ·
        simp only [decide_eq_true_eq, decide_eq_false_iff_not, Decidable.not_not, Bool.and_eq_true, Bool.or_eq_true, Bool.not_eq_true', ne_eq, Int.not_lt, Int.not_le] at hc2
        have hbt : best (l.take (i + 1)) = best (l.take i) := by rw [best_take hp]; unfold bestF; rw [if_neg (by omega)]
        refine CW.skip ?_
        refine kh11 _ _ _ ?_
        refine CW.region fun kR18 kr18 => ?_  -- region 7
        first | refine WL.ev (Ev.addIn rfl rfl (by omega)) rfl ?_ | refine WL.ev (Ev.add rfl rfl) rfl ?_
        refine WL.ev (Ev.move rfl) rfl ?_
        refine WL.nil (kr18 _ _ _ ?_)
        refine ⟨rfl, i + 1, ?_, ?_, ?_⟩
        ·
          repeat (first | exact Subs.nil | refine Subs.cons rfl ?_)
        ·
          refine ⟨by omega, hzz, ?_, hown6, hch6⟩
          rw [hbt]
          exact hbb
        ·
          show l.length - (i + 1) < l.length - i; omega
    ·
      simp only [decide_eq_true_eq, decide_eq_false_iff_not, Decidable.not_not, Bool.and_eq_true, Bool.or_eq_true, Bool.not_eq_true', ne_eq, Int.not_lt, Int.not_le] at hc1
      refine CW.exit ?_  -- exit 0
      refine kh5 _ _ _ ?_
      refine CW.seq fun kK19 kh19 => ?_
      obtain rfl : i = l.length := by omega
      have hbst := hi.bst
      rw [List.take_length] at hbst
      refine CW.regionH (fun w' => w'.cell? ⟨b4, 0, none⟩ = some (.float .f64 (best l).1) ∧ w'.cell? ⟨b4, 1, none⟩ = some (.int .i64 ((best l).2 : Int))) 6 rfl hmix fun kR20 kr20 => ?_  -- region 8
      have hS : (fun w' : World => w'.cell? ⟨b4, 0, none⟩ = some (.float .f64 (best l).1) ∧ w'.cell? ⟨b4, 1, none⟩ = some (.int .i64 ((best l).2 : Int))) wr.drew := ⟨(Chg.drew [] wr).cell (by rw [cell_at hbst]; rfl) (by simp), (Chg.drew [] wr).cell (by rw [cell_at hbst]; rfl) (by simp)⟩
      refine WH.take 0 rfl (by kernel_rfl) (by kernel_rfl) (by kernel_rfl) hS (fun w' hw' => Ev.loadAgg (cs := [.float .f64 (best l).1, .int .i64 ((best l).2 : Int)]) rfl rfl rfl (fun q x hq => by rw [add_addr]; exact row2 hw'.1 hw'.2 q x hq)) rfl ?_
      refine WH.take 1 rfl (by kernel_rfl) (by kernel_rfl) (by kernel_rfl) hS (fun w' hw' => Ev.fieldAddr rfl) rfl ?_
      refine WH.take 2 rfl (by kernel_rfl) (by kernel_rfl) (by kernel_rfl) hS (fun w' hw' => Ev.load rfl rfl (hw'.2)) rfl ?_
      refine WH.take 3 rfl (by kernel_rfl) (by kernel_rfl) (by kernel_rfl) hS (fun w' hw' => Ev.gtr rfl rfl) rfl ?_
      refine WH.storeAgg 4 (vs := [.float .f64 (best l).1, .int .i64 ((best l).2 : Int)]) rfl (by kernel_rfl) rfl rfl rfl (flatE_one [best l]) ((Chg.drew [] wr).heap hi.z (by simp)) (by simp) fun w8 u8 => ?_
      have hS8 := (⟨u8.chg.cell hS.1 (by simp [hne24.symm]), u8.chg.cell hS.2 (by simp [hne24.symm])⟩ : _ ∧ _)
      refine ⟨hS8, ?_⟩
      refine WH.one 5 rfl (by kernel_rfl) (Ev.assign rfl) hS8 rfl ?_
      refine WH.done (by kernel_rfl) (kr20 _ _ _ ?_)
      refine kh19 _ _ _ ?_
      refine CW.ret ?_
      refine bodyA.retR2 rfl (RVal.cell rfl (loadVar_agg (cs := [.float .f64 (best l).1, .int .i64 ((best l).2 : Int)]) rfl rfl (fun q x hq => by rw [add_addr]; exact row2 (by rw [cell_at u8.at_]; rfl) (by rw [cell_at u8.at_]; rfl) q x hq))) (RVal.tmp rfl) ?_
      have hb2l := n2.ge
      exact ⟨l, hsrt, hlp, by simp, (hi.chg.trans (Chg.drew _ wr)).step u8.chg (fun x hx => .inr (by simp only [List.mem_singleton] at hx; omega))⟩

set_option maxRecDepth 20000 in
theorem ref18_Often_spec (b : Nat) (v : Value) (j : Bool) (l : KV) (w : World) (h : RefP w b v j l) : Ret Try.prog 28 [.pointer (some ⟨b, 0, none⟩)] w fun u w' => u = .tuple [.agg [.float .f64 (best l).1, .int .i64 ((best l).2 : Int)].toArray, .bool (decide (0 < (best l).2))].toArray ∧ Chg [] w w' := by
  have hlen := h.len
  refine Ret.enter Try.func28 rfl rfl ?_
  refine CW.seq fun kK1 kh1 => ?_
  refine CW.region fun kR2 kr2 => ?_  -- region 0
  refine WL.alloc (l := [.float .f64 0, .int .i64 0]) rfl rfl fun b2 w1 n2 => ?_
  refine WL.ev (Ev.assign rfl) rfl ?_
  refine WL.nil (kr2 _ _ _ ?_)
  refine kh1 _ _ _ ?_
  refine CW.seq fun kK3 kh3 => ?_
  refine CW.region fun kR4 kr4 => ?_  -- region 1
  refine WL.ev (Ev.move rfl) rfl ?_
  refine WL.call hasF27 rfl rfl (ref18_Entries_spec b v j l _ (h.keep n2.chg (by simp) (by simp))) fun ve w1 he => ?_
  obtain ⟨hoe, hce, hve⟩ := he
  obtain ⟨a, cap, hv0⟩ := own_form hoe
  subst hv0
  refine WL.ev (Ev.assign rfl) rfl ?_
  refine WL.nil (kr4 _ _ _ ?_)
  refine kh3 _ _ _ ?_
  refine CW.seq fun kK5 kh5 => ?_
  refine CW.seq fun kK6 kh6 => ?_
  refine CW.region fun kR7 kr7 => ?_  -- region 2
  refine WL.ev (Ev.move rfl) rfl ?_
  refine WL.ev (Ev.len rfl) rfl ?_
  refine WL.ev (Ev.eql rfl rfl) rfl ?_
  refine WL.nil (kr7 _ _ _ ?_)
  refine kh6 _ _ _ ?_
  refine CW.cond rfl (fun hc1 => ?_) (fun hc1 => ?_)  -- if 11
  ·
    simp only [decide_eq_true_eq, decide_eq_false_iff_not, Decidable.not_not, Bool.and_eq_true, Bool.or_eq_true, Bool.not_eq_true', ne_eq, Int.not_lt, Int.not_le] at hc1
    refine CW.seq fun kK8 kh8 => ?_
    have hl0 : l = [] := List.length_eq_zero_iff.1 (by omega)
    have hbe : best l = (0, 0) := by rw [hl0]; rfl
    refine CW.region fun kR9 kr9 => ?_  -- region 3
    refine WL.ev (Ev.build (cs := [.float .f64 0, .int .i64 0]) rfl rfl) rfl ?_
    refine WL.storeAgg (vs := [.float .f64 0, .int .i64 0]) rfl rfl rfl (by simp [Value.oneCell']) (hce.heap n2.at_ (by simp)) (by simp) fun w3 u3 => ?_
    refine WL.ev (Ev.assign rfl) rfl ?_
    refine WL.nil (kr9 _ _ _ ?_)
    refine kh8 _ _ _ ?_
    refine CW.ret ?_
    refine bodyA.retR2 rfl (RVal.cell rfl (loadVar_agg (cs := [.float .f64 0, .int .i64 0]) rfl rfl (fun q x hq => by rw [add_addr]; exact row2 (by rw [cell_at u3.at_]; rfl) (by rw [cell_at u3.at_]; rfl) q x hq))) (RVal.tmp rfl) ?_
    refine ⟨by rw [hbe]; rfl, (n2.chg.trans hce).step u3.chg (fun x hx => .inr (by simp only [List.mem_singleton] at hx; have := n2.ge; omega))⟩
  ·
    simp only [decide_eq_true_eq, decide_eq_false_iff_not, Decidable.not_not, Bool.and_eq_true, Bool.or_eq_true, Bool.not_eq_true', ne_eq, Int.not_lt, Int.not_le] at hc1
    refine CW.skip ?_
    refine kh5 _ _ _ ?_
    refine CW.seq fun kK10 kh10 => ?_
    refine CW.region fun kR11 kr11 => ?_  -- region 4
    refine WL.ev (Ev.move rfl) rfl ?_
    obtain ⟨p, hp⟩ : ∃ p, l[0]? = some p := ⟨l[0]'(by omega), by simp⟩
    have hpp := h.pos p (List.mem_of_getElem? hp)
    obtain ⟨gg, hgg, hcells⟩ : ∃ gg, a = some ⟨gg, 0, none⟩ ∧ ∀ j x, (flatE l)[j]? = some x → w1.cell? ⟨gg, j, none⟩ = some x := by
      rcases own_cases hoe with ⟨_, hl0, _⟩ | ⟨gg, cap', hvv, _, _, hc⟩
      · exfalso; omega
      · injection hvv with hv1; exact ⟨gg, hv1, hc⟩
    subst hgg
    obtain ⟨f1, f2⟩ := flatE_get l _ p hp
    refine WL.ev (Ev.indexAddr rfl rfl (by omega) (by omega)) rfl ?_
    rw [show 0 + (0 : Int).toNat * 2 = 0 * 2 by omega]
    refine WL.ev (Ev.loadAgg (cs := [.float .f64 p.1, .int .i64 (p.2 : Int)]) rfl rfl rfl (fun q x hq => ?_)) rfl ?_
    · rw [add_addr]; exact row2 (hcells _ _ f1) (hcells _ _ f2) q x hq
    refine WL.alloc (l := [.float .f64 0, .int .i64 0]) rfl rfl fun b5 w5 n5 => ?_
    refine WL.storeAgg (vs := [.float .f64 p.1, .int .i64 (p.2 : Int)]) rfl rfl rfl (flatE_one [p]) n5.at_ (by simp) fun w6 u6 => ?_
    refine WL.nil (kr11 _ _ _ ?_)
    refine kh10 _ _ _ ?_
    refine CW.seq fun kK12 kh12 => ?_
    refine CW.seq fun kK13 kh13 => ?_
    refine CW.region fun kR14 kr14 => ?_  -- region 5
    refine WL.ev (Ev.assign rfl) rfl ?_
    refine WL.nil (kr14 _ _ _ ?_)
    refine kh13 _ _ _ ?_
    refine CW.block ?_
    refine CW.loop (S := fun i : Nat => [(2, .pointer (some ⟨b2, 0, none⟩)), (5, .pointer (some ⟨b5, 0, none⟩)), (4, .slice (some ⟨gg, 0, none⟩) l.length cap), (6, .int .i64 (i : Int)), (3, .bool false)]) (Inv := fun i wr => 1 ≤ i ∧ OInv w b2 b5 (.slice (some ⟨gg, 0, none⟩) l.length cap) l i wr) (mu := fun i => l.length - i) (1) ?_ ?_ ?_
    ·
      have hb0 : best (l.take 1) = p := by rw [best_take hp]; unfold bestF; rw [if_pos (by show 0 < p.2; omega)]
      have hb2l := n2.lt
      have hne : b2 ≠ b5 := by have := n5.ge; have := hce.size; omega
      refine ⟨by omega, by omega, u6.heap (n5.heap (hce.heap n2.at_ (by simp))) hne, ?_, own_keep (own_keep hoe n5.chg (by simp)) u6.chg (fun x hx hm => by have := own_lt hoe hx; have := n5.is; simp only [List.mem_singleton] at hm; omega), ((n2.chg.trans hce).trans n5.chg).step u6.chg (fun x hx => .inr (by simp only [List.mem_singleton] at hx; have := n5.ge; have := hce.size; have := n2.chg.size; omega))⟩
      rw [hb0]
      exact u6.at_
    ·
      repeat (first | exact Subs.nil | refine Subs.cons rfl ?_)
    ·
      rintro i wr ⟨hi1, hi⟩
      have hle := hi.le
      refine CW.seq fun kK15 kh15 => ?_
      refine CW.seq fun kK16 kh16 => ?_
      refine CW.region fun kR17 kr17 => ?_  -- region 6
      refine WL.ev (Ev.move rfl) rfl ?_
      refine WL.ev (Ev.move rfl) rfl ?_
      refine WL.ev (Ev.len rfl) rfl ?_
      refine WL.ev (Ev.lss rfl rfl) rfl ?_
      refine WL.nil (kr17 _ _ _ ?_)
      refine kh16 _ _ _ ?_
      refine CW.cond rfl (fun hc2 => ?_) (fun hc2 => ?_)  -- if 19
      ·
        simp only [decide_eq_true_eq, decide_eq_false_iff_not, Decidable.not_not, Bool.and_eq_true, Bool.or_eq_true, Bool.not_eq_true', ne_eq, Int.not_lt, Int.not_le] at hc2
        refine CW.skip ?_
        refine kh15 _ _ _ ?_
        refine CW.seq fun kK18 kh18 => ?_
        refine CW.block ?_
        refine CW.seq fun kK19 kh19 => ?_
        obtain ⟨p, hp⟩ : ∃ p, l[i]? = some p := ⟨l[i]'(by omega), by simp⟩
        obtain ⟨hcells, hcap⟩ : (∀ j x, (flatE l)[j]? = some x → wr.cell? ⟨gg, j, none⟩ = some x) ∧ True := by
          rcases own_cases hi.own with ⟨_, hl0, _⟩ | ⟨g2, cap', hvv, _, _, hc⟩
          · exfalso; omega
          · injection hvv with hv1; injection hv1 with hv1; injection hv1 with hv1; subst hv1; exact ⟨hc, trivial⟩
        obtain ⟨f1, f2⟩ := flatE_get l _ p hp
        have k5b : wr.cell? ⟨b5, 1, none⟩ = some (.int .i64 ((best (l.take i)).2 : Int)) := by rw [cell_at hi.bst]; rfl
        refine CW.regionS hmix (by kernel_rfl) fun kR20 kr20 => ?_  -- region 8
        refine WS.ev (Ev.move rfl) rfl ?_
        refine WS.ev (Ev.move rfl) rfl ?_
        refine WS.ev (Ev.indexAddr rfl rfl (by omega) (by omega)) rfl ?_
        rw [show 0 + (((i : Nat) : Int)).toNat * 2 = i * 2 by omega]
        refine WS.ev (Ev.fieldAddr rfl) rfl ?_
        refine WS.ev (Ev.load rfl rfl ((Chg.drew [] wr).cell (hcells _ _ f2) (by simp))) rfl ?_
        refine WS.ev (Ev.fieldAddr rfl) rfl ?_
        refine WS.ev (Ev.load rfl rfl ((Chg.drew [] wr).cell k5b (by simp))) rfl ?_
        refine WS.ev (Ev.gtr rfl rfl) rfl ?_
        refine WS.nil (kr20 _ _ ?_)
        refine kh19 _ _ _ ?_
        refine CW.cond rfl (fun hc3 => ?_) (fun hc3 => ?_)  -- if 29
        ·
          simp only [decide_eq_true_eq, decide_eq_false_iff_not, Decidable.not_not, Bool.and_eq_true, Bool.or_eq_true, Bool.not_eq_true', ne_eq, Int.not_lt, Int.not_le] at hc3
          have hbt : best (l.take (i + 1)) = p := by rw [best_take hp]; unfold bestF; rw [if_pos (by omega)]
          refine CW.region fun kR21 kr21 => ?_  -- region 9
          refine WL.ev (Ev.move rfl) rfl ?_
          refine WL.ev (Ev.move rfl) rfl ?_
          refine WL.ev (Ev.indexAddr rfl rfl (by omega) (by omega)) rfl ?_
          rw [show 0 + (((i : Nat) : Int)).toNat * 2 = i * 2 by omega]
          refine WL.ev (Ev.loadAgg (cs := [.float .f64 p.1, .int .i64 (p.2 : Int)]) rfl rfl rfl (fun q x hq => ?_)) rfl ?_
          · rw [add_addr]; exact row2 ((Chg.drew [] wr).cell (hcells _ _ f1) (by simp)) ((Chg.drew [] wr).cell (hcells _ _ f2) (by simp)) q x hq
          refine WL.storeAgg (vs := [.float .f64 p.1, .int .i64 (p.2 : Int)]) rfl rfl rfl (flatE_one [p]) ((Chg.drew [] wr).heap hi.bst (by simp)) (by simp) fun w7 u7 => ?_
          refine WL.nil (kr21 _ _ _ ?_)
          refine kh18 _ _ _ ?_
          refine CW.region fun kR22 kr22 => ?_  -- region 7
          refine WL.ev (Ev.move rfl) rfl ?_
          first | refine WL.ev (Ev.addIn rfl rfl (by omega)) rfl ?_ | refine WL.ev (Ev.add rfl rfl) rfl ?_
          refine WL.ev (Ev.assign rfl) rfl ?_
          refine WL.nil (kr22 _ _ _ ?_)
          refine ⟨rfl, i + 1, ?_, ?_, ?_⟩
          ·
            repeat (first | exact Subs.nil | refine Subs.cons rfl ?_)
          ·
            have hne : b2 ≠ b5 := by have := n5.ge; have := hce.size; have := n2.lt; omega
            refine ⟨by omega, by omega, u7.heap ((Chg.drew [] wr).heap hi.z (by simp)) hne, ?_, own_keep (own_keep hi.own (Chg.drew [] wr) (by simp)) u7.chg (fun x hx hm => by have := own_lt hoe hx; have := n5.is; simp only [List.mem_singleton] at hm; omega), (hi.chg.trans (Chg.drew _ wr)).step u7.chg (fun x hx => .inr (by simp only [List.mem_singleton] at hx; have := n5.ge; have := hce.size; have := n2.chg.size; omega))⟩
            rw [hbt]
            exact u7.at_
          ·
            show l.length - (i + 1) < l.length - i; omega
        ·
          simp only [decide_eq_true_eq, decide_eq_false_iff_not, Decidable.not_not, Bool.and_eq_true, Bool.or_eq_true, Bool.not_eq_true', ne_eq, Int.not_lt, Int.not_le] at hc3
          have hbt : best (l.take (i + 1)) = best (l.take i) := by rw [best_take hp]; unfold bestF; rw [if_neg (by omega)]
          refine CW.skip ?_
          refine kh18 _ _ _ ?_
          refine CW.region fun kR23 kr23 => ?_  -- region 7
          refine WL.ev (Ev.move rfl) rfl ?_
          first | refine WL.ev (Ev.addIn rfl rfl (by omega)) rfl ?_ | refine WL.ev (Ev.add rfl rfl) rfl ?_
          refine WL.ev (Ev.assign rfl) rfl ?_
          refine WL.nil (kr23 _ _ _ ?_)
          refine ⟨rfl, i + 1, ?_, ?_, ?_⟩
          ·
            repeat (first | exact Subs.nil | refine Subs.cons rfl ?_)
          ·
            refine ⟨by omega, by omega, (Chg.drew [] wr).heap hi.z (by simp), ?_, own_keep hi.own (Chg.drew [] wr) (by simp), hi.chg.trans (Chg.drew _ wr)⟩
            rw [hbt]
            exact (Chg.drew [] wr).heap hi.bst (by simp)
          ·
            show l.length - (i + 1) < l.length - i; omega
      ·
        simp only [decide_eq_true_eq, decide_eq_false_iff_not, Decidable.not_not, Bool.and_eq_true, Bool.or_eq_true, Bool.not_eq_true', ne_eq, Int.not_lt, Int.not_le] at hc2
        refine CW.exit ?_  -- exit 0
        refine kh12 _ _ _ ?_
        refine CW.seq fun kK24 kh24 => ?_
        obtain rfl : i = l.length := by omega
        have hbst := hi.bst
        rw [List.take_length] at hbst
        refine CW.region fun kR25 kr25 => ?_  -- region 10
        refine WL.ev (Ev.loadAgg (cs := [.float .f64 (best l).1, .int .i64 ((best l).2 : Int)]) rfl rfl rfl (fun q x hq => ?_)) rfl ?_
        · rw [add_addr]; exact row2 (by rw [cell_at hbst]; rfl) (by rw [cell_at hbst]; rfl) q x hq
        refine WL.storeAgg (vs := [.float .f64 (best l).1, .int .i64 ((best l).2 : Int)]) rfl rfl rfl (flatE_one [best l]) hi.z (by simp) fun w8 u8 => ?_
        refine WL.ev (Ev.assign rfl) rfl ?_
        refine WL.nil (kr25 _ _ _ ?_)
        refine kh24 _ _ _ ?_
        refine CW.ret ?_
        refine bodyA.retR2 rfl (RVal.cell rfl (loadVar_agg (cs := [.float .f64 (best l).1, .int .i64 ((best l).2 : Int)]) rfl rfl (fun q x hq => by rw [add_addr]; exact row2 (by rw [cell_at u8.at_]; rfl) (by rw [cell_at u8.at_]; rfl) q x hq))) (RVal.tmp rfl) ?_
        have hb2l := n2.ge
        have hbp : 0 < (best l).2 := best_pos h.pos (by omega)
        exact ⟨by rw [decide_eq_true hbp], hi.chg.step u8.chg (fun x hx => .inr (by simp only [List.mem_singleton] at hx; omega))⟩

end Go.Proofs.Ytjlmenmlpmfokaa
