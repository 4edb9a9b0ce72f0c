/- The statement on MeanTurned. -/
import Derived.Test.YtkkklaodligpdaaDoorTu5
import GoSem.Core.Float
import Derived.WalkKit
import Derived.ProofKit
import Derived.OpenShut
import Derived.ChangeOld
import Derived.Below
import Derived.Deep.Slices
import Derived.Laws.Cover2
import Derived.LaidMore
import Derived.SizedLaws
import Derived.SevenTiedAt
import Derived.Stop.Joined
import Derived.Test.YtkkklaodligpdaaDoorRows
import Derived.Test.YtkkklaodligpdaaDoorTie
import Derived.Test.YtkkklaodligpdaaDoorCards
/- Package mean: Mean. No condition. -/
namespace Go.Proofs.YtkkklaodligpdaaDoor
open Go Sx Wd
set_option linter.unusedVariables false
set_option linter.unusedSimpArgs false
set_option exponentiation.threshold 5000

def isF64 : Value → Bool
  | .float .f64 _ => true
  | _ => false
theorem NF.one {w : World} {v : Value} {l : List Nat} (h : NF w v l) : v.oneCell' = true := by
  obtain ⟨⟨a, c, rfl, _⟩, _⟩ := h; rfl
/-- A list stays where a block turns that holds no numbers. -/
theorem NF.keepBK {w w' : World} {v : Value} {l : List Nat} {b : Nat} {T : TypeId} {cs : List Value} (h : NF w v l) (hb : BK w b T cs) (hc : Chg [b] w w') (hn : ∀ c ∈ cs, isF64 c = false) : NF w' v l := by
  obtain ⟨⟨a, c, h1, h2, h3⟩, h4, h5⟩ := h
  refine ⟨⟨a, c, h1, h2, fun i u hu => ?_⟩, h4, h5⟩
  obtain ⟨ad, e, hcell⟩ := h3 i u hu
  refine ⟨ad, e, hc.cell hcell fun hm => ?_⟩
  simp only [List.mem_singleton] at hm
  have hx : isF64 u = true := by
    rw [List.getElem?_map] at hu
    cases hq : l[i]? with
    | none => rw [hq] at hu; cases hu
    | some y => rw [hq] at hu; cases hu; rfl
  have hlk := hcell
  cases had : ad.add i with
  | mk b' o' sp =>
    rw [had] at hlk hm
    simp only at hm
    subst hm
    cases sp with
    | none =>
      rw [cell_at hb] at hlk
      have := hn u (List.mem_of_getElem? hlk)
      rw [hx] at this; cases this
    | some q =>
      have : w.cell? ⟨b', o', some q⟩ = none := by simp [World.cell?, show w.heap[b']? = _ from hb]
      rw [this] at hlk; cases hlk
theorem QuotP.err {nn nd : Bool} {ln ld : Nat} {en ed mode : Int} {bits : Nat} {e : Int} (h : QuotP nn nd ln ld en ed mode bits e) : (if e = 0 then bits else 0) = bits := by
  rcases h with ⟨_, rfl, rfl⟩ | ⟨_, ⟨_, rfl, rfl⟩ | ⟨_, _, rfl, rfl⟩ | ⟨_, x, y, _, _, ⟨_, rfl, rfl⟩ | ⟨_, r, _, _, _, rfl⟩⟩⟩ <;> simp
theorem toldR.err {d : Dy} {n : Nat} {s : SP} {mode : Int} {bits : Nat} {e : Int} (h : toldR d n s mode bits e) : (if e = 0 then bits else 0) = bits := by
  rcases h with ⟨_, _, rfl⟩ | ⟨_, h⟩
  · simp
  · exact h.err
/-- What Mean answers. -/
def meanR (l : List Nat) (mode pn pi : Int) (bits : Nat) (e : Int) : Prop :=
  (¬ (0 ≤ mode ∧ mode ≤ 4) ∧ bits = 0 ∧ e = 1) ∨ ((0 ≤ mode ∧ mode ≤ 4) ∧
    ((siftE l pn pi ≠ 0 ∧ bits = 0 ∧ e = siftE l pn pi) ∨ (siftE l pn pi = 0 ∧
      ((verdP (cntP l) pn pi = some bits ∧ e = 0) ∨ (verdP (cntP l) pn pi = none ∧
        ((filP l = [] ∧ bits = 0 ∧ e = 3) ∨ (filP l ≠ [] ∧ toldR (sumD (sumI (filP l))) (filP l).length (cntP l) mode bits e)))))))
theorem filP_le (l : List Nat) : (filP l).length ≤ l.length := List.length_filter_le _ _
theorem siftE_len {l : List Nat} {pn pi : Int} (h : siftE l pn pi = 0) : l.length ≤ 65536 ∧ mayQ pn pi := by
  unfold siftE at h
  split at h
  · cases h
  · split at h
    · cases h
    · rename_i h1 h2; exact ⟨by omega, Classical.not_not.1 h1⟩
theorem sumD_ok {S : Int} (h1 : -((16384 * BB : Nat) : Int) < S) (h2 : S < (16384 * BB : Nat)) : (sumD S).ok := by
  have := sumD_eq h1 h2 (decide (S < 0))
  unfold sumD; rw [this]; exact formD_ok this

set_option maxRecDepth 8000 in
set_option maxHeartbeats 1000000 in
theorem Mean_spec (v : Value) (l : List Nat) (mode pn pi : Int) (w : World) (hv : NF w v l) (hg : GW w) : Ret Tryd.prog 7 [v, .int .i64 mode, .agg [.int .i64 pn, .int .i64 pi].toArray] w fun u w' => (∃ bits e, u = .tuple [.float .f64 bits, .int .i64 e].toArray ∧ meanR l mode pn pi bits e) ∧ Chg [] w w' := by
  have hch : Chg [] w w := Chg.refl _ _
  have hv0 := hv
  have hg0 := hg
  have hov := hv.one
  refine Ret.enterD 12 hasF12 Tryd.func7 rfl rfl ?_
  simp only [args0, Nat.zero_add, Nat.reduceAdd]
  refine CW.seq fun kK1 kh1 => ?_
  refine CW.region fun kR2 kr2 => ?_  -- region 0
  refine WL.boxB rfl rfl rfl fun b5 wm5 hb5 hcm5 hge5 => ?_
  have hgehch5 := Nat.le_trans hch.size hge5
  have hch := hch.trans (Chg.any hcm5)
  refine WL.allocB (l := [.float .f64 0]) rfl rfl fun b6 wm6 hb6 hcm6 hge6 => ?_
  have hgehch6 := Nat.le_trans hch.size hge6
  have hch := hch.trans (Chg.any hcm6)
  have hneb56 : b5 ≠ b6 := by have := hb5.lt; omega
  have hb5 := hb5.keep0 hcm6
  refine WL.allocB (l := [.int .i64 0]) rfl rfl fun b7 wm7 hb7 hcm7 hge7 => ?_
  have hgehch7 := Nat.le_trans hch.size hge7
  have hch := hch.trans (Chg.any hcm7)
  have hneb57 : b5 ≠ b7 := by have := hb5.lt; omega
  have hb5 := hb5.keep0 hcm7
  have hneb67 : b6 ≠ b7 := by have := hb6.lt; omega
  have hb6 := hb6.keep0 hcm7
  refine WL.nil (kr2 _ _ _ ?_)
  refine kh1 _ _ _ ?_
  refine CW.seq fun kK3 kh3 => ?_
  refine CW.region fun kR4 kr4 => ?_  -- region 1
  refine WL.defer rfl ?_
  refine WL.nil (kr4 _ _ _ ?_)
  refine kh3 _ _ _ ?_
  refine CW.seq fun kK5 kh5 => ?_
  refine CW.seq fun kK6 kh6 => ?_
  refine CW.region fun kR7 kr7 => ?_  -- region 2
  refine WL.ev (Ev.move rfl) rfl ?_
  refine WL.call hasF13 rfl rfl (right_spec mode _) fun v w1 h' => ?_
  obtain ⟨rfl, rfl⟩ := h'
  refine WL.ev (Ev.not rfl) rfl ?_
  refine WL.nil (kr7 _ _ _ ?_)
  refine kh6 _ _ _ ?_
  refine CW.cond rfl (fun hc1 => ?_) (fun hc1 => ?_)  -- if 14
  ·
    try simp only [decide_eq_true_eq, decide_eq_false_iff_not, Decidable.not_not, Bool.and_eq_true, Bool.or_eq_true, Bool.not_eq_true', Bool.not_eq_false', ne_eq, Int.not_lt, Int.not_le] at hc1
    have hmode : ¬ (0 ≤ mode ∧ mode ≤ 4) := by simpa using hc1
    refine CW.seq fun kK8 kh8 => ?_
    refine CW.region fun kR9 kr9 => ?_  -- region 3
    refine WL.storeC rfl rfl (by first | rfl | assumption | exact NU.one (by assumption)) hb6 (by simp) rfl fun ws2 hb6_ hcs2 => ?_
    try simp only [Sx.splice, List.set_cons_zero, List.set_cons_succ, Nat.zero_add] at hb6_
    have hch := hch.step hcs2 (fun y hy => by simp only [List.mem_singleton] at hy; subst hy; first | exact .inr (by first | assumption | omega) | exact .inl (by simp))
    have hb5 := hb5.keep hcs2 (by simp; omega)
    have hb7 := hb7.keep hcs2 (by simp; omega)
    have hb6 := hb6_
    refine WL.storeC rfl rfl (by first | rfl | assumption | exact NU.one (by assumption)) hb7 (by simp) rfl fun ws3 hb7_ hcs3 => ?_
    try simp only [Sx.splice, List.set_cons_zero, List.set_cons_succ, Nat.zero_add] at hb7_
    have hch := hch.step hcs3 (fun y hy => by simp only [List.mem_singleton] at hy; subst hy; first | exact .inr (by first | assumption | omega) | exact .inl (by simp))
    have hb5 := hb5.keep hcs3 (by simp; omega)
    have hb6 := hb6.keep hcs3 (by simp; omega)
    have hb7 := hb7_
    refine WL.nil (kr9 _ _ _ ?_)
    refine kh8 _ _ _ ?_
    refine CW.ret ?_
    refine clean_door rfl rfl rfl hb6 hb7 hneb67 fun w9 hc9 => ?_
    have hch := hch.step hc9 (fun y hy => by simp only [List.mem_singleton] at hy; subst hy; exact .inr (by omega))
    exact ⟨⟨_, _, rfl, .inl ⟨hmode, rfl, rfl⟩⟩, hch⟩
  ·
    try simp only [decide_eq_true_eq, decide_eq_false_iff_not, Decidable.not_not, Bool.and_eq_true, Bool.or_eq_true, Bool.not_eq_true', Bool.not_eq_false', ne_eq, Int.not_lt, Int.not_le] at hc1
    have hmode : 0 ≤ mode ∧ mode ≤ 4 := by simpa using hc1
    refine CW.skip ?_
    refine kh5 _ _ _ ?_
    refine CW.seq fun kK10 kh10 => ?_
    refine CW.region fun kR11 kr11 => ?_  -- region 4
    refine WL.ev (Ev.move rfl) rfl ?_
    refine WL.ev (Ev.loadA rfl rfl hb5 rfl) rfl ?_
    refine WL.call hasF14 rfl rfl (Sift_spec v l pn pi _ (hv0.keep0 hch)) fun v w2 h' => ?_
    have hsz18 := hch.size
    rcases h' with ⟨hse, rfl, hC18⟩ | ⟨hse, v2, hNf, rfl, hC18⟩
    ·
      have hch := hch.trans hC18
      have hb5 := hb5.keep0 hC18
      have hb6 := hb6.keep0 hC18
      have hb7 := hb7.keep0 hC18
      unfold SP.cells
      refine WL.ev (Ev.move rfl) rfl ?_
      refine WL.ev (Ev.extract rfl rfl) rfl ?_
      refine WL.ev (Ev.extract rfl rfl) rfl ?_
      refine WL.ev (Ev.extract rfl rfl) rfl ?_
      refine WL.allocB (l := [.int .i64 0, .int .i64 0, .int .i64 0, .int .i64 0, .int .i64 0, .int .i64 0]) rfl rfl fun b9 wm9 hb9 hcm9 hge9 => ?_
      have hgehch9 := Nat.le_trans hch.size hge9
      have hch := hch.trans (Chg.any hcm9)
      have hneb59 : b5 ≠ b9 := by have := hb5.lt; omega
      have hb5 := hb5.keep0 hcm9
      have hneb69 : b6 ≠ b9 := by have := hb6.lt; omega
      have hb6 := hb6.keep0 hcm9
      have hneb79 : b7 ≠ b9 := by have := hb7.lt; omega
      have hb7 := hb7.keep0 hcm9
      refine WL.ev (Ev.assign rfl) rfl ?_
      refine WL.storeB rfl rfl rfl (by intro v hv; simp only [List.mem_cons, List.not_mem_nil, or_false] at hv; rcases hv with rfl | rfl | rfl | rfl | rfl | rfl <;> first | rfl | assumption | exact NU.one (by assumption)) hb9 (by simp) rfl fun ws4 hb9_ hcs4 => ?_
      try simp only [Sx.splice, List.set_cons_zero, List.set_cons_succ, Nat.zero_add] at hb9_
      have hch := hch.step hcs4 (fun y hy => by simp only [List.mem_singleton] at hy; subst hy; first | exact .inr (by first | assumption | omega) | exact .inl (by simp))
      have hb5 := hb5.keep hcs4 (by simp; omega)
      have hb6 := hb6.keep hcs4 (by simp; omega)
      have hb7 := hb7.keep hcs4 (by simp; omega)
      have hb9 := hb9_
      refine WL.storeC rfl rfl (by first | rfl | assumption | exact NU.one (by assumption)) hb7 (by simp) rfl fun ws5 hb7_ hcs5 => ?_
      try simp only [Sx.splice, List.set_cons_zero, List.set_cons_succ, Nat.zero_add] at hb7_
      have hch := hch.step hcs5 (fun y hy => by simp only [List.mem_singleton] at hy; subst hy; first | exact .inr (by first | assumption | omega) | exact .inl (by simp))
      have hb5 := hb5.keep hcs5 (by simp; omega)
      have hb6 := hb6.keep hcs5 (by simp; omega)
      have hb9 := hb9.keep hcs5 (by simp; omega)
      have hb7 := hb7_
      refine WL.nil (kr11 _ _ _ ?_)
      refine kh10 _ _ _ ?_
      refine CW.seq fun kK12 kh12 => ?_
      refine CW.seq fun kK13 kh13 => ?_
      refine CW.region fun kR14 kr14 => ?_  -- region 5
      refine WL.ev (Ev.load rfl rfl (hb7.at_ rfl)) rfl ?_
      refine WL.ev (Ev.neq rfl rfl) rfl ?_
      refine WL.nil (kr14 _ _ _ ?_)
      refine kh13 _ _ _ ?_
      refine CW.cond rfl (fun hc2 => ?_) (fun hc2 => ?_)  -- if 23
      ·
        try simp only [decide_eq_true_eq, decide_eq_false_iff_not, Decidable.not_not, Bool.and_eq_true, Bool.or_eq_true, Bool.not_eq_true', Bool.not_eq_false', ne_eq, Int.not_lt, Int.not_le] at hc2
        refine CW.seq fun kK15 kh15 => ?_
        refine CW.region fun kR16 kr16 => ?_  -- region 6
        refine WL.ev (Ev.load rfl rfl (hb7.at_ rfl)) rfl ?_
        refine WL.storeC rfl rfl (by first | rfl | assumption | exact NU.one (by assumption)) hb6 (by simp) rfl fun ws6 hb6_ hcs6 => ?_
        try simp only [Sx.splice, List.set_cons_zero, List.set_cons_succ, Nat.zero_add] at hb6_
        have hch := hch.step hcs6 (fun y hy => by simp only [List.mem_singleton] at hy; subst hy; first | exact .inr (by first | assumption | omega) | exact .inl (by simp))
        have hb5 := hb5.keep hcs6 (by simp; omega)
        have hb7 := hb7.keep hcs6 (by simp; omega)
        have hb9 := hb9.keep hcs6 (by simp; omega)
        have hb6 := hb6_
        refine WL.storeC rfl rfl (by first | rfl | assumption | exact NU.one (by assumption)) hb7 (by simp) rfl fun ws7 hb7_ hcs7 => ?_
        try simp only [Sx.splice, List.set_cons_zero, List.set_cons_succ, Nat.zero_add] at hb7_
        have hch := hch.step hcs7 (fun y hy => by simp only [List.mem_singleton] at hy; subst hy; first | exact .inr (by first | assumption | omega) | exact .inl (by simp))
        have hb5 := hb5.keep hcs7 (by simp; omega)
        have hb6 := hb6.keep hcs7 (by simp; omega)
        have hb9 := hb9.keep hcs7 (by simp; omega)
        have hb7 := hb7_
        refine WL.nil (kr16 _ _ _ ?_)
        refine kh15 _ _ _ ?_
        refine CW.ret ?_
        refine clean_door rfl rfl rfl hb6 hb7 hneb67 fun w9 hc9 => ?_
        have hch := hch.step hc9 (fun y hy => by simp only [List.mem_singleton] at hy; subst hy; exact .inr (by omega))
        refine ⟨⟨_, _, rfl, .inr ⟨hmode, .inl ⟨hse, ?_, rfl⟩⟩⟩, hch⟩
        simp
      ·
        try simp only [decide_eq_true_eq, decide_eq_false_iff_not, Decidable.not_not, Bool.and_eq_true, Bool.or_eq_true, Bool.not_eq_true', Bool.not_eq_false', ne_eq, Int.not_lt, Int.not_le] at hc2
        exact absurd hc2 hse
    ·
      have hch := hch.trans hC18
      have hb5 := hb5.keep0 hC18
      have hb6 := hb6.keep0 hC18
      have hb7 := hb7.keep0 hC18
      unfold SP.cells
      obtain ⟨hl65, hmay⟩ := siftE_len hse
      have hfl := filP_le l
      have hof := hNf.one
      refine WL.ev (Ev.move rfl) rfl ?_
      refine WL.ev (Ev.extract rfl rfl) rfl ?_
      refine WL.ev (Ev.extract rfl rfl) rfl ?_
      refine WL.ev (Ev.extract rfl rfl) rfl ?_
      refine WL.allocB (l := [.int .i64 0, .int .i64 0, .int .i64 0, .int .i64 0, .int .i64 0, .int .i64 0]) rfl rfl fun b9 wm9 hb9 hcm9 hge9 => ?_
      have hgehch9 := Nat.le_trans hch.size hge9
      have hch := hch.trans (Chg.any hcm9)
      have hNf := hNf.keep0 hcm9
      have hneb59 : b5 ≠ b9 := by have := hb5.lt; omega
      have hb5 := hb5.keep0 hcm9
      have hneb69 : b6 ≠ b9 := by have := hb6.lt; omega
      have hb6 := hb6.keep0 hcm9
      have hneb79 : b7 ≠ b9 := by have := hb7.lt; omega
      have hb7 := hb7.keep0 hcm9
      refine WL.ev (Ev.assign rfl) rfl ?_
      refine WL.storeB rfl rfl rfl (by intro v hv; simp only [List.mem_cons, List.not_mem_nil, or_false] at hv; rcases hv with rfl | rfl | rfl | rfl | rfl | rfl <;> first | rfl | assumption | exact NU.one (by assumption)) hb9 (by simp) rfl fun ws8 hb9_ hcs8 => ?_
      try simp only [Sx.splice, List.set_cons_zero, List.set_cons_succ, Nat.zero_add] at hb9_
      have hch := hch.step hcs8 (fun y hy => by simp only [List.mem_singleton] at hy; subst hy; first | exact .inr (by first | assumption | omega) | exact .inl (by simp))
      have hb5 := hb5.keep hcs8 (by simp; omega)
      have hb6 := hb6.keep hcs8 (by simp; omega)
      have hb7 := hb7.keep hcs8 (by simp; omega)
      have hNf := hNf.keepBK hb9 hcs8 (by intro v hv; simp only [List.mem_cons, List.not_mem_nil, or_false] at hv; rcases hv with rfl | rfl | rfl | rfl | rfl | rfl <;> first | rfl | exact NU.notU (by assumption))
      have hb9 := hb9_
      refine WL.storeC rfl rfl (by first | rfl | assumption | exact NU.one (by assumption)) hb7 (by simp) rfl fun ws9 hb7_ hcs9 => ?_
      try simp only [Sx.splice, List.set_cons_zero, List.set_cons_succ, Nat.zero_add] at hb7_
      have hch := hch.step hcs9 (fun y hy => by simp only [List.mem_singleton] at hy; subst hy; first | exact .inr (by first | assumption | omega) | exact .inl (by simp))
      have hb5 := hb5.keep hcs9 (by simp; omega)
      have hb6 := hb6.keep hcs9 (by simp; omega)
      have hb9 := hb9.keep hcs9 (by simp; omega)
      have hNf := hNf.keepBK hb7 hcs9 (by intro v hv; simp only [List.mem_cons, List.not_mem_nil, or_false] at hv; rcases hv with rfl <;> first | rfl | exact NU.notU (by assumption))
      have hb7 := hb7_
      refine WL.nil (kr11 _ _ _ ?_)
      refine kh10 _ _ _ ?_
      refine CW.seq fun kK17 kh17 => ?_
      refine CW.seq fun kK18 kh18 => ?_
      refine CW.region fun kR19 kr19 => ?_  -- region 5
      refine WL.ev (Ev.load rfl rfl (hb7.at_ rfl)) rfl ?_
      refine WL.ev (Ev.neq rfl rfl) rfl ?_
      refine WL.nil (kr19 _ _ _ ?_)
      refine kh18 _ _ _ ?_
      refine CW.condF rfl ?_
      refine CW.skip ?_
      refine kh17 _ _ _ ?_
      refine CW.seq fun kK20 kh20 => ?_
      refine CW.seq fun kK21 kh21 => ?_
      refine CW.region fun kR22 kr22 => ?_  -- region 7
      refine WL.ev (Ev.loadA rfl rfl hb9 rfl) rfl ?_
      refine WL.ev (Ev.loadA rfl rfl hb5 rfl) rfl ?_
      refine WL.call hasF15 rfl rfl (Verdict_spec (cntP l) pn pi _ ((cnt_le l).mono (by omega))) fun v w3 h' => ?_
      obtain ⟨rfl, hC28⟩ := h'
      have hch := hch.trans (Chg.any hC28)
      have hb5 := hb5.keep0 hC28
      have hb6 := hb6.keep0 hC28
      have hb7 := hb7.keep0 hC28
      have hb9 := hb9.keep0 hC28
      have hNf := hNf.keep0 hC28
      refine WL.ev (Ev.move rfl) rfl ?_
      refine WL.ev (Ev.extract rfl rfl) rfl ?_
      refine WL.ev (Ev.extract rfl rfl) rfl ?_
      refine WL.ev (Ev.assign rfl) rfl ?_
      refine WL.ev (Ev.assign rfl) rfl ?_
      refine WL.nil (kr22 _ _ _ ?_)
      refine kh21 _ _ _ ?_
      refine CW.seq fun kK23 kh23 => ?_
      refine CW.region fun kR24 kr24 => ?_  -- region 8
      refine WL.ev (Ev.move rfl) rfl ?_
      refine WL.nil (kr24 _ _ _ ?_)
      refine kh23 _ _ _ ?_
      refine CW.cond rfl (fun hc3 => ?_) (fun hc3 => ?_)  -- if 31
      ·
        try simp only [decide_eq_true_eq, decide_eq_false_iff_not, Decidable.not_not, Bool.and_eq_true, Bool.or_eq_true, Bool.not_eq_true', Bool.not_eq_false', ne_eq, Int.not_lt, Int.not_le] at hc3
        obtain ⟨vb, hvb⟩ := Option.isSome_iff_exists.1 hc3
        refine CW.seq fun kK25 kh25 => ?_
        refine CW.region fun kR26 kr26 => ?_  -- region 9
        refine WL.ev (Ev.move rfl) rfl ?_
        refine WL.storeC rfl rfl (by first | rfl | assumption | exact NU.one (by assumption)) hb6 (by simp) rfl fun ws10 hb6_ hcs10 => ?_
        try simp only [Sx.splice, List.set_cons_zero, List.set_cons_succ, Nat.zero_add] at hb6_
        have hch := hch.step hcs10 (fun y hy => by simp only [List.mem_singleton] at hy; subst hy; first | exact .inr (by first | assumption | omega) | exact .inl (by simp))
        have hb5 := hb5.keep hcs10 (by simp; omega)
        have hb7 := hb7.keep hcs10 (by simp; omega)
        have hb9 := hb9.keep hcs10 (by simp; omega)
        have hb6 := hb6_
        refine WL.storeC rfl rfl (by first | rfl | assumption | exact NU.one (by assumption)) hb7 (by simp) rfl fun ws11 hb7_ hcs11 => ?_
        try simp only [Sx.splice, List.set_cons_zero, List.set_cons_succ, Nat.zero_add] at hb7_
        have hch := hch.step hcs11 (fun y hy => by simp only [List.mem_singleton] at hy; subst hy; first | exact .inr (by first | assumption | omega) | exact .inl (by simp))
        have hb5 := hb5.keep hcs11 (by simp; omega)
        have hb6 := hb6.keep hcs11 (by simp; omega)
        have hb9 := hb9.keep hcs11 (by simp; omega)
        have hb7 := hb7_
        refine WL.nil (kr26 _ _ _ ?_)
        refine kh25 _ _ _ ?_
        refine CW.ret ?_
        refine clean_door rfl rfl rfl hb6 hb7 hneb67 fun w9 hc9 => ?_
        have hch := hch.step hc9 (fun y hy => by simp only [List.mem_singleton] at hy; subst hy; exact .inr (by omega))
        refine ⟨⟨_, _, rfl, .inr ⟨hmode, .inr ⟨hse, .inl ⟨?_, rfl⟩⟩⟩⟩, hch⟩
        rw [hvb]; rfl
      ·
        try simp only [decide_eq_true_eq, decide_eq_false_iff_not, Decidable.not_not, Bool.and_eq_true, Bool.or_eq_true, Bool.not_eq_true', Bool.not_eq_false', ne_eq, Int.not_lt, Int.not_le] at hc3
        have hvn : verdP (cntP l) pn pi = none := by cases q : verdP (cntP l) pn pi with | none => rfl | some z => rw [q] at hc3; cases hc3
        refine CW.skip ?_
        refine kh20 _ _ _ ?_
        refine CW.seq fun kK27 kh27 => ?_
        refine CW.seq fun kK28 kh28 => ?_
        refine CW.region fun kR29 kr29 => ?_  -- region 10
        refine WL.ev (Ev.move rfl) rfl ?_
        obtain ⟨ap, cp, rfl, hcapp, hrp⟩ := hNf.ex
        refine WL.ev (Ev.len rfl) rfl ?_
        refine WL.ev (Ev.eql rfl rfl) rfl ?_
        refine WL.nil (kr29 _ _ _ ?_)
        refine kh28 _ _ _ ?_
        refine CW.cond rfl (fun hc4 => ?_) (fun hc4 => ?_)  -- if 35
        ·
          try simp only [decide_eq_true_eq, decide_eq_false_iff_not, Decidable.not_not, Bool.and_eq_true, Bool.or_eq_true, Bool.not_eq_true', Bool.not_eq_false', ne_eq, Int.not_lt, Int.not_le] at hc4
          have hnil : filP l = [] := List.length_eq_zero_iff.1 (by omega)
          refine CW.seq fun kK30 kh30 => ?_
          refine CW.region fun kR31 kr31 => ?_  -- region 11
          refine WL.storeC rfl rfl (by first | rfl | assumption | exact NU.one (by assumption)) hb6 (by simp) rfl fun ws12 hb6_ hcs12 => ?_
          try simp only [Sx.splice, List.set_cons_zero, List.set_cons_succ, Nat.zero_add] at hb6_
          have hch := hch.step hcs12 (fun y hy => by simp only [List.mem_singleton] at hy; subst hy; first | exact .inr (by first | assumption | omega) | exact .inl (by simp))
          have hb5 := hb5.keep hcs12 (by simp; omega)
          have hb7 := hb7.keep hcs12 (by simp; omega)
          have hb9 := hb9.keep hcs12 (by simp; omega)
          have hb6 := hb6_
          refine WL.storeC rfl rfl (by first | rfl | assumption | exact NU.one (by assumption)) hb7 (by simp) rfl fun ws13 hb7_ hcs13 => ?_
          try simp only [Sx.splice, List.set_cons_zero, List.set_cons_succ, Nat.zero_add] at hb7_
          have hch := hch.step hcs13 (fun y hy => by simp only [List.mem_singleton] at hy; subst hy; first | exact .inr (by first | assumption | omega) | exact .inl (by simp))
          have hb5 := hb5.keep hcs13 (by simp; omega)
          have hb6 := hb6.keep hcs13 (by simp; omega)
          have hb9 := hb9.keep hcs13 (by simp; omega)
          have hb7 := hb7_
          refine WL.nil (kr31 _ _ _ ?_)
          refine kh30 _ _ _ ?_
          refine CW.ret ?_
          refine clean_door rfl rfl rfl hb6 hb7 hneb67 fun w9 hc9 => ?_
          have hch := hch.step hc9 (fun y hy => by simp only [List.mem_singleton] at hy; subst hy; exact .inr (by omega))
          exact ⟨⟨_, _, rfl, .inr ⟨hmode, .inr ⟨hse, .inr ⟨hvn, .inl ⟨hnil, rfl, rfl⟩⟩⟩⟩⟩, hch⟩
        ·
          try simp only [decide_eq_true_eq, decide_eq_false_iff_not, Decidable.not_not, Bool.and_eq_true, Bool.or_eq_true, Bool.not_eq_true', Bool.not_eq_false', ne_eq, Int.not_lt, Int.not_le] at hc4
          have hnn : filP l ≠ [] := fun e => by rw [e] at hc4; exact hc4 rfl
          have hin := sumI_in (l := filP l) (by omega)
          have hok := sumD_ok hin.1 hin.2
          refine CW.skip ?_
          refine kh27 _ _ _ ?_
          refine CW.seq fun kK32 kh32 => ?_
          refine CW.regionKC 10 12 rfl hmix fun kR33 kr33 hS hdr => ?_  -- region 12
          have hch := hch.trans (Chg.any hdr)
          have hb5 := hb5.keep0 hdr
          have hb6 := hb6.keep0 hdr
          have hb7 := hb7.keep0 hdr
          have hb9 := hb9.keep0 hdr
          have hNf := hNf.keep0 hdr
          have hch_r := hch
          have hb5_r := hb5
          have hb6_r := hb6
          have hb7_r := hb7
          have hb9_r := hb9
          refine WK.take 0 rfl (by kernel_rfl) (by kernel_rfl) (by kernel_rfl) (by kernel_rfl) (by kernel_rfl) (by kernel_rfl) hS (fun w' hw' => Ev.move rfl) rfl ?_
          refine WK.take 3 rfl (by kernel_rfl) (by kernel_rfl) (by kernel_rfl) (by kernel_rfl) (by kernel_rfl) (by kernel_rfl) hS (fun w' hw' => Ev.move rfl) rfl ?_
          refine WK.take 4 rfl (by kernel_rfl) (by kernel_rfl) (by kernel_rfl) (by kernel_rfl) (by kernel_rfl) (by kernel_rfl) hS (fun w' hw' => Ev.len rfl) rfl ?_
          refine WK.take 5 rfl (by kernel_rfl) (by kernel_rfl) (by kernel_rfl) (by kernel_rfl) (by kernel_rfl) (by kernel_rfl) hS (fun w' hw' => Ev.loadA rfl rfl (hb9_r.keep0 hw') rfl) rfl ?_
          refine WK.take 6 rfl (by kernel_rfl) (by kernel_rfl) (by kernel_rfl) (by kernel_rfl) (by kernel_rfl) (by kernel_rfl) hS (fun w' hw' => Ev.move rfl) rfl ?_
          refine WK.oneCall 1 rfl (by kernel_rfl) hasF17 rfl rfl (all_spec _ (filP l) _ hNf (by omega)) fun v w4 h' => ?_
          obtain ⟨⟨ba, C, sa, rfl, hBa, hRa, hsa⟩, hC37⟩ := h'
          have hch := hch.trans (Chg.any hC37)
          have hb5 := hb5.keep0 hC37
          have hb6 := hb6.keep0 hC37
          have hb7 := hb7.keep0 hC37
          have hb9 := hb9.keep0 hC37
          have hNf := hNf.keep0 hC37
          have hS := hS.trans hC37
          refine ⟨hS, ?_⟩
          refine WK.oneCall 2 rfl (by kernel_rfl) hasF18 rfl rfl (Exact_spec ba C (sumI (filP l)) _ hBa hRa (hg0.keep0 hch) hin.1 hin.2) fun v w5 h' => ?_
          obtain ⟨⟨rx, rfl, hNx⟩, hC38⟩ := h'
          have hch := hch.trans (Chg.any hC38)
          have hb5 := hb5.keep0 hC38
          have hb6 := hb6.keep0 hC38
          have hb7 := hb7.keep0 hC38
          have hb9 := hb9.keep0 hC38
          have hNf := hNf.keep0 hC38
          have hS := hS.trans hC38
          refine ⟨hS, ?_⟩
          refine WK.oneCall 7 rfl (by kernel_rfl) hasF16 rfl rfl (told_spec (sumD (sumI (filP l))) rx (filP l).length (cntP l) mode _ hNx hok (by omega) ((cnt_le l).mono (by omega)) (hg0.keep0 hch)) fun v w6 h' => ?_
          obtain ⟨⟨bits, e, rfl, hT⟩, hC43⟩ := h'
          have hch := hch.trans (Chg.any hC43)
          have hb5 := hb5.keep0 hC43
          have hb6 := hb6.keep0 hC43
          have hb7 := hb7.keep0 hC43
          have hb9 := hb9.keep0 hC43
          have hNf := hNf.keep0 hC43
          have hNx := hNx.keep0 hC43
          have hS := hS.trans hC43
          refine ⟨hS, ?_⟩
          refine WK.take 8 rfl (by kernel_rfl) (by kernel_rfl) (by kernel_rfl) (by kernel_rfl) (by kernel_rfl) (by kernel_rfl) hS (fun w' hw' => Ev.extract rfl rfl) rfl ?_
          refine WK.take 9 rfl (by kernel_rfl) (by kernel_rfl) (by kernel_rfl) (by kernel_rfl) (by kernel_rfl) (by kernel_rfl) hS (fun w' hw' => Ev.extract rfl rfl) rfl ?_
          refine WK.storeC 10 rfl (by kernel_rfl) (by kernel_rfl) rfl rfl (by first | rfl | assumption | exact NU.one (by assumption)) hb6 (by simp) rfl fun ws14 hb6_ hcs14 => ?_
          try simp only [Sx.splice, List.set_cons_zero, List.set_cons_succ, Nat.zero_add] at hb6_
          have hch := hch.step hcs14 (fun y hy => by simp only [List.mem_singleton] at hy; subst hy; first | exact .inr (by first | assumption | omega) | exact .inl (by simp))
          have hb5 := hb5.keep hcs14 (by simp; omega)
          have hb7 := hb7.keep hcs14 (by simp; omega)
          have hb9 := hb9.keep hcs14 (by simp; omega)
          have hb6 := hb6_
          refine WK.storeC 11 rfl (by kernel_rfl) (by kernel_rfl) rfl rfl (by first | rfl | assumption | exact NU.one (by assumption)) hb7 (by simp) rfl fun ws15 hb7_ hcs15 => ?_
          try simp only [Sx.splice, List.set_cons_zero, List.set_cons_succ, Nat.zero_add] at hb7_
          have hch := hch.step hcs15 (fun y hy => by simp only [List.mem_singleton] at hy; subst hy; first | exact .inr (by first | assumption | omega) | exact .inl (by simp))
          have hb5 := hb5.keep hcs15 (by simp; omega)
          have hb6 := hb6.keep hcs15 (by simp; omega)
          have hb9 := hb9.keep hcs15 (by simp; omega)
          have hb7 := hb7_
          refine WK.done (by kernel_rfl) (kr33 _ _ _ ?_)
          refine kh32 _ _ _ ?_
          refine CW.ret ?_
          refine clean_door rfl rfl rfl hb6 hb7 hneb67 fun w9 hc9 => ?_
          have hch := hch.step hc9 (fun y hy => by simp only [List.mem_singleton] at hy; subst hy; exact .inr (by omega))
          refine ⟨⟨_, _, rfl, .inr ⟨hmode, .inr ⟨hse, .inr ⟨hvn, .inr ⟨hnn, ?_⟩⟩⟩⟩⟩, hch⟩
          rw [hT.err]; exact hT

end Go.Proofs.YtkkklaodligpdaaDoor

/- Numbers of 64 bits as plain numbers: which are NaN, their order. No condition. -/
namespace Go.Proofs.YtkkklaodligpdaaDoor.Fl
set_option linter.unusedSimpArgs false
set_option linter.unusedVariables false
open Go

def isNaN (b : Nat) : Bool := decide (9218868437227405312 < b % 9223372036854775808)
def canon (b : Nat) : Nat := if isNaN b then 9221120237041090560 else b
/-- The program's key. -/
def key (b : Nat) : Int := if isNaN b then 9223372036854775807 else if 9223372036854775808 ≤ b then -1 - ((b : Int) - 9223372036854775808) else b
/-- The reference's place. -/
def place (b : Nat) : Int := if 9223372036854775808 ≤ canon b then -1 - ((canon b : Int) - 9223372036854775808) else canon b
theorem double_sign : Ieee.double.signWeight = 9223372036854775808 := by decide
theorem double_inf : Ieee.double.infRung = 9218868437227405312 := by decide
theorem double_bin : Ieee.double.binade = 4503599627370496 := by decide

theorem cmp_self (x : Int) : compare x x = .eq := by simp
theorem cmpN_self (x : Nat) : compare x x = .eq := by simp
theorem order_self (b : Nat) : (FloatKind.f64.format.order b b != some .eq) = isNaN b := by
  show ((Ieee.double.read b).order (Ieee.double.read b) != some .eq) = isNaN b
  unfold Ieee.Format.read isNaN
  simp only [double_sign, double_inf, double_bin]
  split
  · rename_i h
    have h2 : decide (9218868437227405312 < b % 9223372036854775808) = false := by simp; omega
    rw [h2]
    simp [Ieee.Datum.order, cmp_self]
  · split
    · rename_i h h'
      have h2 : decide (9218868437227405312 < b % 9223372036854775808) = false := by simp; omega
      rw [h2]
      simp [Ieee.Datum.order, cmp_self]
    · split
      · rename_i h h' h3
        have h2 : decide (9218868437227405312 < b % 9223372036854775808) = false := by simp; omega
        rw [h2]
        simp [Ieee.Datum.order, cmpN_self]
      · rename_i h h' h3
        have h2 : decide (9218868437227405312 < b % 9223372036854775808) = true := by simp; omega
        rw [h2]
        simp [Ieee.Datum.order]
theorem order_self_eq (b : Nat) : (FloatKind.f64.format.order b b == some .eq) = !isNaN b := by
  rw [← order_self b]; simp [bne]

theorem signed_zero (k : Nat) : Ieee.signed false 0 k = 0 := by simp [Ieee.signed]
theorem signed_eq (s : Bool) (m k : Nat) : Ieee.signed s m k = 0 ↔ m = 0 := by
  have hp : 0 < 2 ^ k := Nat.two_pow_pos k
  have hz : m * 2 ^ k = 0 ↔ m = 0 := by
    constructor
    · intro h; rcases Nat.mul_eq_zero.1 h with h | h
      · exact h
      · omega
    · intro h; simp [h]
  unfold Ieee.signed
  rw [Nat.shiftLeft_eq]
  split <;> omega
theorem cmp_eq (x y : Int) : (some (compare x y) == some Ordering.eq) = decide (x = y) := by
  rw [Bool.eq_iff_iff]; simp
theorem order_num (s : Bool) (m : Nat) (i : Int) (j : Int) : (Ieee.Datum.order (.number s m i) (.number false 0 j) == some .eq) = decide (m = 0) := by
  unfold Ieee.Datum.order
  simp only [signed_zero]
  rw [cmp_eq, Bool.eq_iff_iff]
  simp [signed_eq]
theorem read_zero : Ieee.double.read 0 = .number false 0 Ieee.double.leastPlace := by decide
theorem order_zero (b : Nat) : (FloatKind.f64.format.order b 0 == some .eq) = decide (b % 9223372036854775808 = 0) := by
  show ((Ieee.double.read b).order (Ieee.double.read 0) == some .eq) = _
  rw [read_zero]
  unfold Ieee.Format.read
  simp only [double_sign, double_inf, double_bin]
  split
  · rw [order_num]
  · split
    · rename_i h h'
      rw [order_num, Bool.eq_iff_iff]
      simp; omega
    · split
      · rename_i h h' h3
        have h2 : decide (b % 9223372036854775808 = 0) = false := by simp; omega
        rw [h2]
        simp only [Ieee.Datum.order]
        split <;> rfl
      · rename_i h h' h3
        have h2 : decide (b % 9223372036854775808 = 0) = false := by simp; omega
        rw [h2]
        rfl
end Go.Proofs.YtkkklaodligpdaaDoor.Fl

/- Numbers as the machine's: a number less itself; which are finite. No condition. -/
namespace Go.Proofs.YtkkklaodligpdaaDoor
open Go Sx Wd
set_option linter.unusedVariables false
set_option linter.unusedSimpArgs false

theorem cls_le2 (x : Nat) : (splitP x).cls ≤ 2 ↔ x % 9223372036854775808 < 9218868437227405312 := by
  have e : x % 9223372036854775808 < 9218868437227405312 ↔ x / 4503599627370496 % 2048 ≠ 2047 := by omega
  rw [e]
  unfold splitP
  split
  · rename_i h; simp; exact h.1
  · split
    · rename_i h1 h; simp; exact h
    · split
      · rename_i h2 h1 h; simp; exact h1
      · split
        · rename_i h2 h1 h; simp; exact h2
        · rename_i h2 h1 h; simp; exact h2
theorem signed_opp (s : Bool) (m k : Nat) : Ieee.signed s m k + Ieee.signed (!s) m k = 0 := by
  unfold Ieee.signed
  cases s <;> simp <;> omega
theorem sub_self_fin {b : Nat} (h : b % 9223372036854775808 < 9218868437227405312) : Ieee.double.sub b b = some 0 := by
  unfold Ieee.Format.sub Ieee.Format.read
  simp only [Fl.double_sign, Fl.double_inf, Fl.double_bin]
  have key : ∀ (s : Bool) (m : Nat) (i : Int), Option.map Ieee.double.write ((Ieee.Datum.number s m i).sum (Ieee.Datum.number s m i).opposite) = some 0 := by
    intro s m i
    unfold Ieee.Datum.opposite Ieee.Datum.sum
    simp only [Int.min_self, Int.sub_self, Int.toNat_zero, signed_opp, if_true, Int.natAbs_zero, Option.map_some]
    cases s <;> rfl
  split
  · exact key ..
  · exact key ..
theorem sub_self_not {b : Nat} (h : ¬ b % 9223372036854775808 < 9218868437227405312) : Ieee.double.sub b b = none := by
  unfold Ieee.Format.sub Ieee.Format.read
  simp only [Fl.double_sign, Fl.double_inf, Fl.double_bin]
  rw [if_neg (by omega), if_neg h]
  split
  · unfold Ieee.Datum.opposite Ieee.Datum.sum
    generalize (b / 9223372036854775808 % 2 == 1) = s
    cases s <;> rfl
  · rfl
/-- The bits that are drawn for a NaN are a NaN's. -/
theorem nan_form (x y t : Nat) : ∃ p q, p ≤ 1 ∧ q < 4503599627370495 ∧ (Question.nanBits .f64 x y).cut t = p * 9223372036854775808 + 9218868437227405312 + 1 + q :=
  ⟨t % 2, t / 2 % 4503599627370495, by omega, Nat.mod_lt _ (by decide), rfl⟩
theorem nan_cut (x y t : Nat) : Fl.isNaN ((Question.nanBits .f64 x y).cut t) = true := by
  obtain ⟨p, q, h1, h2, e⟩ := nan_form x y t
  rw [e]
  unfold Fl.isNaN
  simp only [decide_eq_true_eq]
  omega
theorem nan_lt (x y t : Nat) : (Question.nanBits .f64 x y).cut t < 18446744073709551616 := by
  obtain ⟨p, q, h1, h2, e⟩ := nan_form x y t
  rw [e]; omega
theorem order_nan {b : Nat} (h : Fl.isNaN b = true) : (FloatKind.f64.format.order b 0 == some .eq) = false := by
  rw [Fl.order_zero]
  unfold Fl.isNaN at h
  simp only [decide_eq_true_eq] at h
  simp; omega
section
variable {P : Program} {n : Nat} {D : List Deferred} {s : Sl} {w : World} {ops : Array Oper} {K : KK} {rest : List Oper} {ty : TypeId} {pos : String} {af : Array Edge} {d : Nat} {x y : Operand}
theorem ev_fsubSelf {t t' : TypeId} {b : Nat} (hx : opnd s x = some (.float .f64 b)) (hy : opnd s y = some (.float .f64 b)) :
    ∃ r w', Ev P s (.binOp .sub t x y t') ty w (.float .f64 r) w' ∧ Chg [] w w' ∧ r < 18446744073709551616 ∧ (FloatKind.f64.format.order r 0 == some .eq) = decide ((splitP b).cls ≤ 2) := by
  by_cases h : b % 9223372036854775808 < 9218868437227405312
  · refine ⟨0, w, run_bin hx hy (fun x y => eqGuard_float ..) ?_, Chg.refl _ _, by decide, ?_⟩
    · simp [binOp, Op.floatArith, show FloatKind.f64.format.sub b b = some 0 from sub_self_fin h]
    · rw [decide_eq_true ((cls_le2 b).2 h), Fl.order_zero]; decide
  · refine ⟨(Question.nanBits .f64 b b).cut (w.tape w.drawn (.nanBits .f64 b b)), w.drew, fun ρ d' pos af g hρ => ?_, Chg.drew _ _, nan_lt _ _ _, ?_⟩
    · have e1 := hρ x _ hx
      have e2 := hρ y _ hy
      simp [execOp, e1, e2, eqGuard_float, binOp, Op.floatArith, show FloatKind.f64.format.sub b b = none from sub_self_not h, Question.forced]
      try rfl
    · rw [order_nan (nan_cut _ _ _), decide_eq_false (fun hh => h ((cls_le2 b).1 hh))]
theorem WL.fsubSelf {t t' : TypeId} {b : Nat} (hx : opnd s x = some (.float .f64 b)) (hy : opnd s y = some (.float .f64 b)) (hd : Nat.blt d n = true)
    (k : ∀ r w', Chg [] w w' → r < 18446744073709551616 → (FloatKind.f64.format.order r 0 == some .eq) = decide ((splitP b).cls ≤ 2) → WL P ops K rest n D ((d, .float .f64 r) :: s) w') : WL P ops K (⟨some d, .binOp .sub t x y t', ty, pos, af, none⟩ :: rest) n D s w := by
  obtain ⟨r, w', he, hc, h1, h2⟩ := ev_fsubSelf (P := P) (ty := ty) (w := w) (t := t) (t' := t') hx hy
  exact WL.ev he hd (k r w' hc h1 h2)
end
end Go.Proofs.YtkkklaodligpdaaDoor

/- Package mean: finite. No condition. -/
namespace Go.Proofs.YtkkklaodligpdaaDoor
open Go Sx Wd
set_option linter.unusedVariables false
set_option linter.unusedSimpArgs false
set_option exponentiation.threshold 5000

def finL (l : List Nat) : Prop := ∀ x ∈ l, (splitP x).cls ≤ 2
instance (l : List Nat) : Decidable (finL l) := by unfold finL; exact inferInstance
theorem finL_step {l : List Nat} {i : Nat} (h : i < l.length) : finL (l.take (i + 1)) ↔ finL (l.take i) ∧ (splitP (l.getD i 0)).cls ≤ 2 := by
  rw [take_step h]
  unfold finL
  constructor
  · intro hh; exact ⟨fun x hx => hh x (List.mem_append_left _ hx), hh _ (by simp)⟩
  · rintro ⟨h1, h2⟩ x hx
    rcases List.mem_append.1 hx with q | q
    · exact h1 x q
    · simp at q; rw [q]; exact h2
theorem finL_take {l : List Nat} {i : Nat} (h : finL l) : finL (l.take i) := fun x hx => h x (List.mem_of_mem_take hx)

theorem finite1_spec (x : Nat) (w : World) : Ret Tryd.prog 41 [.float .f64 x] w fun u w' => u = .bool (!decide ((splitP x).cls ≤ 2)) ∧ Chg [] w w' := by
  have hch : Chg [] w w := Chg.refl _ _
  refine Ret.enter Tryd.func41 rfl rfl ?_
  simp only [args0, Nat.zero_add, Nat.reduceAdd]
  refine CW.seq fun kK1 kh1 => ?_
  refine CW.region fun kR2 kr2 => ?_  -- region 0
  refine WL.ev (Ev.assign rfl) rfl ?_
  refine WL.nil (kr2 _ _ _ ?_)
  refine kh1 _ _ _ ?_
  refine CW.seq fun kK3 kh3 => ?_
  refine CW.region fun kR4 kr4 => ?_  -- region 1
  refine WL.ev (Ev.move rfl) rfl ?_
  refine WL.ev (Ev.move rfl) rfl ?_
  refine WL.fsubSelf rfl rfl rfl fun r5 w5 hc5 hr5 ho5 => ?_
  have hch := hch.trans hc5
  refine WL.ev (Ev.fneq rfl rfl) rfl ?_
  refine WL.ev (Ev.assign rfl) rfl ?_
  refine WL.nil (kr4 _ _ _ ?_)
  refine kh3 _ _ _ ?_
  refine CW.ret ?_
  refine bodyA.ret1 rfl rfl ?_
  refine ⟨?_, hch⟩
  rw [← ho5]; rfl

structure KIx (l : List Nat) (w0 : World) (i : Nat) (w : World) : Prop where
  hi : i ≤ l.length
  f : finL (l.take i)
  ch : Chg [] w0 w

set_option maxRecDepth 8000 in
theorem IndexFunc_spec (v : Value) (l : List Nat) (w : World) (hv : NF w v l) : Ret Tryd.prog 55 [v, .func (.func 41) #[] #[]] w fun u w' => (∃ r : Int, u = .int .i64 r ∧ (0 ≤ r ↔ ¬ finL l)) ∧ Chg [] w w' := by
  obtain ⟨⟨al, cl, rfl, hcap, hrl⟩, hWl, hll⟩ := hv
  have hch : Chg [] w w := Chg.refl _ _
  refine Ret.enter Tryd.func55 rfl rfl ?_
  simp only [args0, Nat.zero_add, Nat.reduceAdd]
  refine CW.seq fun kK1 kh1 => ?_
  refine CW.region fun kR2 kr2 => ?_  -- region 0
  refine WL.ev (Ev.assign rfl) rfl ?_
  refine WL.nil (kr2 _ _ _ ?_)
  refine kh1 _ _ _ ?_
  refine CW.seq fun kK3 kh3 => ?_
  refine CW.seq fun kK4 kh4 => ?_
  refine CW.region fun kR5 kr5 => ?_  -- region 1
  refine WL.ev (Ev.move rfl) rfl ?_
  refine WL.ev (Ev.len rfl) rfl ?_
  refine WL.ev (Ev.move rfl) rfl ?_
  refine WL.nil (kr5 _ _ _ ?_)
  refine kh4 _ _ _ ?_
  refine CW.block ?_
  refine CW.loop (S := fun i : Nat => [(0, .slice al l.length cl), (1, .func (.func 41) #[] #[]), (7, .int .i64 (l.length : Int)), (8, .int .i64 (i : Int))]) (Inv := KIx l w) (mu := fun i => l.length - i) (0) ?_ ?_ ?_
  ·
    exact ⟨Nat.zero_le _, fun x hx => (by simp at hx), hch⟩
  ·
    repeat (first | exact Subs.nil | refine Subs.cons rfl ?_ | refine Subs.consI rfl (by omega) ?_)
  ·
    rintro i wr ⟨hi, hf, hch⟩
    refine CW.seq fun kK6 kh6 => ?_
    refine CW.region fun kR7 kr7 => ?_  -- region 2
    refine WL.ev (Ev.lss rfl rfl) rfl ?_
    refine WL.nil (kr7 _ _ _ ?_)
    refine kh6 _ _ _ ?_
    refine CW.seq fun kK8 kh8 => ?_
    refine CW.cond rfl (fun hc1 => ?_) (fun hc1 => ?_)  -- if 9
    ·
      try simp only [decide_eq_true_eq, decide_eq_false_iff_not, Decidable.not_not, Bool.and_eq_true, Bool.or_eq_true, Bool.not_eq_true', Bool.not_eq_false', ne_eq, Int.not_lt, Int.not_le] at hc1
      have hst := finL_step (l := l) (i := i) (by omega)
      refine CW.skip ?_
      refine kh8 _ _ _ ?_
      refine CW.seq fun kK9 kh9 => ?_
      refine CW.block ?_
      refine CW.seq fun kK10 kh10 => ?_
      refine CW.region fun kR11 kr11 => ?_  -- region 3
      refine WL.ev (Ev.move rfl) rfl ?_
      refine WL.ev (Ev.assign rfl) rfl ?_
      refine WL.nil (kr11 _ _ _ ?_)
      refine kh10 _ _ _ ?_
      refine CW.seq fun kK12 kh12 => ?_
      refine CW.region fun kR13 kr13 => ?_  -- region 4
      refine WL.ev (Ev.move rfl) rfl ?_
      refine WL.ev (Ev.move rfl) rfl ?_
      refine WL.ev (Ev.move rfl) rfl ?_
      refine WL.ev (Ev.ixR (i) rfl rfl (hrl.keep0 hch) (by omega) (by omega) (by simp; omega)) rfl ?_
      refine WL.ev (Ev.load rfl rfl ((hrl.keep0 hch).f64 (by first | omega | (simp; omega)))) rfl ?_
      refine WL.callV (cap := []) hasF41 rfl rfl rfl (by rw [List.append_nil]; exact finite1_spec (l.getD i 0) _) fun v16 w16 h16 => ?_
      obtain ⟨rfl, hC16⟩ := h16
      have hch := hch.trans hC16
      refine WL.nil (kr13 _ _ _ ?_)
      refine kh12 _ _ _ ?_
      refine CW.cond rfl (fun hc2 => ?_) (fun hc2 => ?_)  -- if 16
      ·
        try simp only [decide_eq_true_eq, decide_eq_false_iff_not, Decidable.not_not, Bool.and_eq_true, Bool.or_eq_true, Bool.not_eq_true', Bool.not_eq_false', ne_eq, Int.not_lt, Int.not_le] at hc2
        have hfx : ¬ (splitP (l.getD i 0)).cls ≤ 2 := by simpa using hc2
        refine CW.seq fun kK14 kh14 => ?_
        refine CW.region fun kR15 kr15 => ?_  -- region 5
        refine WL.ev (Ev.move rfl) rfl ?_
        refine WL.ev (Ev.assign rfl) rfl ?_
        refine WL.nil (kr15 _ _ _ ?_)
        refine kh14 _ _ _ ?_
        refine CW.ret ?_
        refine bodyA.ret1 rfl rfl ?_
        refine ⟨⟨_, rfl, ⟨fun _ h => hfx (hst.1 (finL_take h)).2, fun _ => by omega⟩⟩, hch⟩
      ·
        try simp only [decide_eq_true_eq, decide_eq_false_iff_not, Decidable.not_not, Bool.and_eq_true, Bool.or_eq_true, Bool.not_eq_true', Bool.not_eq_false', ne_eq, Int.not_lt, Int.not_le] at hc2
        have hfx : (splitP (l.getD i 0)).cls ≤ 2 := by simpa using hc2
        refine CW.skip ?_
        refine kh9 _ _ _ ?_
        refine CW.region fun kR16 kr16 => ?_  -- region 6
        first | refine WL.ev (Ev.addIn rfl rfl (by omega)) rfl ?_ | refine WL.ev (Ev.add rfl rfl) rfl ?_
        refine WL.ev (Ev.move rfl) rfl ?_
        refine WL.nil (kr16 _ _ _ ?_)
        refine ⟨rfl, i + 1, ?_, ?_, ?_⟩
        ·
          repeat (first | exact Subs.nil | refine Subs.cons rfl ?_ | refine Subs.consI rfl (by omega) ?_)
        ·
          exact ⟨by omega, hst.2 ⟨hf, hfx⟩, hch⟩
        ·
          omega
    ·
      try simp only [decide_eq_true_eq, decide_eq_false_iff_not, Decidable.not_not, Bool.and_eq_true, Bool.or_eq_true, Bool.not_eq_true', Bool.not_eq_false', ne_eq, Int.not_lt, Int.not_le] at hc1
      have hiX : i = l.length := by omega
      subst hiX
      rw [List.take_length] at hf
      refine CW.exit ?_  -- exit 0
      refine kh3 _ _ _ ?_
      refine CW.seq fun kK17 kh17 => ?_
      refine CW.region fun kR18 kr18 => ?_  -- region 7
      refine WL.ev (Ev.assign rfl) rfl ?_
      refine WL.nil (kr18 _ _ _ ?_)
      refine kh17 _ _ _ ?_
      refine CW.ret ?_
      refine bodyA.ret1 rfl rfl ?_
      exact ⟨⟨_, rfl, ⟨fun h => absurd h (by decide), fun h => absurd hf h⟩⟩, hch⟩

theorem ContainsFunc_spec (v : Value) (l : List Nat) (w : World) (hv : NF w v l) : Ret Tryd.prog 40 [v, .func (.func 41) #[] #[]] w fun u w' => u = .bool (!decide (finL l)) ∧ Chg [] w w' := by
  have hch : Chg [] w w := Chg.refl _ _
  refine Ret.enter Tryd.func40 rfl rfl ?_
  simp only [args0, Nat.zero_add, Nat.reduceAdd]
  refine CW.seq fun kK1 kh1 => ?_
  refine CW.region fun kR2 kr2 => ?_  -- region 0
  refine WL.ev (Ev.assign rfl) rfl ?_
  refine WL.nil (kr2 _ _ _ ?_)
  refine kh1 _ _ _ ?_
  refine CW.seq fun kK3 kh3 => ?_
  refine CW.region fun kR4 kr4 => ?_  -- region 1
  refine WL.ev (Ev.move rfl) rfl ?_
  refine WL.ev (Ev.move rfl) rfl ?_
  refine WL.call hasF55 rfl rfl (IndexFunc_spec v l _ hv) fun v w1 h' => ?_
  obtain ⟨⟨r, rfl, hr⟩, hC7⟩ := h'
  have hch := hch.trans (Chg.any hC7)
  refine WL.ev (Ev.geq rfl rfl) rfl ?_
  refine WL.ev (Ev.assign rfl) rfl ?_
  refine WL.nil (kr4 _ _ _ ?_)
  refine kh3 _ _ _ ?_
  refine CW.ret ?_
  refine bodyA.ret1 rfl rfl ?_
  refine ⟨?_, hch⟩
  rw [← decide_not]
  exact congrArg Value.bool (decide_eq_decide.2 hr)

theorem mfinite_spec (v : Value) (l : List Nat) (w : World) (hv : NF w v l) : Ret Tryd.prog 20 [v] w fun u w' => u = .bool (decide (finL l)) ∧ Chg [] w w' := by
  have hch : Chg [] w w := Chg.refl _ _
  refine Ret.enter Tryd.func20 rfl rfl ?_
  simp only [args0, Nat.zero_add, Nat.reduceAdd]
  refine CW.seq fun kK1 kh1 => ?_
  refine CW.region fun kR2 kr2 => ?_  -- region 0
  refine WL.ev (Ev.assign rfl) rfl ?_
  refine WL.nil (kr2 _ _ _ ?_)
  refine kh1 _ _ _ ?_
  refine CW.seq fun kK3 kh3 => ?_
  refine CW.region fun kR4 kr4 => ?_  -- region 1
  refine WL.ev (Ev.move rfl) rfl ?_
  refine WL.call hasF40 rfl rfl (ContainsFunc_spec v l _ hv) fun v w1 h' => ?_
  obtain ⟨rfl, hC4⟩ := h'
  have hch := hch.trans (Chg.any hC4)
  refine WL.ev (Ev.not rfl) rfl ?_
  refine WL.ev (Ev.assign rfl) rfl ?_
  refine WL.nil (kr4 _ _ _ ?_)
  refine kh3 _ _ _ ?_
  refine CW.ret ?_
  refine bodyA.ret1 rfl rfl ?_
  refine ⟨?_, hch⟩
  rw [Bool.not_not]

end Go.Proofs.YtkkklaodligpdaaDoor

/- Package mean: Weighted. No condition. -/
namespace Go.Proofs.YtkkklaodligpdaaDoor
open Go Sx Wd
set_option linter.unusedVariables false
set_option linter.unusedSimpArgs false
set_option exponentiation.threshold 5000

theorem sumD_zero : sumD 0 = Dy.zero := rfl
theorem sumD_form {S : Int} (h1 : -((16384 * BB : Nat) : Int) < S) (h2 : S < (16384 * BB : Nat)) (h0 : S ≠ 0) : sumD S = ⟨decide (S < 0), S.natAbs / 2 ^ tz S.natAbs, -2148 + tz S.natAbs⟩ := by
  unfold sumD
  rw [sumD_eq h1 h2, if_neg h0]; rfl
theorem sumD_m0 {S : Int} (h1 : -((16384 * BB : Nat) : Int) < S) (h2 : S < (16384 * BB : Nat)) : (sumD S).m = 0 ↔ S = 0 := by
  constructor
  · intro h
    apply Classical.byContradiction
    intro h0
    rw [sumD_form h1 h2 h0] at h
    have := (tz_spec (n := S.natAbs) (by omega)).1
    simp only at h
    rw [h] at this; cases this
  · intro h; rw [h]; rfl
theorem sumD_sg {S : Int} (h1 : -((16384 * BB : Nat) : Int) < S) (h2 : S < (16384 * BB : Nat)) : sgD (sumD S).neg (sumD S).m = if S < 0 then -1 else if S = 0 then 0 else 1 := by
  by_cases h0 : S = 0
  · subst h0; rfl
  · have hm : (sumD S).m ≠ 0 := fun e => h0 ((sumD_m0 h1 h2).1 e)
    unfold sgD
    rw [if_neg hm, sumD_form h1 h2 h0]
    by_cases h : S < 0
    · simp [h]
    · simp [h, h0]
theorem sumD_neg {S : Int} (h1 : -((16384 * BB : Nat) : Int) < S) (h2 : S < (16384 * BB : Nat)) : negD (formD (!(sumD S).neg) (sumD S).m (sumD S).e) = sumD (-S) := by
  by_cases h0 : S = 0
  · subst h0; rfl
  · have hok := sumD_ok h1 h2
    have h3 := formD_self hok
    have hm : (sumD S).m ≠ 0 := fun e => h0 ((sumD_m0 h1 h2).1 e)
    rw [sumD_form (S := -S) (by omega) (by omega) (by omega), Int.natAbs_neg]
    unfold formD at h3 ⊢
    rw [if_neg hm] at h3 ⊢
    unfold negD
    split at h3
    · cases h3
    · rename_i hq
      rw [if_neg hq]
      have h4 := Option.some.inj h3
      have h5 := congrArg Dy.m h4
      have h6 := congrArg Dy.e h4
      simp only at h5 h6
      show (⟨!(sumD S).neg, (sumD S).m / 2 ^ tz (sumD S).m, (sumD S).e + tz (sumD S).m⟩ : Dy) = _
      rw [h5, h6, sumD_form h1 h2 h0]
      have : (!decide (S < 0)) = decide (-S < 0) := by
        by_cases q : S < 0
        · rw [decide_eq_true q, decide_eq_false (by omega)]; rfl
        · rw [decide_eq_false q, decide_eq_true (by omega)]; rfl
      rw [this]
def QuoD (N W : Int) (mode : Int) (bits : Nat) (e : Int) : Prop := QuotP (sumD N).neg (sumD W).neg (sumD N).m (sumD W).m (sumD N).e (sumD W).e mode bits e
/-- What Weighted answers. -/
def wtR (l k : List Nat) (mode : Int) (bits : Nat) (e : Int) : Prop :=
  (¬ (0 ≤ mode ∧ mode ≤ 4) ∧ bits = 0 ∧ e = 1) ∨ ((0 ≤ mode ∧ mode ≤ 4) ∧
    (((65536 < l.length ∨ 65536 < k.length) ∧ bits = 0 ∧ e = 2) ∨ (¬ (65536 < l.length ∨ 65536 < k.length) ∧
      ((l.length ≠ k.length ∧ bits = 0 ∧ e = 4) ∨ (l.length = k.length ∧
        ((¬ (finL l ∧ finL k) ∧ bits = 0 ∧ e = 30) ∨ ((finL l ∧ finL k) ∧
          ((l = [] ∧ bits = 0 ∧ e = 3) ∨ (l ≠ [] ∧ QuoD (if sumI k < 0 then -sumP l k else sumP l k) (if sumI k < 0 then -sumI k else sumI k) mode bits e)))))))))
structure KWt (l k : List Nat) (b b6 b7 : Nat) (w0 : World) (g : Nat × List Nat × SP) (w : World) : Prop where
  hi : g.1 ≤ l.length
  hB : TB w b 77 g.2.1 g.2.2.cells
  hr : Rep g.2.1 (sumP (l.take g.1) (k.take g.1))
  hs : g.2.2.le g.1
  h6 : BK w b6 24 [.float .f64 0]
  h7 : BK w b7 25 [.int .i64 0]
  ch : Chg [] w0 w

set_option maxRecDepth 8000 in
set_option maxHeartbeats 2000000 in
theorem Weighted_spec (v1 v2 : Value) (l k : List Nat) (mode : Int) (w : World) (hv : NF w v1 l) (hk : NF w v2 k) (hg : GW w) : Ret Tryd.prog 10 [v1, v2, .int .i64 mode] w fun u w' => (∃ bits e, u = .tuple [.float .f64 bits, .int .i64 e].toArray ∧ wtR l k mode bits e) ∧ Chg [] w w' := by
  have hch : Chg [] w w := Chg.refl _ _
  have hv0 := hv
  have hk0 := hk
  obtain ⟨⟨al, cl, rfl, hcapl, hrl⟩, hWl, hll⟩ := hv
  obtain ⟨⟨ak, ck, rfl, hcapk, hrk⟩, hWk, hlk⟩ := hk
  have hg0 := hg
  refine Ret.enterD 12 hasF12 Tryd.func10 rfl rfl ?_
  simp only [args0, Nat.zero_add, Nat.reduceAdd]
  refine CW.seq fun kK1 kh1 => ?_
  refine CW.region fun kR2 kr2 => ?_  -- region 0
  refine WL.allocB (l := [.float .f64 0]) rfl rfl fun b6 wm6 hb6 hcm6 hge6 => ?_
  have hgehch6 := Nat.le_trans hch.size hge6
  have hch := hch.trans (Chg.any hcm6)
  refine WL.allocB (l := [.int .i64 0]) rfl rfl fun b7 wm7 hb7 hcm7 hge7 => ?_
  have hgehch7 := Nat.le_trans hch.size hge7
  have hch := hch.trans (Chg.any hcm7)
  have hneb67 : b6 ≠ b7 := by have := hb6.lt; omega
  have hb6 := hb6.keep0 hcm7
  refine WL.nil (kr2 _ _ _ ?_)
  refine kh1 _ _ _ ?_
  refine CW.seq fun kK3 kh3 => ?_
  refine CW.region fun kR4 kr4 => ?_  -- region 1
  refine WL.defer rfl ?_
  refine WL.nil (kr4 _ _ _ ?_)
  refine kh3 _ _ _ ?_
  refine CW.seq fun kK5 kh5 => ?_
  refine CW.block ?_
  refine CW.seq fun kK6 kh6 => ?_
  refine CW.region fun kR7 kr7 => ?_  -- region 2
  refine WL.ev (Ev.move rfl) rfl ?_
  refine WL.call hasF13 rfl rfl (right_spec mode _) fun v w1 h' => ?_
  obtain ⟨rfl, rfl⟩ := h'
  refine WL.ev (Ev.not rfl) rfl ?_
  refine WL.ev (Ev.assign rfl) rfl ?_
  refine WL.nil (kr7 _ _ _ ?_)
  refine kh6 _ _ _ ?_
  refine CW.cond rfl (fun hc1 => ?_) (fun hc1 => ?_)  -- if 11
  ·
    try simp only [decide_eq_true_eq, decide_eq_false_iff_not, Decidable.not_not, Bool.and_eq_true, Bool.or_eq_true, Bool.not_eq_true', Bool.not_eq_false', ne_eq, Int.not_lt, Int.not_le] at hc1
    have hmode : ¬ (0 ≤ mode ∧ mode ≤ 4) := by simpa using hc1
    refine CW.seq fun kK8 kh8 => ?_
    refine CW.region fun kR9 kr9 => ?_  -- region 3
    refine WL.storeC rfl rfl (by first | rfl | assumption | exact NU.one (by assumption)) hb6 (by simp) rfl fun ws16 hb6_ hcs16 => ?_
    try simp only [Sx.splice, List.set_cons_zero, List.set_cons_succ, Nat.zero_add] at hb6_
    have hch := hch.step hcs16 (fun y hy => by simp only [List.mem_singleton] at hy; subst hy; first | exact .inr (by first | assumption | omega) | exact .inl (by simp))
    have hb7 := hb7.keep hcs16 (by simp; omega)
    have hb6 := hb6_
    refine WL.storeC rfl rfl (by first | rfl | assumption | exact NU.one (by assumption)) hb7 (by simp) rfl fun ws17 hb7_ hcs17 => ?_
    try simp only [Sx.splice, List.set_cons_zero, List.set_cons_succ, Nat.zero_add] at hb7_
    have hch := hch.step hcs17 (fun y hy => by simp only [List.mem_singleton] at hy; subst hy; first | exact .inr (by first | assumption | omega) | exact .inl (by simp))
    have hb6 := hb6.keep hcs17 (by simp; omega)
    have hb7 := hb7_
    refine WL.nil (kr9 _ _ _ ?_)
    refine kh8 _ _ _ ?_
    refine CW.ret ?_
    refine clean_door rfl rfl rfl hb6 hb7 hneb67 fun w9 hc9 => ?_
    have hch := hch.step hc9 (fun y hy => by simp only [List.mem_singleton] at hy; subst hy; exact .inr (by omega))
    exact ⟨⟨_, _, rfl, .inl ⟨hmode, rfl, rfl⟩⟩, hch⟩
  ·
    try simp only [decide_eq_true_eq, decide_eq_false_iff_not, Decidable.not_not, Bool.and_eq_true, Bool.or_eq_true, Bool.not_eq_true', Bool.not_eq_false', ne_eq, Int.not_lt, Int.not_le] at hc1
    have hmode : 0 ≤ mode ∧ mode ≤ 4 := by simpa using hc1
    refine CW.seqM 15 (decide (65536 < l.length ∨ 65536 < k.length)) ?_ ?_
    ·
      refine CW.region fun kR10 kr10 => ?_  -- region 4
      refine WL.ev (Ev.move rfl) rfl ?_
      refine WL.ev (Ev.len rfl) rfl ?_
      refine WL.ev (Ev.gtr rfl rfl) rfl ?_
      refine WL.ev (Ev.move rfl) rfl ?_
      refine WL.boolCase (fun hg2 => ?_) (fun hg2 => ?_)
      ·
        try simp only [decide_eq_true_eq, decide_eq_false_iff_not, Decidable.not_not, Bool.and_eq_true, Bool.or_eq_true, Bool.not_eq_true', Bool.not_eq_false', ne_eq, Int.not_lt, Int.not_le] at hg2
        refine WL.pass rfl rfl rfl rfl rfl ?_
        refine WL.pass rfl rfl rfl rfl rfl ?_
        refine WL.pass rfl rfl rfl rfl rfl ?_
        refine WL.ev (Ev.pickT rfl rfl rfl) rfl ?_
        refine WL.ev (Ev.assign rfl) rfl ?_
        refine WL.nil (kr10 _ _ _ ?_)
        refine ⟨rfl, rfl, Subs.consB rfl ?_ ?_⟩
        ·
          first | (simp; omega) | (refine decide_eq_decide.2 ?_; omega)
        ·
          first | ((repeat (first | exact Subs.refl | refine Subs.drop1 (by rfl) ?_)); done) | ((repeat (first | exact Subs.nil | refine Subs.cons rfl ?_)); done)
      ·
        try simp only [decide_eq_true_eq, decide_eq_false_iff_not, Decidable.not_not, Bool.and_eq_true, Bool.or_eq_true, Bool.not_eq_true', Bool.not_eq_false', ne_eq, Int.not_lt, Int.not_le] at hg2
        refine WL.want rfl rfl rfl rfl ?_
        refine WL.ev (Ev.move rfl) rfl ?_
        refine WL.want rfl rfl rfl rfl ?_
        refine WL.ev (Ev.len rfl) rfl ?_
        refine WL.want rfl rfl rfl rfl ?_
        refine WL.ev (Ev.gtr rfl rfl) rfl ?_
        refine WL.ev (Ev.pickF rfl rfl rfl) rfl ?_
        refine WL.ev (Ev.assign rfl) rfl ?_
        refine WL.nil (kr10 _ _ _ ?_)
        refine ⟨rfl, rfl, Subs.consB rfl ?_ ?_⟩
        ·
          first | (simp; omega) | (refine decide_eq_decide.2 ?_; omega)
        ·
          first | ((repeat (first | exact Subs.refl | refine Subs.drop1 (by rfl) ?_)); done) | ((repeat (first | exact Subs.nil | refine Subs.cons rfl ?_)); done)
    ·
      refine CW.cond rfl (fun hc3 => ?_) (fun hc3 => ?_)  -- if 15
      ·
        try simp only [decide_eq_true_eq, decide_eq_false_iff_not, Decidable.not_not, Bool.and_eq_true, Bool.or_eq_true, Bool.not_eq_true', Bool.not_eq_false', ne_eq, Int.not_lt, Int.not_le] at hc3
        have hlong : 65536 < l.length ∨ 65536 < k.length := hc3
        refine CW.seq fun kK11 kh11 => ?_
        refine CW.region fun kR12 kr12 => ?_  -- region 5
        refine WL.storeC rfl rfl (by first | rfl | assumption | exact NU.one (by assumption)) hb6 (by simp) rfl fun ws18 hb6_ hcs18 => ?_
        try simp only [Sx.splice, List.set_cons_zero, List.set_cons_succ, Nat.zero_add] at hb6_
        have hch := hch.step hcs18 (fun y hy => by simp only [List.mem_singleton] at hy; subst hy; first | exact .inr (by first | assumption | omega) | exact .inl (by simp))
        have hb7 := hb7.keep hcs18 (by simp; omega)
        have hb6 := hb6_
        refine WL.storeC rfl rfl (by first | rfl | assumption | exact NU.one (by assumption)) hb7 (by simp) rfl fun ws19 hb7_ hcs19 => ?_
        try simp only [Sx.splice, List.set_cons_zero, List.set_cons_succ, Nat.zero_add] at hb7_
        have hch := hch.step hcs19 (fun y hy => by simp only [List.mem_singleton] at hy; subst hy; first | exact .inr (by first | assumption | omega) | exact .inl (by simp))
        have hb6 := hb6.keep hcs19 (by simp; omega)
        have hb7 := hb7_
        refine WL.nil (kr12 _ _ _ ?_)
        refine kh11 _ _ _ ?_
        refine CW.ret ?_
        refine clean_door rfl rfl rfl hb6 hb7 hneb67 fun w9 hc9 => ?_
        have hch := hch.step hc9 (fun y hy => by simp only [List.mem_singleton] at hy; subst hy; exact .inr (by omega))
        exact ⟨⟨_, _, rfl, .inr ⟨hmode, .inl ⟨hlong, rfl, rfl⟩⟩⟩, hch⟩
      ·
        try simp only [decide_eq_true_eq, decide_eq_false_iff_not, Decidable.not_not, Bool.and_eq_true, Bool.or_eq_true, Bool.not_eq_true', Bool.not_eq_false', ne_eq, Int.not_lt, Int.not_le] at hc3
        have hlong : ¬ (65536 < l.length ∨ 65536 < k.length) := by have := hc3; omega
        refine CW.seq fun kK13 kh13 => ?_
        refine CW.region fun kR14 kr14 => ?_  -- region 6
        refine WL.ev (Ev.move rfl) rfl ?_
        refine WL.ev (Ev.len rfl) rfl ?_
        refine WL.ev (Ev.move rfl) rfl ?_
        refine WL.ev (Ev.len rfl) rfl ?_
        refine WL.ev (Ev.neq rfl rfl) rfl ?_
        refine WL.ev (Ev.assign rfl) rfl ?_
        refine WL.nil (kr14 _ _ _ ?_)
        refine kh13 _ _ _ ?_
        refine CW.cond rfl (fun hc4 => ?_) (fun hc4 => ?_)  -- if 24
        ·
          try simp only [decide_eq_true_eq, decide_eq_false_iff_not, Decidable.not_not, Bool.and_eq_true, Bool.or_eq_true, Bool.not_eq_true', Bool.not_eq_false', ne_eq, Int.not_lt, Int.not_le] at hc4
          have hlen : l.length ≠ k.length := by omega
          refine CW.seq fun kK15 kh15 => ?_
          refine CW.region fun kR16 kr16 => ?_  -- region 7
          refine WL.storeC rfl rfl (by first | rfl | assumption | exact NU.one (by assumption)) hb6 (by simp) rfl fun ws20 hb6_ hcs20 => ?_
          try simp only [Sx.splice, List.set_cons_zero, List.set_cons_succ, Nat.zero_add] at hb6_
          have hch := hch.step hcs20 (fun y hy => by simp only [List.mem_singleton] at hy; subst hy; first | exact .inr (by first | assumption | omega) | exact .inl (by simp))
          have hb7 := hb7.keep hcs20 (by simp; omega)
          have hb6 := hb6_
          refine WL.storeC rfl rfl (by first | rfl | assumption | exact NU.one (by assumption)) hb7 (by simp) rfl fun ws21 hb7_ hcs21 => ?_
          try simp only [Sx.splice, List.set_cons_zero, List.set_cons_succ, Nat.zero_add] at hb7_
          have hch := hch.step hcs21 (fun y hy => by simp only [List.mem_singleton] at hy; subst hy; first | exact .inr (by first | assumption | omega) | exact .inl (by simp))
          have hb6 := hb6.keep hcs21 (by simp; omega)
          have hb7 := hb7_
          refine WL.nil (kr16 _ _ _ ?_)
          refine kh15 _ _ _ ?_
          refine CW.ret ?_
          refine clean_door rfl rfl rfl hb6 hb7 hneb67 fun w9 hc9 => ?_
          have hch := hch.step hc9 (fun y hy => by simp only [List.mem_singleton] at hy; subst hy; exact .inr (by omega))
          exact ⟨⟨_, _, rfl, .inr ⟨hmode, .inr ⟨hlong, .inl ⟨hlen, rfl, rfl⟩⟩⟩⟩, hch⟩
        ·
          try simp only [decide_eq_true_eq, decide_eq_false_iff_not, Decidable.not_not, Bool.and_eq_true, Bool.or_eq_true, Bool.not_eq_true', Bool.not_eq_false', ne_eq, Int.not_lt, Int.not_le] at hc4
          have hlen : l.length = k.length := by omega
          refine CW.seq fun kK17 kh17 => ?_
          refine CW.region fun kR18 kr18 => ?_  -- region 8
          refine WL.ev (Ev.move rfl) rfl ?_
          refine WL.call hasF20 rfl rfl (mfinite_spec _ l _ (hv0.keep0 hch)) fun v w2 h' => ?_
          obtain ⟨rfl, hC32⟩ := h'
          have hch := hch.trans (Chg.any hC32)
          have hb6 := hb6.keep0 hC32
          have hb7 := hb7.keep0 hC32
          refine WL.ev (Ev.not rfl) rfl ?_
          refine WL.ev (Ev.move rfl) rfl ?_
          refine WL.boolCase (fun hg5 => ?_) (fun hg5 => ?_)
          ·
            try simp only [decide_eq_true_eq, decide_eq_false_iff_not, Decidable.not_not, Bool.and_eq_true, Bool.or_eq_true, Bool.not_eq_true', Bool.not_eq_false', ne_eq, Int.not_lt, Int.not_le] at hg5
            have hf1 : ¬ finL l := by simpa using hg5
            refine WL.pass rfl rfl rfl rfl rfl ?_
            refine WL.pass rfl rfl rfl rfl rfl ?_
            refine WL.pass rfl rfl rfl rfl rfl ?_
            refine WL.ev (Ev.pickT rfl rfl rfl) rfl ?_
            refine WL.ev (Ev.assign rfl) rfl ?_
            refine WL.nil (kr18 _ _ _ ?_)
            refine kh17 _ _ _ ?_
            refine CW.condT rfl ?_
            refine CW.seq fun kK19 kh19 => ?_
            refine CW.region fun kR20 kr20 => ?_  -- region 9
            refine WL.storeC rfl rfl (by first | rfl | assumption | exact NU.one (by assumption)) hb6 (by simp) rfl fun ws22 hb6_ hcs22 => ?_
            try simp only [Sx.splice, List.set_cons_zero, List.set_cons_succ, Nat.zero_add] at hb6_
            have hch := hch.step hcs22 (fun y hy => by simp only [List.mem_singleton] at hy; subst hy; first | exact .inr (by first | assumption | omega) | exact .inl (by simp))
            have hb7 := hb7.keep hcs22 (by simp; omega)
            have hb6 := hb6_
            refine WL.storeC rfl rfl (by first | rfl | assumption | exact NU.one (by assumption)) hb7 (by simp) rfl fun ws23 hb7_ hcs23 => ?_
            try simp only [Sx.splice, List.set_cons_zero, List.set_cons_succ, Nat.zero_add] at hb7_
            have hch := hch.step hcs23 (fun y hy => by simp only [List.mem_singleton] at hy; subst hy; first | exact .inr (by first | assumption | omega) | exact .inl (by simp))
            have hb6 := hb6.keep hcs23 (by simp; omega)
            have hb7 := hb7_
            refine WL.nil (kr20 _ _ _ ?_)
            refine kh19 _ _ _ ?_
            refine CW.ret ?_
            refine clean_door rfl rfl rfl hb6 hb7 hneb67 fun w9 hc9 => ?_
            have hch := hch.step hc9 (fun y hy => by simp only [List.mem_singleton] at hy; subst hy; exact .inr (by omega))
            exact ⟨⟨_, _, rfl, .inr ⟨hmode, .inr ⟨hlong, .inr ⟨hlen, .inl ⟨fun h => hf1 h.1, rfl, rfl⟩⟩⟩⟩⟩, hch⟩
          ·
            try simp only [decide_eq_true_eq, decide_eq_false_iff_not, Decidable.not_not, Bool.and_eq_true, Bool.or_eq_true, Bool.not_eq_true', Bool.not_eq_false', ne_eq, Int.not_lt, Int.not_le] at hg5
            have hf1 : finL l := by simpa using hg5
            refine WL.want rfl rfl rfl rfl ?_
            refine WL.ev (Ev.move rfl) rfl ?_
            refine WL.want rfl rfl rfl rfl ?_
            refine WL.call hasF20 rfl rfl (mfinite_spec _ k _ (hk0.keep0 hch)) fun v w3 h' => ?_
            obtain ⟨rfl, hC36⟩ := h'
            have hch := hch.trans (Chg.any hC36)
            have hb6 := hb6.keep0 hC36
            have hb7 := hb7.keep0 hC36
            refine WL.want rfl rfl rfl rfl ?_
            refine WL.ev (Ev.not rfl) rfl ?_
            refine WL.ev (Ev.pickF rfl rfl rfl) rfl ?_
            refine WL.ev (Ev.assign rfl) rfl ?_
            refine WL.nil (kr18 _ _ _ ?_)
            refine kh17 _ _ _ ?_
            refine CW.cond rfl (fun hc6 => ?_) (fun hc6 => ?_)  -- if 30
            ·
              try simp only [decide_eq_true_eq, decide_eq_false_iff_not, Decidable.not_not, Bool.and_eq_true, Bool.or_eq_true, Bool.not_eq_true', Bool.not_eq_false', ne_eq, Int.not_lt, Int.not_le] at hc6
              have hf2 : ¬ finL k := by simpa using hc6
              refine CW.seq fun kK21 kh21 => ?_
              refine CW.region fun kR22 kr22 => ?_  -- region 9
              refine WL.storeC rfl rfl (by first | rfl | assumption | exact NU.one (by assumption)) hb6 (by simp) rfl fun ws24 hb6_ hcs24 => ?_
              try simp only [Sx.splice, List.set_cons_zero, List.set_cons_succ, Nat.zero_add] at hb6_
              have hch := hch.step hcs24 (fun y hy => by simp only [List.mem_singleton] at hy; subst hy; first | exact .inr (by first | assumption | omega) | exact .inl (by simp))
              have hb7 := hb7.keep hcs24 (by simp; omega)
              have hb6 := hb6_
              refine WL.storeC rfl rfl (by first | rfl | assumption | exact NU.one (by assumption)) hb7 (by simp) rfl fun ws25 hb7_ hcs25 => ?_
              try simp only [Sx.splice, List.set_cons_zero, List.set_cons_succ, Nat.zero_add] at hb7_
              have hch := hch.step hcs25 (fun y hy => by simp only [List.mem_singleton] at hy; subst hy; first | exact .inr (by first | assumption | omega) | exact .inl (by simp))
              have hb6 := hb6.keep hcs25 (by simp; omega)
              have hb7 := hb7_
              refine WL.nil (kr22 _ _ _ ?_)
              refine kh21 _ _ _ ?_
              refine CW.ret ?_
              refine clean_door rfl rfl rfl hb6 hb7 hneb67 fun w9 hc9 => ?_
              have hch := hch.step hc9 (fun y hy => by simp only [List.mem_singleton] at hy; subst hy; exact .inr (by omega))
              exact ⟨⟨_, _, rfl, .inr ⟨hmode, .inr ⟨hlong, .inr ⟨hlen, .inl ⟨fun h => hf2 h.2, rfl, rfl⟩⟩⟩⟩⟩, hch⟩
            ·
              try simp only [decide_eq_true_eq, decide_eq_false_iff_not, Decidable.not_not, Bool.and_eq_true, Bool.or_eq_true, Bool.not_eq_true', Bool.not_eq_false', ne_eq, Int.not_lt, Int.not_le] at hc6
              have hf2 : finL k := by simpa using hc6
              have hfin : finL l ∧ finL k := ⟨hf1, hf2⟩
              refine CW.seq fun kK23 kh23 => ?_
              refine CW.region fun kR24 kr24 => ?_  -- region 10
              refine WL.ev (Ev.move rfl) rfl ?_
              refine WL.ev (Ev.len rfl) rfl ?_
              refine WL.ev (Ev.eql rfl rfl) rfl ?_
              refine WL.ev (Ev.assign rfl) rfl ?_
              refine WL.nil (kr24 _ _ _ ?_)
              refine kh23 _ _ _ ?_
              refine CW.cond rfl (fun hc7 => ?_) (fun hc7 => ?_)  -- if 39
              ·
                try simp only [decide_eq_true_eq, decide_eq_false_iff_not, Decidable.not_not, Bool.and_eq_true, Bool.or_eq_true, Bool.not_eq_true', Bool.not_eq_false', ne_eq, Int.not_lt, Int.not_le] at hc7
                have hnil : l = [] := List.length_eq_zero_iff.1 (by omega)
                refine CW.seq fun kK25 kh25 => ?_
                refine CW.region fun kR26 kr26 => ?_  -- region 11
                refine WL.storeC rfl rfl (by first | rfl | assumption | exact NU.one (by assumption)) hb6 (by simp) rfl fun ws26 hb6_ hcs26 => ?_
                try simp only [Sx.splice, List.set_cons_zero, List.set_cons_succ, Nat.zero_add] at hb6_
                have hch := hch.step hcs26 (fun y hy => by simp only [List.mem_singleton] at hy; subst hy; first | exact .inr (by first | assumption | omega) | exact .inl (by simp))
                have hb7 := hb7.keep hcs26 (by simp; omega)
                have hb6 := hb6_
                refine WL.storeC rfl rfl (by first | rfl | assumption | exact NU.one (by assumption)) hb7 (by simp) rfl fun ws27 hb7_ hcs27 => ?_
                try simp only [Sx.splice, List.set_cons_zero, List.set_cons_succ, Nat.zero_add] at hb7_
                have hch := hch.step hcs27 (fun y hy => by simp only [List.mem_singleton] at hy; subst hy; first | exact .inr (by first | assumption | omega) | exact .inl (by simp))
                have hb6 := hb6.keep hcs27 (by simp; omega)
                have hb7 := hb7_
                refine WL.nil (kr26 _ _ _ ?_)
                refine kh25 _ _ _ ?_
                refine CW.ret ?_
                refine clean_door rfl rfl rfl hb6 hb7 hneb67 fun w9 hc9 => ?_
                have hch := hch.step hc9 (fun y hy => by simp only [List.mem_singleton] at hy; subst hy; exact .inr (by omega))
                exact ⟨⟨_, _, rfl, .inr ⟨hmode, .inr ⟨hlong, .inr ⟨hlen, .inr ⟨hfin, .inl ⟨hnil, rfl, rfl⟩⟩⟩⟩⟩⟩, hch⟩
              ·
                try simp only [decide_eq_true_eq, decide_eq_false_iff_not, Decidable.not_not, Bool.and_eq_true, Bool.or_eq_true, Bool.not_eq_true', Bool.not_eq_false', ne_eq, Int.not_lt, Int.not_le] at hc7
                have hnn : l ≠ [] := fun e => by rw [e] at hc7; exact hc7 rfl
                have hinN := sumP_in hf1 hf2 (by omega)
                have hinW := sumI_in (l := k) (by omega)
                refine CW.skip ?_
                refine kh5 _ _ _ ?_
                refine CW.seq fun kK27 kh27 => ?_
                refine CW.region fun kR28 kr28 => ?_  -- region 12
                refine WL.call hasF21 rfl rfl (New_spec _) fun v w4 h' => ?_
                obtain ⟨b, rfl, hB6, hge6, hC43⟩ := h'
                have hbge : w.heap.size ≤ b := Nat.le_trans hch.size hge6
                have hnb6 : b6 ≠ b := by have := hb6.lt; omega
                have hnb7 : b7 ≠ b := by have := hb7.lt; omega
                have hch := hch.trans (Chg.any hC43)
                have hb6 := hb6.keep0 hC43
                have hb7 := hb7.keep0 hC43
                refine WL.ev (Ev.assign rfl) rfl ?_
                refine WL.nil (kr28 _ _ _ ?_)
                refine kh27 _ _ _ ?_
                refine CW.seq fun kK29 kh29 => ?_
                refine CW.seq fun kK30 kh30 => ?_
                refine CW.region fun kR31 kr31 => ?_  -- region 13
                refine WL.ev (Ev.move rfl) rfl ?_
                refine WL.ev (Ev.len rfl) rfl ?_
                refine WL.ev (Ev.move rfl) rfl ?_
                refine WL.nil (kr31 _ _ _ ?_)
                refine kh30 _ _ _ ?_
                refine CW.block ?_
                refine CW.loop (S := fun g : Nat × List Nat × SP => [(0, .slice al l.length cl), (1, .slice ak k.length ck), (2, .int .i64 mode), (6, .pointer (some ⟨b6, 0, none⟩)), (7, .pointer (some ⟨b7, 0, none⟩)), (8, .pointer (some ⟨b, 0, none⟩)), (45, .int .i64 (l.length : Int)), (46, .int .i64 (g.1 : Int))]) (Inv := KWt l k b b6 b7 w) (mu := fun g => l.length - g.1) ((0, List.replicate 67 0, SP.zero)) ?_ ?_ ?_
                ·
                  exact ⟨Nat.zero_le _, hB6, by rw [List.take_zero, List.take_zero]; exact Rep.zero, ⟨by decide, by decide, by decide, by decide, by decide, by decide⟩, hb6, hb7, hch⟩
                ·
                  repeat (first | exact Subs.nil | refine Subs.cons rfl ?_ | refine Subs.consI rfl (by omega) ?_)
                ·
                  rintro ⟨i, C, s⟩ wr ⟨hi, hB, hr, hs, hb6, hb7, hch⟩
                  dsimp only at hi hB hr hs hb6 hb7 hch
                  dsimp only
                  have hx := D_getD hWl i
                  have hy := D_getD hWk i
                  refine CW.seq fun kK32 kh32 => ?_
                  refine CW.region fun kR33 kr33 => ?_  -- region 14
                  refine WL.ev (Ev.lss rfl rfl) rfl ?_
                  refine WL.nil (kr33 _ _ _ ?_)
                  refine kh32 _ _ _ ?_
                  refine CW.seq fun kK34 kh34 => ?_
                  refine CW.cond rfl (fun hc8 => ?_) (fun hc8 => ?_)  -- if 47
                  ·
                    try simp only [decide_eq_true_eq, decide_eq_false_iff_not, Decidable.not_not, Bool.and_eq_true, Bool.or_eq_true, Bool.not_eq_true', Bool.not_eq_false', ne_eq, Int.not_lt, Int.not_le] at hc8
                    have hst := sumP_step (l := l) (k := k) (i := i) (by omega) hlen
                    have hin := sumP_in (l := l.take (i + 1)) (k := k.take (i + 1)) (finL_take hf1) (finL_take hf2) (by rw [List.length_take]; omega)
                    rw [hst] at hin
                    have hmx : (splitP (l.getD i 0)).cls ≤ 2 := ((finL_step (by omega)).1 (finL_take (i := i + 1) hf1)).2
                    have hmy : (splitP (k.getD i 0)).cls ≤ 2 := ((finL_step (by omega)).1 (finL_take (i := i + 1) hf2)).2
                    refine CW.skip ?_
                    refine kh34 _ _ _ ?_
                    refine CW.seq fun kK35 kh35 => ?_
                    refine CW.block ?_
                    refine CW.seq fun kK36 kh36 => ?_
                    refine CW.region fun kR37 kr37 => ?_  -- region 15
                    refine WL.ev (Ev.move rfl) rfl ?_
                    refine WL.ev (Ev.assign rfl) rfl ?_
                    refine WL.nil (kr37 _ _ _ ?_)
                    refine kh36 _ _ _ ?_
                    refine CW.regionTC 9 hmix (by kernel_rfl) fun kR38 kr38 hdr => ?_  -- region 16
                    have hch := hch.trans (Chg.any hdr)
                    have hB := hB.keep0 hdr
                    have hb6 := hb6.keep0 hdr
                    have hb7 := hb7.keep0 hdr
                    refine WS.ev (Ev.move rfl) rfl ?_
                    refine WS.ev (Ev.move rfl) rfl ?_
                    refine WS.ev (Ev.move rfl) rfl ?_
                    refine WS.ev (Ev.ixR (i) rfl rfl (hrl.keep0 hch) (by omega) (by omega) (by simp; omega)) rfl ?_
                    refine WS.ev (Ev.load rfl rfl ((hrl.keep0 hch).f64 (by first | omega | (simp; omega)))) rfl ?_
                    refine WS.ev (Ev.move rfl) rfl ?_
                    refine WS.ev (Ev.move rfl) rfl ?_
                    refine WS.ev (Ev.ixR (i) rfl rfl (hrk.keep0 hch) (by omega) (by omega) (by simp; omega)) rfl ?_
                    refine WS.ev (Ev.load rfl rfl ((hrk.keep0 hch).f64 (by first | omega | (simp; omega)))) rfl ?_
                    refine WS.nil ?_
                    refine WL.call hasF22 rfl rfl (acAddProduct_spec b C (l.getD i 0) (k.getD i 0) s (sumP (l.take i) (k.take i)) _ hB hr hx hy hmx hmy (hs.mono (by omega)) hin.1 hin.2) fun v w5 h' => ?_
                    obtain ⟨rfl, C2, hB2, hr2, hC58⟩ := h'
                    rw [← hst] at hr2
                    have hch := hch.step hC58 (fun y hy => by simp only [List.mem_singleton] at hy; subst hy; exact .inr hbge)
                    have hb6 := hb6.keep hC58 (by simp; omega)
                    have hb7 := hb7.keep hC58 (by simp; omega)
                    refine WL.nil (kr38 _ _ _ ?_)
                    refine kh35 _ _ _ ?_
                    refine CW.region fun kR39 kr39 => ?_  -- region 17
                    first | refine WL.ev (Ev.addIn rfl rfl (by omega)) rfl ?_ | refine WL.ev (Ev.add rfl rfl) rfl ?_
                    refine WL.ev (Ev.move rfl) rfl ?_
                    refine WL.nil (kr39 _ _ _ ?_)
                    refine ⟨rfl, (i + 1, C2, cnt1 s (prodP (l.getD i 0) (k.getD i 0)).cls (prodP (l.getD i 0) (k.getD i 0)).neg), ?_, ?_, ?_⟩
                    ·
                      repeat (first | exact Subs.nil | refine Subs.cons rfl ?_ | refine Subs.consI rfl (by omega) ?_)
                    ·
                      exact ⟨by show i + 1 ≤ l.length; omega, hB2, hr2, cnt1_le hs _ _, hb6, hb7, hch⟩
                    ·
                      show l.length - (i + 1) < l.length - i; omega
                  ·
                    try simp only [decide_eq_true_eq, decide_eq_false_iff_not, Decidable.not_not, Bool.and_eq_true, Bool.or_eq_true, Bool.not_eq_true', Bool.not_eq_false', ne_eq, Int.not_lt, Int.not_le] at hc8
                    have hiX : i = l.length := by omega
                    subst hiX
                    rw [List.take_length, List.take_of_length_le (by omega)] at hr
                    refine CW.exit ?_  -- exit 1
                    refine kh29 _ _ _ ?_
                    refine CW.seq fun kK40 kh40 => ?_
                    refine CW.region fun kR41 kr41 => ?_  -- region 18
                    refine WL.ev (Ev.move rfl) rfl ?_
                    refine WL.call hasF18 rfl rfl (Exact_spec b C (sumP l k) _ hB hr (hg0.keep0 hch) hinN.1 hinN.2) fun v w6 h' => ?_
                    obtain ⟨⟨rN, rfl, hNN⟩, hC61⟩ := h'
                    have hch := hch.trans (Chg.any hC61)
                    have hB := hB.keep0 hC61
                    have hb6 := hb6.keep0 hC61
                    have hb7 := hb7.keep0 hC61
                    refine WL.ev (Ev.move rfl) rfl ?_
                    refine WL.call hasF17 rfl rfl (all_spec _ k _ (hk0.keep0 hch) (by omega)) fun v w7 h' => ?_
                    obtain ⟨⟨ba, C3, sa, rfl, hBa, hRa, hsa⟩, hC63⟩ := h'
                    have hch := hch.trans (Chg.any hC63)
                    have hB := hB.keep0 hC63
                    have hb6 := hb6.keep0 hC63
                    have hb7 := hb7.keep0 hC63
                    have hNN := hNN.keep0 hC63
                    refine WL.call hasF18 rfl rfl (Exact_spec ba C3 (sumI k) _ hBa hRa (hg0.keep0 hch) hinW.1 hinW.2) fun v w8 h' => ?_
                    obtain ⟨⟨rW, rfl, hNW⟩, hC64⟩ := h'
                    have hch := hch.trans (Chg.any hC64)
                    have hB := hB.keep0 hC64
                    have hb6 := hb6.keep0 hC64
                    have hb7 := hb7.keep0 hC64
                    have hNN := hNN.keep0 hC64
                    refine WL.ev (Ev.build (vs := _) (cs := [_, _, _, _, _, _]) rfl rfl) rfl ?_
                    refine WL.allocB (l := [.bool false, .slice none 0 0, .int .i64 0, .bool false, .slice none 0 0, .int .i64 0]) rfl rfl fun b10 wm10 hb10 hcm10 hge10 => ?_
                    have hgehch10 := Nat.le_trans hch.size hge10
                    have hch := hch.trans (Chg.any hcm10)
                    have hNN := hNN.keep0 hcm10
                    have hNW := hNW.keep0 hcm10
                    have hneb10 : b ≠ b10 := by have := hB.lt; omega
                    have hB := hB.keep0 hcm10
                    have hneb610 : b6 ≠ b10 := by have := hb6.lt; omega
                    have hb6 := hb6.keep0 hcm10
                    have hneb710 : b7 ≠ b10 := by have := hb7.lt; omega
                    have hb7 := hb7.keep0 hcm10
                    refine WL.storeB rfl rfl rfl (by intro v hv; simp only [List.mem_cons, List.not_mem_nil, or_false] at hv; rcases hv with rfl | rfl | rfl | rfl | rfl | rfl <;> first | rfl | assumption | exact NU.one (by assumption)) hb10 (by simp) rfl fun ws28 hb10_ hcs28 => ?_
                    try simp only [Sx.splice, List.set_cons_zero, List.set_cons_succ, Nat.zero_add] at hb10_
                    have hch := hch.step hcs28 (fun y hy => by simp only [List.mem_singleton] at hy; subst hy; first | exact .inr (by first | assumption | omega) | exact .inl (by simp))
                    have hB := hB.keep hcs28 (by simp; omega)
                    have hb6 := hb6.keep hcs28 (by simp; omega)
                    have hb7 := hb7.keep hcs28 (by simp; omega)
                    have hNN := hNN.keepBK hb10 hcs28 (by intro v hv; simp only [List.mem_cons, List.not_mem_nil, or_false] at hv; rcases hv with rfl | rfl | rfl | rfl | rfl | rfl <;> first | rfl | exact NU.notU (by assumption))
                    have hNW := hNW.keepBK hb10 hcs28 (by intro v hv; simp only [List.mem_cons, List.not_mem_nil, or_false] at hv; rcases hv with rfl | rfl | rfl | rfl | rfl | rfl <;> first | rfl | exact NU.notU (by assumption))
                    have hb10 := hb10_
                    refine WL.nil (kr41 _ _ _ ?_)
                    refine kh40 _ _ _ ?_
                    refine CW.seq fun kK42 kh42 => ?_
                    refine CW.seq fun kK43 kh43 => ?_
                    refine CW.region fun kR44 kr44 => ?_  -- region 19
                    refine WL.ev (Ev.fieldAddr rfl) rfl ?_
                    refine WL.ev (Ev.loadB rfl rfl hb10 rfl rfl) rfl ?_
                    try simp only [List.drop_succ_cons, List.drop_zero, List.take_succ_cons, List.take_zero]
                    refine WL.call hasF23 rfl rfl (Sign_dspec (sumD (sumI k)).neg rW (wd (sumD (sumI k)).m) (sumD (sumI k)).e _ hNW) fun v w9 h' => ?_
                    obtain ⟨rfl, hC68⟩ := h'
                    rw [val_wd, sumD_sg hinW.1 hinW.2]
                    have hch := hch.trans (Chg.any hC68)
                    have hB := hB.keep0 hC68
                    have hb6 := hb6.keep0 hC68
                    have hb7 := hb7.keep0 hC68
                    have hb10 := hb10.keep0 hC68
                    have hNN := hNN.keep0 hC68
                    have hNW := hNW.keep0 hC68
                    refine WL.ev (Ev.lss rfl rfl) rfl ?_
                    refine WL.nil (kr44 _ _ _ ?_)
                    refine kh43 _ _ _ ?_
                    refine CW.cond rfl (fun hc9 => ?_) (fun hc9 => ?_)  -- if 69
                    ·
                      try simp only [decide_eq_true_eq, decide_eq_false_iff_not, Decidable.not_not, Bool.and_eq_true, Bool.or_eq_true, Bool.not_eq_true', Bool.not_eq_false', ne_eq, Int.not_lt, Int.not_le] at hc9
                      have hneg : sumI k < 0 := Classical.byContradiction fun q => by rw [if_neg q] at hc9; split at hc9 <;> omega
                      refine CW.regionKC 7 10 rfl hmix fun kR45 kr45 hS hdr => ?_  -- region 20
                      have hch := hch.trans (Chg.any hdr)
                      have hB := hB.keep0 hdr
                      have hb6 := hb6.keep0 hdr
                      have hb7 := hb7.keep0 hdr
                      have hb10 := hb10.keep0 hdr
                      have hNN := hNN.keep0 hdr
                      have hNW := hNW.keep0 hdr
                      have hch_r := hch
                      have hB_r := hB
                      have hb6_r := hb6
                      have hb7_r := hb7
                      have hb10_r := hb10
                      refine WK.take 0 rfl (by kernel_rfl) (by kernel_rfl) (by kernel_rfl) (by kernel_rfl) (by kernel_rfl) (by kernel_rfl) hS (fun w' hw' => Ev.fieldAddr rfl) rfl ?_
                      refine WK.take 1 rfl (by kernel_rfl) (by kernel_rfl) (by kernel_rfl) (by kernel_rfl) (by kernel_rfl) (by kernel_rfl) hS (fun w' hw' => Ev.loadB rfl rfl (hb10_r.keep0 hw') rfl rfl) rfl ?_
                      try simp only [List.drop_succ_cons, List.drop_zero, List.take_succ_cons, List.take_zero]
                      refine WK.take 3 rfl (by kernel_rfl) (by kernel_rfl) (by kernel_rfl) (by kernel_rfl) (by kernel_rfl) (by kernel_rfl) hS (fun w' hw' => Ev.fieldAddr rfl) rfl ?_
                      refine WK.take 4 rfl (by kernel_rfl) (by kernel_rfl) (by kernel_rfl) (by kernel_rfl) (by kernel_rfl) (by kernel_rfl) hS (fun w' hw' => Ev.loadB rfl rfl (hb10_r.keep0 hw') rfl rfl) rfl ?_
                      try simp only [List.drop_succ_cons, List.drop_zero, List.take_succ_cons, List.take_zero]
                      refine WK.oneCall 2 rfl (by kernel_rfl) hasF24 rfl rfl (Neg_dspec (sumD (sumP l k)).neg rN (wd (sumD (sumP l k)).m) (sumD (sumP l k)).e _ hNN (hg0.keep0 hch) (ok_e (sumD_ok hinN.1 hinN.2))) fun v w10 h' => ?_
                      obtain ⟨hD72, hC72⟩ := h'
                      rw [val_wd, sumD_neg hinN.1 hinN.2] at hD72
                      obtain ⟨rN, rfl, hNN2⟩ := hD72
                      have hch := hch.trans (Chg.any hC72)
                      have hB := hB.keep0 hC72
                      have hb6 := hb6.keep0 hC72
                      have hb7 := hb7.keep0 hC72
                      have hb10 := hb10.keep0 hC72
                      have hNN := hNN.keep0 hC72
                      have hNW := hNW.keep0 hC72
                      have hS := hS.trans hC72
                      refine ⟨hS, ?_⟩
                      refine WK.take 6 rfl (by kernel_rfl) (by kernel_rfl) (by kernel_rfl) (by kernel_rfl) (by kernel_rfl) (by kernel_rfl) hS (fun w' hw' => Ev.fieldAddr rfl) rfl ?_
                      refine WK.oneCall 5 rfl (by kernel_rfl) hasF24 rfl rfl (Neg_dspec (sumD (sumI k)).neg rW (wd (sumD (sumI k)).m) (sumD (sumI k)).e _ hNW (hg0.keep0 hch) (ok_e (sumD_ok hinW.1 hinW.2))) fun v w11 h' => ?_
                      obtain ⟨hD75, hC75⟩ := h'
                      rw [val_wd, sumD_neg hinW.1 hinW.2] at hD75
                      obtain ⟨rW, rfl, hNW2⟩ := hD75
                      have hch := hch.trans (Chg.any hC75)
                      have hB := hB.keep0 hC75
                      have hb6 := hb6.keep0 hC75
                      have hb7 := hb7.keep0 hC75
                      have hb10 := hb10.keep0 hC75
                      have hNN := hNN.keep0 hC75
                      have hNW := hNW.keep0 hC75
                      have hNN2 := hNN2.keep0 hC75
                      have hS := hS.trans hC75
                      refine ⟨hS, ?_⟩
                      refine WK.storeB 7 rfl (by kernel_rfl) (by kernel_rfl) rfl rfl rfl (by intro v hv; simp only [List.mem_cons, List.not_mem_nil, or_false] at hv; rcases hv with rfl | rfl | rfl <;> first | rfl | assumption | exact NU.one (by assumption)) hb10 (by simp) rfl fun ws29 hb10_ hcs29 => ?_
                      try simp only [Sx.splice, List.set_cons_zero, List.set_cons_succ, Nat.zero_add] at hb10_
                      have hch := hch.step hcs29 (fun y hy => by simp only [List.mem_singleton] at hy; subst hy; first | exact .inr (by first | assumption | omega) | exact .inl (by simp))
                      have hB := hB.keep hcs29 (by simp; omega)
                      have hb6 := hb6.keep hcs29 (by simp; omega)
                      have hb7 := hb7.keep hcs29 (by simp; omega)
                      have hNN := hNN.keepBK hb10 hcs29 (by intro v hv; simp only [List.mem_cons, List.not_mem_nil, or_false] at hv; rcases hv with rfl | rfl | rfl | rfl | rfl | rfl <;> first | rfl | exact NU.notU (by assumption))
                      have hNW := hNW.keepBK hb10 hcs29 (by intro v hv; simp only [List.mem_cons, List.not_mem_nil, or_false] at hv; rcases hv with rfl | rfl | rfl | rfl | rfl | rfl <;> first | rfl | exact NU.notU (by assumption))
                      have hNN2 := hNN2.keepBK hb10 hcs29 (by intro v hv; simp only [List.mem_cons, List.not_mem_nil, or_false] at hv; rcases hv with rfl | rfl | rfl | rfl | rfl | rfl <;> first | rfl | exact NU.notU (by assumption))
                      have hNW2 := hNW2.keepBK hb10 hcs29 (by intro v hv; simp only [List.mem_cons, List.not_mem_nil, or_false] at hv; rcases hv with rfl | rfl | rfl | rfl | rfl | rfl <;> first | rfl | exact NU.notU (by assumption))
                      have hb10 := hb10_
                      refine WK.after 8 rfl (by kernel_rfl) (by kernel_rfl) (Ev.fieldAddr rfl) rfl ?_
                      refine WK.storeB 9 rfl (by kernel_rfl) (by kernel_rfl) rfl rfl rfl (by intro v hv; simp only [List.mem_cons, List.not_mem_nil, or_false] at hv; rcases hv with rfl | rfl | rfl <;> first | rfl | assumption | exact NU.one (by assumption)) hb10 (by simp) rfl fun ws30 hb10_ hcs30 => ?_
                      try simp only [Sx.splice, List.set_cons_zero, List.set_cons_succ, Nat.zero_add] at hb10_
                      have hch := hch.step hcs30 (fun y hy => by simp only [List.mem_singleton] at hy; subst hy; first | exact .inr (by first | assumption | omega) | exact .inl (by simp))
                      have hB := hB.keep hcs30 (by simp; omega)
                      have hb6 := hb6.keep hcs30 (by simp; omega)
                      have hb7 := hb7.keep hcs30 (by simp; omega)
                      have hNN := hNN.keepBK hb10 hcs30 (by intro v hv; simp only [List.mem_cons, List.not_mem_nil, or_false] at hv; rcases hv with rfl | rfl | rfl | rfl | rfl | rfl <;> first | rfl | exact NU.notU (by assumption))
                      have hNW := hNW.keepBK hb10 hcs30 (by intro v hv; simp only [List.mem_cons, List.not_mem_nil, or_false] at hv; rcases hv with rfl | rfl | rfl | rfl | rfl | rfl <;> first | rfl | exact NU.notU (by assumption))
                      have hNN2 := hNN2.keepBK hb10 hcs30 (by intro v hv; simp only [List.mem_cons, List.not_mem_nil, or_false] at hv; rcases hv with rfl | rfl | rfl | rfl | rfl | rfl <;> first | rfl | exact NU.notU (by assumption))
                      have hNW2 := hNW2.keepBK hb10 hcs30 (by intro v hv; simp only [List.mem_cons, List.not_mem_nil, or_false] at hv; rcases hv with rfl | rfl | rfl | rfl | rfl | rfl <;> first | rfl | exact NU.notU (by assumption))
                      have hb10 := hb10_
                      refine WK.done (by kernel_rfl) (kr45 _ _ _ ?_)
                      refine kh42 _ _ _ ?_
                      refine CW.seq fun kK46 kh46 => ?_
                      have hNN := hNN2
                      have hNW := hNW2
                      have hokN := sumD_ok (S := -sumP l k) (by omega) (by omega)
                      have hokW := sumD_ok (S := -sumI k) (by omega) (by omega)
                      refine CW.region fun kR47 kr47 => ?_  -- region 21
                      refine WL.ev (Ev.loadA rfl rfl hb10 rfl) rfl ?_
                      refine WL.ev (Ev.move rfl) rfl ?_
                      refine WL.call hasF25 rfl rfl (Quot_spec (sumD (-sumP l k)).neg (sumD (-sumI k)).neg rN rW (wd (sumD (-sumP l k)).m) (wd (sumD (-sumI k)).m) (sumD (-sumP l k)).e (sumD (-sumI k)).e mode _ hNN hNW (hg0.keep0 hch) (ok_e hokN) (ok_e hokW)) fun v w12 h' => ?_
                      obtain ⟨⟨bits, e, rfl, hQ⟩, hC80⟩ := h'
                      rw [val_wd, val_wd] at hQ
                      have hch := hch.trans (Chg.any hC80)
                      have hB := hB.keep0 hC80
                      have hb6 := hb6.keep0 hC80
                      have hb7 := hb7.keep0 hC80
                      have hb10 := hb10.keep0 hC80
                      have hNN := hNN.keep0 hC80
                      have hNW := hNW.keep0 hC80
                      have hNN2 := hNN2.keep0 hC80
                      have hNW2 := hNW2.keep0 hC80
                      refine WL.ev (Ev.extract rfl rfl) rfl ?_
                      refine WL.ev (Ev.extract rfl rfl) rfl ?_
                      refine WL.storeC rfl rfl (by first | rfl | assumption | exact NU.one (by assumption)) hb6 (by simp) rfl fun ws31 hb6_ hcs31 => ?_
                      try simp only [Sx.splice, List.set_cons_zero, List.set_cons_succ, Nat.zero_add] at hb6_
                      have hch := hch.step hcs31 (fun y hy => by simp only [List.mem_singleton] at hy; subst hy; first | exact .inr (by first | assumption | omega) | exact .inl (by simp))
                      have hB := hB.keep hcs31 (by simp; omega)
                      have hb7 := hb7.keep hcs31 (by simp; omega)
                      have hb10 := hb10.keep hcs31 (by simp; omega)
                      have hNN2 := hNN2.keepBK hb6 hcs31 (by intro v hv; simp only [List.mem_cons, List.not_mem_nil, or_false] at hv; rcases hv with rfl <;> first | rfl | exact NU.notU (by assumption))
                      have hNW2 := hNW2.keepBK hb6 hcs31 (by intro v hv; simp only [List.mem_cons, List.not_mem_nil, or_false] at hv; rcases hv with rfl <;> first | rfl | exact NU.notU (by assumption))
                      have hb6 := hb6_
                      refine WL.storeC rfl rfl (by first | rfl | assumption | exact NU.one (by assumption)) hb7 (by simp) rfl fun ws32 hb7_ hcs32 => ?_
                      try simp only [Sx.splice, List.set_cons_zero, List.set_cons_succ, Nat.zero_add] at hb7_
                      have hch := hch.step hcs32 (fun y hy => by simp only [List.mem_singleton] at hy; subst hy; first | exact .inr (by first | assumption | omega) | exact .inl (by simp))
                      have hB := hB.keep hcs32 (by simp; omega)
                      have hb6 := hb6.keep hcs32 (by simp; omega)
                      have hb10 := hb10.keep hcs32 (by simp; omega)
                      have hNN2 := hNN2.keepBK hb7 hcs32 (by intro v hv; simp only [List.mem_cons, List.not_mem_nil, or_false] at hv; rcases hv with rfl <;> first | rfl | exact NU.notU (by assumption))
                      have hNW2 := hNW2.keepBK hb7 hcs32 (by intro v hv; simp only [List.mem_cons, List.not_mem_nil, or_false] at hv; rcases hv with rfl <;> first | rfl | exact NU.notU (by assumption))
                      have hb7 := hb7_
                      refine WL.nil (kr47 _ _ _ ?_)
                      refine kh46 _ _ _ ?_
                      refine CW.ret ?_
                      refine clean_door rfl rfl rfl hb6 hb7 hneb67 fun w9 hc9 => ?_
                      have hch := hch.step hc9 (fun y hy => by simp only [List.mem_singleton] at hy; subst hy; exact .inr (by omega))
                      refine ⟨⟨_, _, rfl, .inr ⟨hmode, .inr ⟨hlong, .inr ⟨hlen, .inr ⟨hfin, .inr ⟨hnn, ?_⟩⟩⟩⟩⟩⟩, hch⟩
                      rw [hQ.err]
                      unfold QuoD
                      rw [if_pos hneg, if_pos hneg]; exact hQ
                    ·
                      try simp only [decide_eq_true_eq, decide_eq_false_iff_not, Decidable.not_not, Bool.and_eq_true, Bool.or_eq_true, Bool.not_eq_true', Bool.not_eq_false', ne_eq, Int.not_lt, Int.not_le] at hc9
                      have hneg : ¬ sumI k < 0 := fun q => by rw [if_pos q] at hc9; omega
                      refine CW.skip ?_
                      refine kh42 _ _ _ ?_
                      refine CW.seq fun kK48 kh48 => ?_
                      have hokN := sumD_ok hinN.1 hinN.2
                      have hokW := sumD_ok hinW.1 hinW.2
                      refine CW.region fun kR49 kr49 => ?_  -- region 21
                      refine WL.ev (Ev.loadA rfl rfl hb10 rfl) rfl ?_
                      refine WL.ev (Ev.move rfl) rfl ?_
                      refine WL.call hasF25 rfl rfl (Quot_spec (sumD (sumP l k)).neg (sumD (sumI k)).neg rN rW (wd (sumD (sumP l k)).m) (wd (sumD (sumI k)).m) (sumD (sumP l k)).e (sumD (sumI k)).e mode _ hNN hNW (hg0.keep0 hch) (ok_e hokN) (ok_e hokW)) fun v w13 h' => ?_
                      obtain ⟨⟨bits, e, rfl, hQ⟩, hC80⟩ := h'
                      rw [val_wd, val_wd] at hQ
                      have hch := hch.trans (Chg.any hC80)
                      have hB := hB.keep0 hC80
                      have hb6 := hb6.keep0 hC80
                      have hb7 := hb7.keep0 hC80
                      have hb10 := hb10.keep0 hC80
                      have hNN := hNN.keep0 hC80
                      have hNW := hNW.keep0 hC80
                      refine WL.ev (Ev.extract rfl rfl) rfl ?_
                      refine WL.ev (Ev.extract rfl rfl) rfl ?_
                      refine WL.storeC rfl rfl (by first | rfl | assumption | exact NU.one (by assumption)) hb6 (by simp) rfl fun ws33 hb6_ hcs33 => ?_
                      try simp only [Sx.splice, List.set_cons_zero, List.set_cons_succ, Nat.zero_add] at hb6_
                      have hch := hch.step hcs33 (fun y hy => by simp only [List.mem_singleton] at hy; subst hy; first | exact .inr (by first | assumption | omega) | exact .inl (by simp))
                      have hB := hB.keep hcs33 (by simp; omega)
                      have hb7 := hb7.keep hcs33 (by simp; omega)
                      have hb10 := hb10.keep hcs33 (by simp; omega)
                      have hb6 := hb6_
                      refine WL.storeC rfl rfl (by first | rfl | assumption | exact NU.one (by assumption)) hb7 (by simp) rfl fun ws34 hb7_ hcs34 => ?_
                      try simp only [Sx.splice, List.set_cons_zero, List.set_cons_succ, Nat.zero_add] at hb7_
                      have hch := hch.step hcs34 (fun y hy => by simp only [List.mem_singleton] at hy; subst hy; first | exact .inr (by first | assumption | omega) | exact .inl (by simp))
                      have hB := hB.keep hcs34 (by simp; omega)
                      have hb6 := hb6.keep hcs34 (by simp; omega)
                      have hb10 := hb10.keep hcs34 (by simp; omega)
                      have hb7 := hb7_
                      refine WL.nil (kr49 _ _ _ ?_)
                      refine kh48 _ _ _ ?_
                      refine CW.ret ?_
                      refine clean_door rfl rfl rfl hb6 hb7 hneb67 fun w9 hc9 => ?_
                      have hch := hch.step hc9 (fun y hy => by simp only [List.mem_singleton] at hy; subst hy; exact .inr (by omega))
                      refine ⟨⟨_, _, rfl, .inr ⟨hmode, .inr ⟨hlong, .inr ⟨hlen, .inr ⟨hfin, .inr ⟨hnn, ?_⟩⟩⟩⟩⟩⟩, hch⟩
                      rw [hQ.err]
                      unfold QuoD
                      rw [if_neg hneg, if_neg hneg]; exact hQ

end Go.Proofs.YtkkklaodligpdaaDoor

/- Package mean: Middle, Of. No condition. -/
namespace Go.Proofs.YtkkklaodligpdaaDoor
open Go Sx Wd
set_option linter.unusedVariables false
set_option linter.unusedSimpArgs false
set_option exponentiation.threshold 5000

theorem NF.of_row {w : World} {a : Option Addr} {l : List Nat} {k c : Nat} (h : RW w a (l.map f64v)) (hw : ∀ x ∈ l, x < 18446744073709551616) (hl : l.length ≤ 70368744177664) (hk : k = l.length) (hc : k ≤ c) : NF w (.slice a k c) l := by
  subst hk
  exact ⟨⟨a, c, rfl, hc, h⟩, hw, hl⟩
theorem meanR.err {l : List Nat} {mode pn pi : Int} {bits : Nat} {e : Int} (h : meanR l mode pn pi bits e) : (if e = 0 then bits else 0) = bits := by
  rcases h with ⟨_, rfl, rfl⟩ | ⟨_, ⟨_, rfl, rfl⟩ | ⟨_, ⟨_, rfl⟩ | ⟨_, ⟨_, rfl, rfl⟩ | ⟨_, h⟩⟩⟩⟩
  · simp
  · simp
  · simp
  · simp
  · exact h.err
/-- What Middle answers. -/
def midR (x y : Nat) (mode : Int) (bits : Nat) (e : Int) : Prop :=
  (¬ (0 ≤ mode ∧ mode ≤ 4) ∧ bits = 0 ∧ e = 1) ∨ ((0 ≤ mode ∧ mode ≤ 4) ∧
    ((¬ ((splitP x).cls ≤ 2 ∧ (splitP y).cls ≤ 2) ∧ bits = 0 ∧ e = 30) ∨ (((splitP x).cls ≤ 2 ∧ (splitP y).cls ≤ 2) ∧ meanR [x, y] mode 0 0 bits e)))
set_option maxRecDepth 8000 in
set_option maxHeartbeats 1000000 in
theorem Middle_spec (x y : Nat) (mode : Int) (w : World) (hx : x < 18446744073709551616) (hy : y < 18446744073709551616) (hg : GW w) : Ret Tryd.prog 11 [.float .f64 x, .float .f64 y, .int .i64 mode] w fun u w' => (∃ bits e, u = .tuple [.float .f64 bits, .int .i64 e].toArray ∧ midR x y mode bits e) ∧ Chg [] w w' := by
  have hch : Chg [] w w := Chg.refl _ _
  have hg0 := hg
  refine Ret.enterD 12 hasF12 Tryd.func11 rfl rfl ?_
  simp only [args0, Nat.zero_add, Nat.reduceAdd]
  refine CW.seq fun kK1 kh1 => ?_
  refine CW.region fun kR2 kr2 => ?_  -- region 0
  refine WL.allocB (l := [.float .f64 0]) rfl rfl fun b6 wm6 hb6 hcm6 hge6 => ?_
  have hgehch6 := Nat.le_trans hch.size hge6
  have hch := hch.trans (Chg.any hcm6)
  refine WL.allocB (l := [.int .i64 0]) rfl rfl fun b7 wm7 hb7 hcm7 hge7 => ?_
  have hgehch7 := Nat.le_trans hch.size hge7
  have hch := hch.trans (Chg.any hcm7)
  have hneb67 : b6 ≠ b7 := by have := hb6.lt; omega
  have hb6 := hb6.keep0 hcm7
  refine WL.nil (kr2 _ _ _ ?_)
  refine kh1 _ _ _ ?_
  refine CW.seq fun kK3 kh3 => ?_
  refine CW.region fun kR4 kr4 => ?_  -- region 1
  refine WL.defer rfl ?_
  refine WL.nil (kr4 _ _ _ ?_)
  refine kh3 _ _ _ ?_
  refine CW.seq fun kK5 kh5 => ?_
  refine CW.seq fun kK6 kh6 => ?_
  refine CW.region fun kR7 kr7 => ?_  -- region 2
  refine WL.ev (Ev.move rfl) rfl ?_
  refine WL.call hasF13 rfl rfl (right_spec mode _) fun v w1 h' => ?_
  obtain ⟨rfl, rfl⟩ := h'
  refine WL.ev (Ev.not rfl) rfl ?_
  refine WL.nil (kr7 _ _ _ ?_)
  refine kh6 _ _ _ ?_
  refine CW.cond rfl (fun hc1 => ?_) (fun hc1 => ?_)  -- if 10
  ·
    try simp only [decide_eq_true_eq, decide_eq_false_iff_not, Decidable.not_not, Bool.and_eq_true, Bool.or_eq_true, Bool.not_eq_true', Bool.not_eq_false', ne_eq, Int.not_lt, Int.not_le] at hc1
    have hmode : ¬ (0 ≤ mode ∧ mode ≤ 4) := by simpa using hc1
    refine CW.seq fun kK8 kh8 => ?_
    refine CW.region fun kR9 kr9 => ?_  -- region 3
    refine WL.storeC rfl rfl (by first | rfl | assumption | exact NU.one (by assumption)) hb6 (by simp) rfl fun ws35 hb6_ hcs35 => ?_
    try simp only [Sx.splice, List.set_cons_zero, List.set_cons_succ, Nat.zero_add] at hb6_
    have hch := hch.step hcs35 (fun y hy => by simp only [List.mem_singleton] at hy; subst hy; first | exact .inr (by first | assumption | omega) | exact .inl (by simp))
    have hb7 := hb7.keep hcs35 (by simp; omega)
    have hb6 := hb6_
    refine WL.storeC rfl rfl (by first | rfl | assumption | exact NU.one (by assumption)) hb7 (by simp) rfl fun ws36 hb7_ hcs36 => ?_
    try simp only [Sx.splice, List.set_cons_zero, List.set_cons_succ, Nat.zero_add] at hb7_
    have hch := hch.step hcs36 (fun y hy => by simp only [List.mem_singleton] at hy; subst hy; first | exact .inr (by first | assumption | omega) | exact .inl (by simp))
    have hb6 := hb6.keep hcs36 (by simp; omega)
    have hb7 := hb7_
    refine WL.nil (kr9 _ _ _ ?_)
    refine kh8 _ _ _ ?_
    refine CW.ret ?_
    refine clean_door rfl rfl rfl hb6 hb7 hneb67 fun w9 hc9 => ?_
    have hch := hch.step hc9 (fun y hy => by simp only [List.mem_singleton] at hy; subst hy; exact .inr (by omega))
    exact ⟨⟨_, _, rfl, .inl ⟨hmode, rfl, rfl⟩⟩, hch⟩
  ·
    try simp only [decide_eq_true_eq, decide_eq_false_iff_not, Decidable.not_not, Bool.and_eq_true, Bool.or_eq_true, Bool.not_eq_true', Bool.not_eq_false', ne_eq, Int.not_lt, Int.not_le] at hc1
    have hmode : 0 ≤ mode ∧ mode ≤ 4 := by simpa using hc1
    refine CW.skip ?_
    refine kh5 _ _ _ ?_
    refine CW.seq fun kK10 kh10 => ?_
    refine CW.seq fun kK11 kh11 => ?_
    refine CW.region fun kR12 kr12 => ?_  -- region 4
    refine WL.ev (Ev.move rfl) rfl ?_
    refine WL.call hasF26 rfl rfl (Class_spec x _ hx) fun v w2 h' => ?_
    obtain ⟨rfl, hC12⟩ := h'
    have hch := hch.trans (Chg.any hC12)
    have hb6 := hb6.keep0 hC12
    have hb7 := hb7.keep0 hC12
    refine WL.ev (Ev.gtr rfl rfl) rfl ?_
    refine WL.ev (Ev.move rfl) rfl ?_
    refine WL.boolCase (fun hg2 => ?_) (fun hg2 => ?_)
    ·
      try simp only [decide_eq_true_eq, decide_eq_false_iff_not, Decidable.not_not, Bool.and_eq_true, Bool.or_eq_true, Bool.not_eq_true', Bool.not_eq_false', ne_eq, Int.not_lt, Int.not_le] at hg2
      have h1 : 2 < (splitP x).cls := by have := hg2; omega
      refine WL.pass rfl rfl rfl rfl rfl ?_
      refine WL.pass rfl rfl rfl rfl rfl ?_
      refine WL.pass rfl rfl rfl rfl rfl ?_
      refine WL.ev (Ev.pickT rfl rfl rfl) rfl ?_
      refine WL.nil (kr12 _ _ _ ?_)
      refine kh11 _ _ _ ?_
      refine CW.condT rfl ?_
      refine CW.seq fun kK13 kh13 => ?_
      refine CW.region fun kR14 kr14 => ?_  -- region 5
      refine WL.storeC rfl rfl (by first | rfl | assumption | exact NU.one (by assumption)) hb6 (by simp) rfl fun ws37 hb6_ hcs37 => ?_
      try simp only [Sx.splice, List.set_cons_zero, List.set_cons_succ, Nat.zero_add] at hb6_
      have hch := hch.step hcs37 (fun y hy => by simp only [List.mem_singleton] at hy; subst hy; first | exact .inr (by first | assumption | omega) | exact .inl (by simp))
      have hb7 := hb7.keep hcs37 (by simp; omega)
      have hb6 := hb6_
      refine WL.storeC rfl rfl (by first | rfl | assumption | exact NU.one (by assumption)) hb7 (by simp) rfl fun ws38 hb7_ hcs38 => ?_
      try simp only [Sx.splice, List.set_cons_zero, List.set_cons_succ, Nat.zero_add] at hb7_
      have hch := hch.step hcs38 (fun y hy => by simp only [List.mem_singleton] at hy; subst hy; first | exact .inr (by first | assumption | omega) | exact .inl (by simp))
      have hb6 := hb6.keep hcs38 (by simp; omega)
      have hb7 := hb7_
      refine WL.nil (kr14 _ _ _ ?_)
      refine kh13 _ _ _ ?_
      refine CW.ret ?_
      refine clean_door rfl rfl rfl hb6 hb7 hneb67 fun w9 hc9 => ?_
      have hch := hch.step hc9 (fun y hy => by simp only [List.mem_singleton] at hy; subst hy; exact .inr (by omega))
      exact ⟨⟨_, _, rfl, .inr ⟨hmode, .inl ⟨fun h => by have := h.1; omega, rfl, rfl⟩⟩⟩, hch⟩
    ·
      try simp only [decide_eq_true_eq, decide_eq_false_iff_not, Decidable.not_not, Bool.and_eq_true, Bool.or_eq_true, Bool.not_eq_true', Bool.not_eq_false', ne_eq, Int.not_lt, Int.not_le] at hg2
      have h1 : (splitP x).cls ≤ 2 := by have := hg2; omega
      refine WL.want rfl rfl rfl rfl ?_
      refine WL.ev (Ev.move rfl) rfl ?_
      refine WL.want rfl rfl rfl rfl ?_
      refine WL.call hasF26 rfl rfl (Class_spec y _ hy) fun v w3 h' => ?_
      obtain ⟨rfl, hC16⟩ := h'
      have hch := hch.trans (Chg.any hC16)
      have hb6 := hb6.keep0 hC16
      have hb7 := hb7.keep0 hC16
      refine WL.want rfl rfl rfl rfl ?_
      refine WL.ev (Ev.gtr rfl rfl) rfl ?_
      refine WL.ev (Ev.pickF rfl rfl rfl) rfl ?_
      refine WL.nil (kr12 _ _ _ ?_)
      refine kh11 _ _ _ ?_
      refine CW.cond rfl (fun hc3 => ?_) (fun hc3 => ?_)  -- if 18
      ·
        try simp only [decide_eq_true_eq, decide_eq_false_iff_not, Decidable.not_not, Bool.and_eq_true, Bool.or_eq_true, Bool.not_eq_true', Bool.not_eq_false', ne_eq, Int.not_lt, Int.not_le] at hc3
        have h2 : 2 < (splitP y).cls := by have := hc3; omega
        refine CW.seq fun kK15 kh15 => ?_
        refine CW.region fun kR16 kr16 => ?_  -- region 5
        refine WL.storeC rfl rfl (by first | rfl | assumption | exact NU.one (by assumption)) hb6 (by simp) rfl fun ws39 hb6_ hcs39 => ?_
        try simp only [Sx.splice, List.set_cons_zero, List.set_cons_succ, Nat.zero_add] at hb6_
        have hch := hch.step hcs39 (fun y hy => by simp only [List.mem_singleton] at hy; subst hy; first | exact .inr (by first | assumption | omega) | exact .inl (by simp))
        have hb7 := hb7.keep hcs39 (by simp; omega)
        have hb6 := hb6_
        refine WL.storeC rfl rfl (by first | rfl | assumption | exact NU.one (by assumption)) hb7 (by simp) rfl fun ws40 hb7_ hcs40 => ?_
        try simp only [Sx.splice, List.set_cons_zero, List.set_cons_succ, Nat.zero_add] at hb7_
        have hch := hch.step hcs40 (fun y hy => by simp only [List.mem_singleton] at hy; subst hy; first | exact .inr (by first | assumption | omega) | exact .inl (by simp))
        have hb6 := hb6.keep hcs40 (by simp; omega)
        have hb7 := hb7_
        refine WL.nil (kr16 _ _ _ ?_)
        refine kh15 _ _ _ ?_
        refine CW.ret ?_
        refine clean_door rfl rfl rfl hb6 hb7 hneb67 fun w9 hc9 => ?_
        have hch := hch.step hc9 (fun y hy => by simp only [List.mem_singleton] at hy; subst hy; exact .inr (by omega))
        exact ⟨⟨_, _, rfl, .inr ⟨hmode, .inl ⟨fun h => by have := h.2; omega, rfl, rfl⟩⟩⟩, hch⟩
      ·
        try simp only [decide_eq_true_eq, decide_eq_false_iff_not, Decidable.not_not, Bool.and_eq_true, Bool.or_eq_true, Bool.not_eq_true', Bool.not_eq_false', ne_eq, Int.not_lt, Int.not_le] at hc3
        have h2 : (splitP y).cls ≤ 2 := by have := hc3; omega
        refine CW.skip ?_
        refine kh10 _ _ _ ?_
        refine CW.seq fun kK17 kh17 => ?_
        refine CW.region fun kR18 kr18 => ?_  -- region 6
        refine WL.ev (Ev.move rfl) rfl ?_
        refine WL.ev (Ev.move rfl) rfl ?_
        refine WL.buildSlice (m := 2) (cs := [f64v (x), f64v (y)]) (by decide) (by decide) rfl (by kernel_rfl) rfl fun b21 w21 hn21 => ?_
        have hcm21 := hn21.chg
        have hge21 := hn21.ge
        have hb21 : FB w21 b21 _ [x, y] := hn21.at_
        have hgehch21 := Nat.le_trans hch.size hge21
        have hch := hch.trans (Chg.any hcm21)
        have hneb621 : b6 ≠ b21 := by have := hb6.lt; omega
        have hb6 := hb6.keep0 hcm21
        have hneb721 : b7 ≠ b21 := by have := hb7.lt; omega
        have hb7 := hb7.keep0 hcm21
        refine WL.ev (Ev.move rfl) rfl ?_
        refine WL.call hasF27 rfl rfl (Plain_spec _) fun v w4 h' => ?_
        obtain ⟨rfl, hC23⟩ := h'
        have hch := hch.trans (Chg.any hC23)
        have hb6 := hb6.keep0 hC23
        have hb7 := hb7.keep0 hC23
        have hb21 := hb21.keep0 hC23
        refine WL.call hasF7 rfl rfl (Mean_spec _ [x, y] mode 0 0 _ (NF.of_row hb21.row (by intro z hz; simp at hz; rcases hz with rfl | rfl <;> assumption) (by simp) rfl (by simp)) (hg0.keep0 hch)) fun v w5 h' => ?_
        obtain ⟨⟨bits, e, rfl, hM⟩, hC24⟩ := h'
        have hch := hch.trans (Chg.any hC24)
        have hb6 := hb6.keep0 hC24
        have hb7 := hb7.keep0 hC24
        have hb21 := hb21.keep0 hC24
        refine WL.ev (Ev.extract rfl rfl) rfl ?_
        refine WL.ev (Ev.extract rfl rfl) rfl ?_
        refine WL.storeC rfl rfl (by first | rfl | assumption | exact NU.one (by assumption)) hb6 (by simp) rfl fun ws41 hb6_ hcs41 => ?_
        try simp only [Sx.splice, List.set_cons_zero, List.set_cons_succ, Nat.zero_add] at hb6_
        have hch := hch.step hcs41 (fun y hy => by simp only [List.mem_singleton] at hy; subst hy; first | exact .inr (by first | assumption | omega) | exact .inl (by simp))
        have hb7 := hb7.keep hcs41 (by simp; omega)
        have hb21 := hb21.keep hcs41 (by simp; omega)
        have hb6 := hb6_
        refine WL.storeC rfl rfl (by first | rfl | assumption | exact NU.one (by assumption)) hb7 (by simp) rfl fun ws42 hb7_ hcs42 => ?_
        try simp only [Sx.splice, List.set_cons_zero, List.set_cons_succ, Nat.zero_add] at hb7_
        have hch := hch.step hcs42 (fun y hy => by simp only [List.mem_singleton] at hy; subst hy; first | exact .inr (by first | assumption | omega) | exact .inl (by simp))
        have hb6 := hb6.keep hcs42 (by simp; omega)
        have hb21 := hb21.keep hcs42 (by simp; omega)
        have hb7 := hb7_
        refine WL.nil (kr18 _ _ _ ?_)
        refine kh17 _ _ _ ?_
        refine CW.ret ?_
        refine clean_door rfl rfl rfl hb6 hb7 hneb67 fun w9 hc9 => ?_
        have hch := hch.step hc9 (fun y hy => by simp only [List.mem_singleton] at hy; subst hy; exact .inr (by omega))
        refine ⟨⟨_, _, rfl, .inr ⟨hmode, .inr ⟨⟨h1, h2⟩, ?_⟩⟩⟩, hch⟩
        rw [hM.err]; exact hM

end Go.Proofs.YtkkklaodligpdaaDoor

/- Means as plain numbers: what told and Weighted come to; the values that the statements ask. No condition. -/
namespace Go.Proofs.YtkkklaodligpdaaDoor
open Go Sx Wd
set_option linter.unusedVariables false
set_option linter.unusedSimpArgs false
set_option exponentiation.threshold 9000

theorem sgD_one (n : Nat) (neg : Bool) (h : n ≠ 0) (hn : neg = false) : sgD neg n = 1 := by unfold sgD; rw [if_neg h, hn]; rfl
theorem intD_form {n : Nat} (h0 : n ≠ 0) (hn : n < 18446744073709551616) : ∃ t : Nat, n = (intD (n : Int)).m * 2 ^ t ∧ (intD (n : Int)).e = t ∧ (intD (n : Int)).neg = false := by
  have h := intD_eq (n := (n : Int)) (by omega)
  rw [show decide ((n : Int) < 0) = false from decide_eq_false (by omega), Int.natAbs_natCast] at h
  obtain ⟨t, h1, h2, h3⟩ := formD_val h h0
  exact ⟨t, h1, by omega, h3⟩
/-- The exact sum S (in units of 2^-2148) through n, rounded. -/
def MeanQ (S : Int) (n : Nat) (mode : Int) (bits : Nat) : Prop :=
  ∃ r, IsNear S.natAbs (n * 2 ^ 1073) (decide (S < 0)) mode r ∧ r ≤ 9218868437227405312 ∧ bits = (if S < 0 then r + 9223372036854775808 else r)
/-- A ratio of forms by what they were made of. -/
theorem near_forms {x y : Nat} {ex ey : Int} {s t : Nat} {A B : Nat} {neg : Bool} {mode : Int} {r : Nat} {u v : Nat} (hy : y ≠ 0) (hA : A = x * 2 ^ s * 2 ^ u) (hB : B = y * 2 ^ t * 2 ^ v) (he : ex - ey + 1075 + (t : Int) + (v : Int) = (s : Int) + (u : Int)) :
    IsNear (dyA x (ex - ey)) (y * dyB (ex - ey)) neg mode r ↔ IsNear A B neg mode r := by
  have hB0 : 0 < B := by rw [hB]; exact Nat.mul_pos (Nat.mul_pos (by omega) (Nat.two_pow_pos _)) (Nat.two_pow_pos _)
  have hD0 : 0 < y * dyB (ex - ey) := Nat.mul_pos (by omega) (dyB_pos _)
  have hv : dyA x (ex - ey) * B = A * (y * dyB (ex - ey)) := by
    rw [hA, hB]
    unfold dyA dyB
    have e : (ex - ey + 1075).toNat + t + v = s + u + (-(ex - ey + 1075)).toNat := by omega
    calc x * 2 ^ (ex - ey + 1075).toNat * (y * 2 ^ t * 2 ^ v) = x * y * (2 ^ (ex - ey + 1075).toNat * 2 ^ t * 2 ^ v) := by ac_rfl
      _ = x * y * (2 ^ s * 2 ^ u * 2 ^ (-(ex - ey + 1075)).toNat) := by rw [← Nat.pow_add, ← Nat.pow_add, e, Nat.pow_add, Nat.pow_add]
      _ = _ := by ac_rfl
  exact ⟨fun h => h.congr hD0 hB0 hv, fun h => h.congr hB0 hD0 hv.symm⟩
theorem quot_sum {S : Int} {n : Nat} {mode : Int} {bits : Nat} {e : Int} (h1 : -((16384 * BB : Nat) : Int) < S) (h2 : S < (16384 * BB : Nat)) (hS : S ≠ 0) (hn : n ≠ 0) (hn2 : n ≤ 1099511627776) (hm : 0 ≤ mode ∧ mode ≤ 4)
    (h : QuotP (sumD S).neg (intD n).neg (sumD S).m (intD n).m (sumD S).e (intD n).e mode bits e) : e = 0 ∧ MeanQ S n mode bits := by
  have hokS := sumD_ok h1 h2
  have hokN := intD_ok (n := (n : Int)) (by omega)
  obtain ⟨t, q1, q2, q3⟩ := intD_form hn (by omega)
  have hm0 : (intD (n : Int)).m ≠ 0 := fun e => by rw [e, Nat.zero_mul] at q1; exact hn q1
  have hsg := sgD_one (intD (n : Int)).m (intD (n : Int)).neg hm0 q3
  have hf1 := formD_self hokS
  have hf2 := formD_self hokN
  have hform := sumD_form h1 h2 hS
  have htz := (tz_spec (n := S.natAbs) (by omega)).2
  rcases h with ⟨hh, _⟩ | ⟨_, ⟨hh, _⟩ | ⟨_, hh, _⟩ | ⟨_, x, y, hx, hy, ⟨hh, _⟩ | ⟨hy0, r, hN, hr, hb, he⟩⟩⟩
  · exact absurd hm hh
  · rw [hsg] at hh; exact absurd hh (by decide)
  · rw [hf1, hf2] at hh; rcases hh with hh | hh <;> cases hh
  · rw [hf2] at hy; cases hy; exact absurd hh hm0
  · rw [hf1] at hx; cases hx
    rw [hf2] at hy; cases hy
    have hneg : (sumD S).neg = decide (S < 0) := by rw [hform]
    have hmS : S.natAbs = (sumD S).m * 2 ^ tz S.natAbs := by rw [hform]; exact htz
    have heS : (sumD S).e = -2148 + tz S.natAbs := by rw [hform]
    rw [hneg] at hN hb
    refine ⟨he, r, (near_forms (s := tz S.natAbs) (t := t) (u := 0) (v := 1073) hy0 (A := S.natAbs) (B := n * 2 ^ 1073) (by rw [Nat.pow_zero, Nat.mul_one]; exact hmS) (by rw [← q1]) (by omega)).1 hN, hr, ?_⟩
    rw [hb]
    by_cases q : S < 0
    · simp [q]
    · simp [q]
/-- What told answers of a sum. -/
theorem told_sum {S : Int} {n : Nat} {s : SP} {mode : Int} {bits : Nat} {e : Int} (h1 : -((16384 * BB : Nat) : Int) < S) (h2 : S < (16384 * BB : Nat)) (hn : n ≠ 0) (hn2 : n ≤ 1099511627776) (hm : 0 ≤ mode ∧ mode ≤ 4)
    (h : toldR (sumD S) n s mode bits e) : e = 0 ∧ ((S = 0 ∧ bits = noughtP s mode) ∨ (S ≠ 0 ∧ MeanQ S n mode bits)) := by
  rcases h with ⟨hz, hb, he⟩ | ⟨hz, hq⟩
  · exact ⟨he, .inl ⟨(sumD_m0 h1 h2).1 hz, hb⟩⟩
  · have hS : S ≠ 0 := fun e => hz ((sumD_m0 h1 h2).2 e)
    obtain ⟨he, hM⟩ := quot_sum h1 h2 hS hn hn2 hm hq
    exact ⟨he, .inr ⟨hS, hM⟩⟩
theorem MeanQ.unique {S : Int} {n : Nat} {mode : Int} {b b' : Nat} (hn : n ≠ 0) (h : MeanQ S n mode b) (h' : MeanQ S n mode b') : b = b' := by
  obtain ⟨r, h1, _, rfl⟩ := h
  obtain ⟨r', h2, _, rfl⟩ := h'
  rw [h1.unique (Nat.mul_pos (by omega) (Nat.two_pow_pos _)) h2]
/-- Mean of a list of finite numbers. -/
theorem mean_fin {l : List Nat} {mode pn pi : Int} {bits : Nat} {e : Int} (h : meanR l mode pn pi bits e) (hm : 0 ≤ mode ∧ mode ≤ 4) (hs : siftE l pn pi = 0) (hv : verdP (cntP l) pn pi = none) (hf : filP l ≠ []) :
    e = 0 ∧ ((sumI (filP l) = 0 ∧ bits = noughtP (cntP l) mode) ∨ (sumI (filP l) ≠ 0 ∧ MeanQ (sumI (filP l)) (filP l).length mode bits)) := by
  have hl := (siftE_len hs).1
  have hfl := filP_le l
  have hin := sumI_in (l := filP l) (by omega)
  rcases h with ⟨hh, _⟩ | ⟨_, ⟨hh, _⟩ | ⟨_, ⟨hh, _⟩ | ⟨_, ⟨hh, _⟩ | ⟨_, hT⟩⟩⟩⟩
  · exact absurd hm hh
  · exact absurd hs hh
  · rw [hv] at hh; cases hh
  · exact absurd hh hf
  · exact told_sum hin.1 hin.2 (fun e => hf (List.length_eq_zero_iff.1 e)) (by omega) hm hT
/-- What a ratio of sums comes to. -/
theorem quo_sum {N W : Int} {mode : Int} {bits : Nat} {e : Int} (h1 : -((16384 * BB : Nat) : Int) < N) (h2 : N < (16384 * BB : Nat)) (h3 : 0 < W) (h4 : W < (16384 * BB : Nat)) (hm : 0 ≤ mode ∧ mode ≤ 4)
    (h : QuoD N W mode bits e) : e = 0 ∧ ∃ r, IsNear (N.natAbs * 2 ^ 1075) W.natAbs (decide (N < 0)) mode r ∧ r ≤ 9218868437227405312 ∧ bits = (if N < 0 then r + 9223372036854775808 else r) := by
  have hW : -((16384 * BB : Nat) : Int) < W := by omega
  have hokN := sumD_ok h1 h2
  have hokW := sumD_ok hW h4
  have hsg := sumD_sg hW h4
  rw [if_neg (by omega), if_neg (by omega)] at hsg
  have hm0 : (sumD W).m ≠ 0 := fun e => by have := (sumD_m0 hW h4).1 e; omega
  have hf1 := formD_self hokN
  have hf2 := formD_self hokW
  have hformW := sumD_form hW h4 (by omega)
  have htzW := (tz_spec (n := W.natAbs) (by omega)).2
  have hmW : W.natAbs = (sumD W).m * 2 ^ tz W.natAbs := by rw [hformW]; exact htzW
  have heW : (sumD W).e = -2148 + tz W.natAbs := by rw [hformW]
  unfold QuoD at h
  rcases h with ⟨hh, _⟩ | ⟨_, ⟨hh, _⟩ | ⟨_, hh, _⟩ | ⟨_, x, y, hx, hy, ⟨hh, _⟩ | ⟨hy0, r, hN, hr, hb, he⟩⟩⟩
  · exact absurd hm hh
  · rw [hsg] at hh; exact absurd hh (by decide)
  · rw [hf1, hf2] at hh; rcases hh with hh | hh <;> cases hh
  · rw [hf2] at hy; cases hy; exact absurd hh hm0
  · rw [hf1] at hx; cases hx
    rw [hf2] at hy; cases hy
    refine ⟨he, r, ?_, hr, ?_⟩
    · by_cases hN0 : N = 0
      · subst hN0
        have e1 : dyA (sumD 0).m ((sumD 0).e - (sumD W).e) = 0 := by unfold dyA; rw [sumD_zero]; simp [Dy.zero]
        rw [e1] at hN
        have : r = 0 := hN.unique (Nat.mul_pos (by omega) (dyB_pos _)) (near_zero (Nat.mul_pos (by omega) (dyB_pos _)) _ _)
        subst this
        simp only [Int.natAbs_zero, Nat.zero_mul]
        exact near_zero (by omega) _ _
      · have hform := sumD_form h1 h2 hN0
        have htz := (tz_spec (n := N.natAbs) (by omega)).2
        have hneg : (sumD N).neg = decide (N < 0) := by rw [hform]
        have hmN : N.natAbs = (sumD N).m * 2 ^ tz N.natAbs := by rw [hform]; exact htz
        have heN : (sumD N).e = -2148 + tz N.natAbs := by rw [hform]
        rw [hneg] at hN
        exact (near_forms (s := tz N.natAbs) (t := tz W.natAbs) (u := 1075) (v := 0) hy0 (A := N.natAbs * 2 ^ 1075) (B := W.natAbs) (by rw [← hmN]) (by rw [Nat.pow_zero, Nat.mul_one]; exact hmW) (by omega)).1 hN
    · rw [hb]
      by_cases hN0 : N = 0
      · subst hN0; rfl
      · rw [sumD_form h1 h2 hN0]
        by_cases q : N < 0
        · simp [q]
        · simp [q]
/-- A value that is the number r. -/
theorem near_is {A B : Nat} {neg : Bool} {mode : Int} {r : Nat} (hr : r < 9218868437227405312) (hB : 0 < B) (h : 2 * nz r * B = A) : IsNear A B neg mode r :=
  ⟨r, hr, Nat.le_of_eq h, .inl (by have := nz_lt_succ r; rw [← h]; exact Nat.mul_lt_mul_of_pos_right (by omega) hB), by rw [if_pos h]⟩
end Go.Proofs.YtkkklaodligpdaaDoor

/- The numbers that every statement on means asks first. No condition. -/
namespace Go.Proofs.YtkkklaodligpdaaDoor
open Go Sx Wd
set_option linter.unusedVariables false
set_option linter.unusedSimpArgs false
set_option exponentiation.threshold 9000

def lv1 : List Nat := [4607182418800017408, 4611686018427387904, 4618441417868443648]
def lv2 : List Nat := [4607182418800017408, 4611686018427387904]
def lv3 : List Nat := [4607182418800017408, 4613937818241073152]
theorem lv1_fil : filP lv1 = lv1 := by decide +kernel
theorem lv2_fil : filP lv2 = lv2 := by decide +kernel
theorem lv1_sum : sumI lv1 = (9 * 2 ^ 2148 : Nat) := by decide +kernel
theorem lv2_sum : sumI lv2 = (3 * 2 ^ 2148 : Nat) := by decide +kernel
theorem lv3_sum : sumI lv3 = (4 * 2 ^ 2148 : Nat) := by decide +kernel
theorem lv23_prod : sumP lv2 lv3 = (7 * 2 ^ 2148 : Nat) := by decide +kernel
theorem p2148 : (0 : Int) < ((2 ^ 2148 : Nat) : Int) := by have := Nat.two_pow_pos 2148; omega
theorem meanQ_of {S n r : Nat} {mode : Int} {bits : Nat} (hn : n ≠ 0) (hr : r < 9218868437227405312) (h : 2 * nz r * (n * 2 ^ 1073) = S) (hM : MeanQ (S : Int) n mode bits) : bits = r := by
  obtain ⟨r', h1, _, hb⟩ := hM
  rw [if_neg (by omega)] at hb
  rw [hb]
  rw [Int.natAbs_natCast] at h1
  exact h1.unique (Nat.mul_pos (by omega) (Nat.two_pow_pos _)) (near_is hr (Nat.mul_pos (by omega) (Nat.two_pow_pos _)) h)
theorem live_mean {bits : Nat} {e : Int} (h : meanR lv1 0 0 0 bits e) : bits = 4613937818241073152 ∧ e = 0 := by
  obtain ⟨he, hh⟩ := mean_fin h (by decide) (by decide +kernel) (by decide +kernel) (by rw [lv1_fil]; decide)
  rw [lv1_fil, lv1_sum] at hh
  rcases hh with ⟨hz, _⟩ | ⟨_, hM⟩
  · have := p2148; exact absurd hz (by rw [Int.natCast_mul]; omega)
  · exact ⟨meanQ_of (by decide) (by decide) (by decide +kernel) hM, he⟩
theorem live_mid {bits : Nat} {e : Int} (h : midR 4607182418800017408 4611686018427387904 0 bits e) : bits = 4609434218613702656 ∧ e = 0 := by
  rcases h with ⟨hh, _⟩ | ⟨_, ⟨hh, _⟩ | ⟨_, h⟩⟩
  · exact absurd (by decide) hh
  · exact absurd (by decide +kernel) hh
  obtain ⟨he, hh⟩ := mean_fin (l := lv2) h (by decide) (by decide +kernel) (by decide +kernel) (by rw [lv2_fil]; decide)
  rw [lv2_fil, lv2_sum] at hh
  rcases hh with ⟨hz, _⟩ | ⟨_, hM⟩
  · have := p2148; exact absurd hz (by rw [Int.natCast_mul]; omega)
  · exact ⟨meanQ_of (by decide) (by decide) (by decide +kernel) hM, he⟩
theorem lv_in {a : Nat} (h : a ≤ 16) : ((a * 2 ^ 2148 : Nat) : Int) < (16384 * BB : Nat) := by
  rw [BB_pow]
  have : a * 2 ^ 2148 < 2 ^ 4238 := by
    have h1 : a * 2 ^ 2148 ≤ 2 ^ 4 * 2 ^ 2148 := Nat.mul_le_mul_right _ h
    rw [← Nat.pow_add] at h1
    exact Nat.lt_of_le_of_lt h1 (Nat.pow_lt_pow_right (by decide) (by decide))
  omega
theorem live_wt {bits : Nat} {e : Int} (h : wtR lv2 lv3 0 bits e) : bits = 4610560118520545280 ∧ e = 0 := by
  have hp := p2148
  rcases h with ⟨hh, _⟩ | ⟨_, ⟨hh, _⟩ | ⟨_, ⟨hh, _⟩ | ⟨_, ⟨hh, _⟩ | ⟨_, ⟨hh, _⟩ | ⟨_, h⟩⟩⟩⟩⟩
  · exact absurd (by decide) hh
  · exact absurd hh (by decide)
  · exact absurd rfl hh
  · exact absurd (by decide +kernel) hh
  · cases hh
  rw [lv3_sum, lv23_prod, if_neg (by rw [Int.natCast_mul]; omega), if_neg (by rw [Int.natCast_mul]; omega)] at h
  have i7 := lv_in (a := 7) (by decide)
  have i4 := lv_in (a := 4) (by decide)
  obtain ⟨he, r, hN, hr, hb⟩ := quo_sum (by have := BB_pos; omega) i7 (by rw [Int.natCast_mul]; omega) i4 (by decide) h
  refine ⟨?_, he⟩
  rw [if_neg (by rw [Int.natCast_mul]; omega)] at hb
  rw [hb]
  rw [Int.natAbs_natCast, Int.natAbs_natCast] at hN
  have hB : 0 < 4 * 2 ^ 2148 := Nat.mul_pos (by decide) (Nat.two_pow_pos _)
  exact hN.unique hB (near_is (by decide) hB (by decide +kernel))
end Go.Proofs.YtkkklaodligpdaaDoor

/- Package steelyardlaw13: live, exact. No condition. -/
namespace Go.Proofs.YtkkklaodligpdaaDoor
open Go Sx Wd
set_option linter.unusedVariables false
set_option linter.unusedSimpArgs false
set_option exponentiation.threshold 5000

theorem exact_spec (x y : Nat) (w : World) : Ret Tryd.prog 8 [.float .f64 x, .float .f64 y] w fun u w' => u = .bool (decide (x = y)) ∧ w = w' := by
  refine Ret.enter Tryd.func8 rfl rfl ?_
  simp only [args0, Nat.zero_add, Nat.reduceAdd]
  refine CW.seq fun kK1 kh1 => ?_
  refine CW.region fun kR2 kr2 => ?_  -- region 0
  refine WL.ev (Ev.assign rfl) rfl ?_
  refine WL.nil (kr2 _ _ _ ?_)
  refine kh1 _ _ _ ?_
  refine CW.seq fun kK3 kh3 => ?_
  refine CW.region fun kR4 kr4 => ?_  -- region 1
  refine WL.ev (Ev.move rfl) rfl ?_
  refine WL.ev (Ev.ext rfl (ext19 _ _)) rfl ?_
  refine WL.ev (Ev.move rfl) rfl ?_
  refine WL.ev (Ev.ext rfl (ext19 _ _)) rfl ?_
  refine WL.ev (Ev.eql rfl rfl) rfl ?_
  refine WL.ev (Ev.assign rfl) rfl ?_
  refine WL.nil (kr4 _ _ _ ?_)
  refine kh3 _ _ _ ?_
  refine CW.ret ?_
  refine bodyA.ret1 rfl rfl ?_
  refine ⟨congrArg Value.bool (decide_eq_decide.2 (by omega)), rfl⟩

set_option maxRecDepth 8000 in
theorem live_spec (w : World) (hg : GW w) : Ret Tryd.prog 6 [] w fun u w' => u = .bool true ∧ Chg [] w w' := by
  have hch : Chg [] w w := Chg.refl _ _
  have hg0 := hg
  refine Ret.enter Tryd.func6 rfl rfl ?_
  simp only [args0, Nat.zero_add, Nat.reduceAdd]
  refine CW.seq fun kK1 kh1 => ?_
  refine CW.region fun kR2 kr2 => ?_  -- region 0
  refine WL.ev (Ev.assign rfl) rfl ?_
  refine WL.nil (kr2 _ _ _ ?_)
  refine kh1 _ _ _ ?_
  refine CW.seq fun kK3 kh3 => ?_
  refine CW.region fun kR4 kr4 => ?_  -- region 1
  refine WL.buildSlice (m := 3) (cs := [f64v (4607182418800017408), f64v (4611686018427387904), f64v (4618441417868443648)]) (by decide) (by decide) rfl (by kernel_rfl) rfl fun b8 w8 hn8 => ?_
  have hcm8 := hn8.chg
  have hge8 := hn8.ge
  have hb8 : FB w8 b8 _ [4607182418800017408, 4611686018427387904, 4618441417868443648] := hn8.at_
  have hgehch8 := Nat.le_trans hch.size hge8
  have hch := hch.trans (Chg.any hcm8)
  refine WL.ev (Ev.build (vs := _) (cs := [_, _]) rfl rfl) rfl ?_
  refine WL.call hasF7 rfl rfl (Mean_spec _ lv1 0 0 0 _ (NF.of_row hb8.row (by decide) (by decide) rfl (by decide)) (hg0.keep0 hch)) fun v w1 h' => ?_
  obtain ⟨⟨bits, e, rfl, hM⟩, hC10⟩ := h'
  obtain ⟨rfl, rfl⟩ := live_mean hM
  have hch := hch.trans (Chg.any hC10)
  have hb8 := hb8.keep0 hC10
  refine WL.ev (Ev.move rfl) rfl ?_
  refine WL.ev (Ev.extract rfl rfl) rfl ?_
  refine WL.ev (Ev.extract rfl rfl) rfl ?_
  refine WL.ev (Ev.assign rfl) rfl ?_
  refine WL.ev (Ev.assign rfl) rfl ?_
  refine WL.nil (kr4 _ _ _ ?_)
  refine kh3 _ _ _ ?_
  refine CW.seq fun kK5 kh5 => ?_
  refine CW.region fun kR6 kr6 => ?_  -- region 2
  refine WL.buildSlice (m := 2) (cs := [f64v (4607182418800017408), f64v (4611686018427387904)]) (by decide) (by decide) rfl (by kernel_rfl) rfl fun b14 w14 hn14 => ?_
  have hcm14 := hn14.chg
  have hge14 := hn14.ge
  have hb14 : FB w14 b14 _ [4607182418800017408, 4611686018427387904] := hn14.at_
  have hgehch14 := Nat.le_trans hch.size hge14
  have hch := hch.trans (Chg.any hcm14)
  have hneb814 : b8 ≠ b14 := by have := hb8.lt; omega
  have hb8 := hb8.keep0 hcm14
  refine WL.buildSlice (m := 2) (cs := [f64v (4607182418800017408), f64v (4613937818241073152)]) (by decide) (by decide) rfl (by kernel_rfl) rfl fun b15 w15 hn15 => ?_
  have hcm15 := hn15.chg
  have hge15 := hn15.ge
  have hb15 : FB w15 b15 _ [4607182418800017408, 4613937818241073152] := hn15.at_
  have hgehch15 := Nat.le_trans hch.size hge15
  have hch := hch.trans (Chg.any hcm15)
  have hneb815 : b8 ≠ b15 := by have := hb8.lt; omega
  have hb8 := hb8.keep0 hcm15
  have hneb1415 : b14 ≠ b15 := by have := hb14.lt; omega
  have hb14 := hb14.keep0 hcm15
  refine WL.call hasF10 rfl rfl (Weighted_spec _ _ lv2 lv3 0 _ (NF.of_row hb14.row (by decide) (by decide) rfl (by decide)) (NF.of_row hb15.row (by decide) (by decide) rfl (by decide)) (hg0.keep0 hch)) fun v w2 h' => ?_
  obtain ⟨⟨bits, e, rfl, hM⟩, hC16⟩ := h'
  obtain ⟨rfl, rfl⟩ := live_wt hM
  have hch := hch.trans (Chg.any hC16)
  have hb8 := hb8.keep0 hC16
  have hb14 := hb14.keep0 hC16
  have hb15 := hb15.keep0 hC16
  refine WL.ev (Ev.move rfl) rfl ?_
  refine WL.ev (Ev.extract rfl rfl) rfl ?_
  refine WL.ev (Ev.extract rfl rfl) rfl ?_
  refine WL.ev (Ev.assign rfl) rfl ?_
  refine WL.ev (Ev.assign rfl) rfl ?_
  refine WL.nil (kr6 _ _ _ ?_)
  refine kh5 _ _ _ ?_
  refine CW.seq fun kK7 kh7 => ?_
  refine CW.region fun kR8 kr8 => ?_  -- region 3
  refine WL.call hasF11 rfl rfl (Middle_spec _ _ 0 _ (by decide) (by decide) (hg0.keep0 hch)) fun v w3 h' => ?_
  obtain ⟨⟨bits, e, rfl, hM⟩, hC20⟩ := h'
  obtain ⟨rfl, rfl⟩ := live_mid hM
  have hch := hch.trans (Chg.any hC20)
  have hb8 := hb8.keep0 hC20
  have hb14 := hb14.keep0 hC20
  have hb15 := hb15.keep0 hC20
  refine WL.ev (Ev.move rfl) rfl ?_
  refine WL.ev (Ev.extract rfl rfl) rfl ?_
  refine WL.ev (Ev.extract rfl rfl) rfl ?_
  refine WL.ev (Ev.assign rfl) rfl ?_
  refine WL.ev (Ev.assign rfl) rfl ?_
  refine WL.nil (kr8 _ _ _ ?_)
  refine kh7 _ _ _ ?_
  refine CW.seq fun kK9 kh9 => ?_
  refine CW.region fun kR10 kr10 => ?_  -- region 4
  refine WL.ev (Ev.move rfl) rfl ?_
  refine WL.ev (Ev.eql rfl rfl) rfl ?_
  refine WL.ev (Ev.move rfl) rfl ?_
  refine WL.want rfl rfl rfl rfl ?_
  refine WL.ev (Ev.move rfl) rfl ?_
  refine WL.want rfl rfl rfl rfl ?_
  refine WL.ev (Ev.feql rfl rfl) rfl ?_
  rw [show (FloatKind.f64.format.order 4613937818241073152 4613937818241073152 == some .eq) = true by rw [Fl.order_self_eq]; decide]
  refine WL.ev (Ev.pickT rfl rfl rfl) rfl ?_
  refine WL.ev (Ev.move rfl) rfl ?_
  refine WL.want rfl rfl rfl rfl ?_
  refine WL.ev (Ev.move rfl) rfl ?_
  refine WL.want rfl rfl rfl rfl ?_
  refine WL.ev (Ev.eql rfl rfl) rfl ?_
  refine WL.ev (Ev.pickT rfl rfl rfl) rfl ?_
  refine WL.ev (Ev.move rfl) rfl ?_
  refine WL.want rfl rfl rfl rfl ?_
  refine WL.ev (Ev.move rfl) rfl ?_
  refine WL.want rfl rfl rfl rfl ?_
  refine WL.ev (Ev.feql rfl rfl) rfl ?_
  rw [show (FloatKind.f64.format.order 4610560118520545280 4610560118520545280 == some .eq) = true by rw [Fl.order_self_eq]; decide]
  refine WL.ev (Ev.pickT rfl rfl rfl) rfl ?_
  refine WL.ev (Ev.move rfl) rfl ?_
  refine WL.want rfl rfl rfl rfl ?_
  refine WL.ev (Ev.move rfl) rfl ?_
  refine WL.want rfl rfl rfl rfl ?_
  refine WL.ev (Ev.eql rfl rfl) rfl ?_
  refine WL.ev (Ev.pickT rfl rfl rfl) rfl ?_
  refine WL.ev (Ev.move rfl) rfl ?_
  refine WL.want rfl rfl rfl rfl ?_
  refine WL.ev (Ev.move rfl) rfl ?_
  refine WL.want rfl rfl rfl rfl ?_
  refine WL.ev (Ev.feql rfl rfl) rfl ?_
  rw [show (FloatKind.f64.format.order 4609434218613702656 4609434218613702656 == some .eq) = true by rw [Fl.order_self_eq]; decide]
  refine WL.ev (Ev.pickT rfl rfl rfl) rfl ?_
  refine WL.ev (Ev.assign rfl) rfl ?_
  refine WL.nil (kr10 _ _ _ ?_)
  refine kh9 _ _ _ ?_
  refine CW.ret ?_
  refine bodyA.ret1 rfl rfl ?_
  exact ⟨rfl, hch⟩

end Go.Proofs.YtkkklaodligpdaaDoor

/- Package steelyardlaw13: finite. No condition. -/
namespace Go.Proofs.YtkkklaodligpdaaDoor
open Go Sx Wd
set_option linter.unusedVariables false
set_option linter.unusedSimpArgs false
set_option exponentiation.threshold 5000

theorem GR.nf {w : World} {e : TypeId} {lo : Nat} {X : List Nat} {v : Value} {l : List Nat} (h : GR w e f64v lo X v l) (hw : ∀ x ∈ l, x < 18446744073709551616) (hl : l.length ≤ 70368744177664) : NF w v l := by
  obtain ⟨a, c, rfl, hc, hr⟩ := h.row
  exact ⟨⟨a, c, rfl, hc, hr⟩, hw, hl⟩
end Go.Proofs.YtkkklaodligpdaaDoor

/- The order of finite numbers, by their values; the least and the greatest of two. No condition. -/
namespace Go.Proofs.YtkkklaodligpdaaDoor
open Go Sx Wd
set_option linter.unusedVariables false
set_option linter.unusedSimpArgs false
set_option exponentiation.threshold 9000
set_option maxRecDepth 4000

theorem signed_val (s : Bool) (m k : Nat) : Ieee.signed s m k = if s then -((m * 2 ^ k : Nat) : Int) else ((m * 2 ^ k : Nat) : Int) := by
  unfold Ieee.signed
  rw [Nat.shiftLeft_eq]
theorem splitP_small {x : Nat} (h1 : x % 9223372036854775808 < 4503599627370496) : splitP x = if 0 < x % 4503599627370496 then ⟨decide (x / 9223372036854775808 % 2 = 1), 1, -1074, x % 4503599627370496⟩ else ⟨decide (x / 9223372036854775808 % 2 = 1), 0, -1074, 0⟩ := by
  have e : x / 4503599627370496 % 2048 = 0 := by omega
  unfold splitP
  rw [e, if_neg (fun hh => absurd hh.1 (by decide)), if_neg (by decide), if_neg (by decide)]
theorem splitP_norm {x : Nat} (h1 : ¬ x % 9223372036854775808 < 4503599627370496) (h2 : x % 9223372036854775808 < 9218868437227405312) : splitP x = ⟨decide (x / 9223372036854775808 % 2 = 1), 2, -1074 + ((x / 4503599627370496 % 2048 : Nat) : Int) - 1, x % 4503599627370496 + 4503599627370496⟩ := by
  have e : x / 4503599627370496 % 2048 ≠ 2047 := by omega
  have e2 : 0 < x / 4503599627370496 % 2048 := by omega
  unfold splitP
  rw [if_neg (fun hh => e hh.1), if_neg e, if_pos e2]
theorem read_fin {x : Nat} (h : (splitP x).cls ≤ 2) : ∃ (m p : Nat), Ieee.double.read x = .number (x / 9223372036854775808 % 2 == 1) m ((p : Int) - 1074) ∧ fvN x = m * 2 ^ (p + 1074) ∧ nz (x % 9223372036854775808) = m * 2 ^ p ∧ (splitP x).neg = decide (x / 9223372036854775808 % 2 = 1) := by
  have hr := (cls_le2 x).1 h
  have hlp : Ieee.double.leastPlace = -1074 := by decide
  unfold Ieee.Format.read
  simp only [Fl.double_sign, Fl.double_inf, Fl.double_bin, hlp]
  by_cases h1 : x % 9223372036854775808 < 4503599627370496
  · rw [if_pos h1]
    have hs := splitP_small h1
    refine ⟨x % 9223372036854775808, 0, rfl, ?_, ?_, ?_⟩
    · unfold fvN
      rw [hs]
      by_cases h2 : 0 < x % 4503599627370496
      · rw [if_pos h2]
        dsimp only
        rw [if_pos (.inl rfl), show x % 9223372036854775808 = x % 4503599627370496 by omega]
        rfl
      · rw [if_neg h2]
        dsimp only
        rw [if_neg (by decide), show x % 9223372036854775808 = 0 by omega, Nat.zero_mul]
    · unfold nz; rw [if_pos h1]; simp
    · rw [hs]; split <;> rfl
  · rw [if_neg h1, if_pos hr]
    have hs := splitP_norm h1 hr
    refine ⟨4503599627370496 + x % 9223372036854775808 % 4503599627370496, x % 9223372036854775808 / 4503599627370496 - 1, ?_, ?_, ?_, ?_⟩
    · rw [show (-1074 : Int) + ((x % 9223372036854775808 / 4503599627370496 - 1 : Nat) : Int) = ((x % 9223372036854775808 / 4503599627370496 - 1 : Nat) : Int) - 1074 by omega]
    · unfold fvN
      rw [hs]
      dsimp only
      rw [if_pos (.inr rfl), show x % 4503599627370496 + 4503599627370496 = 4503599627370496 + x % 9223372036854775808 % 4503599627370496 by omega, show (-1074 + ((x / 4503599627370496 % 2048 : Nat) : Int) - 1 + 2148).toNat = x % 9223372036854775808 / 4503599627370496 - 1 + 1074 by omega]
    · unfold nz; rw [if_neg h1]
    · rw [hs]
theorem cmp_scale {a b c : Int} (hc : 0 < c) : compare (a * c) (b * c) = compare a b := by
  show compareOfLessAndEq (a * c) (b * c) = compareOfLessAndEq a b
  unfold compareOfLessAndEq
  have h1 : a * c < b * c ↔ a < b := Int.mul_lt_mul_right hc
  have h2 : a * c = b * c ↔ a = b := ⟨fun h => Int.eq_of_mul_eq_mul_right (by omega) h, fun h => by rw [h]⟩
  by_cases q : a < b
  · rw [if_pos q, if_pos (h1.2 q)]
  · rw [if_neg q, if_neg (fun hh => q (h1.1 hh))]
    by_cases q2 : a = b
    · rw [if_pos q2, if_pos (h2.2 q2)]
    · rw [if_neg q2, if_neg (fun hh => q2 (h2.1 hh))]
theorem order_fin {x y : Nat} (hx : (splitP x).cls ≤ 2) (hy : (splitP y).cls ≤ 2) : FloatKind.f64.format.order x y = some (compare (fvI x) (fvI y)) := by
  obtain ⟨m, p, h1, h2, _, h4⟩ := read_fin hx
  obtain ⟨n, q, k1, k2, _, k4⟩ := read_fin hy
  show (Ieee.double.read x).order (Ieee.double.read y) = _
  rw [h1, k1]
  unfold Ieee.Datum.order
  dsimp only
  obtain ⟨b, hb⟩ : ∃ b : Nat, b = min p q := ⟨_, rfl⟩
  have e1 : ((p : Int) - 1074 - min ((p : Int) - 1074) ((q : Int) - 1074)).toNat = p - b := by omega
  have e2 : ((q : Int) - 1074 - min ((p : Int) - 1074) ((q : Int) - 1074)).toNat = q - b := by omega
  rw [e1, e2]
  have hc : (0 : Int) < ((2 ^ (b + 1074) : Nat) : Int) := by have := Nat.two_pow_pos (b + 1074); omega
  rw [← cmp_scale (a := Ieee.signed _ m _) (b := Ieee.signed _ n _) hc]
  have key : ∀ (s : Bool) (m p : Nat), b ≤ p → Ieee.signed s m (p - b) * ((2 ^ (b + 1074) : Nat) : Int) = if s = true then -((m * 2 ^ (p + 1074) : Nat) : Int) else ((m * 2 ^ (p + 1074) : Nat) : Int) := by
    intro s m p hbp
    have e : m * 2 ^ (p + 1074) = m * 2 ^ (p - b) * 2 ^ (b + 1074) := by
      rw [Nat.mul_assoc, ← Nat.pow_add]; congr 2; omega
    rw [signed_val, e]
    cases s
    · simp only [Bool.false_eq_true, if_false]; rw [← Int.natCast_mul]
    · simp only [if_true]; rw [Int.neg_mul, ← Int.natCast_mul]
  rw [key _ _ _ (by omega), key _ _ _ (by omega)]
  unfold fvI
  rw [h2, k2, h4, k4]
  have e5 : ∀ z : Nat, ((z / 9223372036854775808 % 2 == 1) = true) ↔ (decide (z / 9223372036854775808 % 2 = 1) = true) := fun z => by simp
  simp only [e5]
section
variable {P : Program} {s : Sl} {w : World} {ty : TypeId} {x y : Operand} {t t' : TypeId} {a b : Nat}
end
end Go.Proofs.YtkkklaodligpdaaDoor

/- Means of finite numbers: from the least to the greatest; of like numbers; signs turned. No condition. -/
namespace Go.Proofs.YtkkklaodligpdaaDoor
open Go Sx Wd
set_option linter.unusedVariables false
set_option linter.unusedSimpArgs false
set_option exponentiation.threshold 9000

theorem kind_fin (x : Nat) : kindP x ≤ 2 ↔ (splitP x).cls ≤ 2 := by
  have := splitP_cls x
  unfold kindP
  split
  · omega
  · split
    · omega
    · split
      · omega
      · split
        · omega
        · split <;> omega
theorem nought_two (s : SP) (mode : Int) : noughtP s mode = 0 ∨ noughtP s mode = 9223372036854775808 := by
  unfold noughtP
  split
  · exact .inr rfl
  · exact .inl rfl
theorem fv_zero : fvI 0 = 0 ∧ fvI 9223372036854775808 = 0 ∧ (splitP 0).cls = 0 ∧ (splitP 9223372036854775808).cls = 0 := by decide +kernel
end Go.Proofs.YtkkklaodligpdaaDoor

/- Means where signs are turned. No condition. -/
namespace Go.Proofs.YtkkklaodligpdaaDoor
open Go Sx Wd
set_option linter.unusedVariables false
set_option linter.unusedSimpArgs false
set_option exponentiation.threshold 9000

/-- A number's bits with the other sign. -/
def ngB (x : Nat) : Nat := if x < 9223372036854775808 then x + 9223372036854775808 else x - 9223372036854775808
theorem negFloat_eq {x : Nat} (h : x < 18446744073709551616) : Op.negFloat .f64 x = ngB x := by
  unfold ngB
  by_cases q : x < 9223372036854775808
  · rw [if_pos q]; exact negF q
  · rw [if_neg q]
    have e := negF (x := x - 9223372036854775808) (by omega)
    rw [show x - 9223372036854775808 + 9223372036854775808 = x by omega] at e
    have e' : (x - 9223372036854775808) ^^^ 2 ^ 63 = x := e
    show x ^^^ 2 ^ 63 = _
    calc x ^^^ 2 ^ 63 = ((x - 9223372036854775808) ^^^ 2 ^ 63) ^^^ 2 ^ 63 := by rw [e']
      _ = x - 9223372036854775808 := by rw [Nat.xor_assoc, Nat.xor_self, Nat.xor_zero]
theorem ngB_lt {x : Nat} (h : x < 18446744073709551616) : ngB x < 18446744073709551616 := by unfold ngB; split <;> omega
theorem ngB_ngB {x : Nat} (h : x < 18446744073709551616) : ngB (ngB x) = x := by unfold ngB; split <;> split <;> omega
theorem split_ng {x : Nat} (h : x < 18446744073709551616) : (splitP (ngB x)).cls = (splitP x).cls ∧ (splitP (ngB x)).frac = (splitP x).frac ∧ (splitP (ngB x)).exp = (splitP x).exp ∧ ((splitP x).cls ≠ 4 → (splitP (ngB x)).neg = !(splitP x).neg) := by
  have e1 : ngB x / 4503599627370496 % 2048 = x / 4503599627370496 % 2048 := by unfold ngB; split <;> omega
  have e2 : ngB x % 4503599627370496 = x % 4503599627370496 := by unfold ngB; split <;> omega
  have e3 : decide (ngB x / 9223372036854775808 % 2 = 1) = !decide (x / 9223372036854775808 % 2 = 1) := by
    rw [← decide_not]; refine decide_eq_decide.2 ?_
    unfold ngB; split <;> omega
  unfold splitP
  rw [e1, e2, e3]
  split
  · exact ⟨rfl, rfl, rfl, fun q => absurd rfl q⟩
  · split
    · exact ⟨rfl, rfl, rfl, fun _ => rfl⟩
    · split
      · exact ⟨rfl, rfl, rfl, fun _ => rfl⟩
      · split <;> exact ⟨rfl, rfl, rfl, fun _ => rfl⟩
theorem fvI_ng {x : Nat} (h : x < 18446744073709551616) : fvI (ngB x) = - fvI x := by
  obtain ⟨h1, h2, h3, h4⟩ := split_ng h
  have e : fvN (ngB x) = fvN x := by unfold fvN; rw [h1, h2, h3]
  by_cases q : (splitP x).cls = 4
  · have e0 : fvN x = 0 := by unfold fvN; rw [if_neg (by omega)]
    unfold fvI; rw [e, e0]; simp
  · unfold fvI
    rw [e, h4 q]
    cases (splitP x).neg <;> simp
def swK (k : Nat) : Nat := if k = 1 then 2 else if k = 2 then 1 else if k = 3 then 4 else if k = 4 then 3 else k
theorem kind_ng {x : Nat} (h : x < 18446744073709551616) : kindP (ngB x) = swK (kindP x) := by
  obtain ⟨h1, h2, h3, h4⟩ := split_ng h
  unfold kindP
  rw [h1]
  by_cases c4 : (splitP x).cls = 4
  · rw [if_pos c4, if_pos c4]; rfl
  · rw [if_neg c4, if_neg c4, h4 c4]
    by_cases c3 : (splitP x).cls = 3
    · cases (splitP x).neg <;> simp [c3, swK]
    · by_cases c0 : (splitP x).cls = 0
      · cases (splitP x).neg <;> simp [c0, swK]
      · simp [c3, c0, swK]
def swP (s : SP) : SP := ⟨s.na, s.dn, s.up, s.pl, s.mi, s.al⟩
theorem count_sw (s : SP) (k : Nat) : countP (swP s) (swK k) = swP (countP s k) := by
  unfold countP swP swK
  by_cases k1 : k = 1
  · subst k1; simp
  by_cases k2 : k = 2
  · subst k2; simp
  by_cases k3 : k = 3
  · subst k3; simp
  by_cases k4 : k = 4
  · subst k4; simp
  simp [k1, k2, k3, k4]
theorem cnt_sw : ∀ (l : List Nat) (s : SP), (∀ x ∈ l, x < 18446744073709551616) → (l.map ngB).foldl (fun s x => countP s (kindP x)) (swP s) = swP (l.foldl (fun s x => countP s (kindP x)) s)
  | [], s, _ => rfl
  | x :: l, s, h => by
    rw [List.map_cons, List.foldl_cons, List.foldl_cons, kind_ng (h x (List.mem_cons_self ..)), count_sw]
    exact cnt_sw l _ fun z hz => h z (List.mem_cons_of_mem _ hz)
theorem cntP_ng {l : List Nat} (h : ∀ x ∈ l, x < 18446744073709551616) : cntP (l.map ngB) = swP (cntP l) := cnt_sw l SP.zero h
theorem sift_ng {l : List Nat} {pn pi : Int} (h : ∀ x ∈ l, x < 18446744073709551616) : siftE (l.map ngB) pn pi = siftE l pn pi := by
  unfold siftE
  rw [cntP_ng h, List.length_map]
  have e : (swP (cntP l)).up + (swP (cntP l)).dn = (cntP l).up + (cntP l).dn := by unfold swP; dsimp only; omega
  rw [e]; rfl
theorem fil_ng {l : List Nat} (h : ∀ x ∈ l, x < 18446744073709551616) : filP (l.map ngB) = (filP l).map ngB := by
  unfold filP
  rw [List.filter_map]
  congr 1
  refine List.filter_congr fun x hx => ?_
  unfold Function.comp finP
  refine decide_eq_decide.2 ?_
  rw [kind_fin, kind_fin, (split_ng (h x hx)).1]
theorem sum_ng : ∀ {l : List Nat}, (∀ x ∈ l, x < 18446744073709551616) → sumI (l.map ngB) = - sumI l
  | [], _ => by simp [sumI]
  | x :: l, h => by
    have h1 := sum_ng (l := l) fun z hz => h z (List.mem_cons_of_mem _ hz)
    have e : ∀ (y : Nat) (k : List Nat), sumI (y :: k) = fvI y + sumI k := fun y k => by simp [sumI]
    rw [List.map_cons, e, e, h1, fvI_ng (h x (List.mem_cons_self ..))]
    omega
def backM (mode : Int) : Int := if mode = 2 then 3 else if mode = 3 then 2 else mode
theorem near_back {A B : Nat} {neg : Bool} {mode : Int} {r : Nat} (h : IsNear A B neg mode r) : IsNear A B (!neg) (backM mode) r := by
  obtain ⟨k, h1, h2, h3, rfl⟩ := h
  refine ⟨k, h1, h2, h3, ?_⟩
  have e : ∀ M, upM mode neg k A M = upM (backM mode) (!neg) k A M := fun M => by
    unfold upM backM
    by_cases m0 : mode = 0
    · subst m0; simp
    by_cases m2 : mode = 2
    · subst m2; simp
    by_cases m3 : mode = 3
    · subst m3; simp
    simp [m0, m2, m3]
  rw [e]
theorem verd_ng {s : SP} {pn pi : Int} : verdP (swP s) pn pi = (verdP s pn pi).map fun b => if b = 9221120237041090560 then b else ngB b := by
  unfold verdP
  have hm : mayBeP (swP s) ↔ mayBeP s := by unfold mayBeP swP; dsimp only; omega
  simp only [hm]
  by_cases c1 : ¬ mayBeP s ∨ ¬ mayQ pn pi
  · rw [if_pos c1, if_pos c1]; rfl
  · rw [if_neg c1, if_neg c1]
    have e1 : (0 < (swP s).na ∧ pn = 0 ∨ 0 < (swP s).up ∧ 0 < (swP s).dn ∧ pi = 0) ↔ (0 < s.na ∧ pn = 0 ∨ 0 < s.up ∧ 0 < s.dn ∧ pi = 0) := by unfold swP; dsimp only; omega
    by_cases c2 : 0 < s.na ∧ pn = 0 ∨ 0 < s.up ∧ 0 < s.dn ∧ pi = 0
    · rw [if_pos (e1.2 c2), if_pos c2]; rfl
    · rw [if_neg (fun q => c2 (e1.1 q)), if_neg c2]
      by_cases u : 0 < s.up ∧ pi = 0
      · rw [if_pos u, if_neg (fun q => c2 (.inr ⟨u.1, q.1, q.2⟩)), if_pos (show 0 < (swP s).dn ∧ pi = 0 from u)]; rfl
      · rw [if_neg u]
        by_cases d : 0 < s.dn ∧ pi = 0
        · rw [if_pos d, if_pos (show 0 < (swP s).up ∧ pi = 0 from d)]; rfl
        · rw [if_neg d, if_neg (show ¬ (0 < (swP s).up ∧ pi = 0) from d), if_neg (show ¬ (0 < (swP s).dn ∧ pi = 0) from u)]; rfl
theorem verd_val {s : SP} {pn pi : Int} {b : Nat} (h : verdP s pn pi = some b) : b = 9221120237041090560 ∨ b = 9218868437227405312 ∨ b = 18442240474082181120 := by
  unfold verdP at h
  split at h
  · cases h
  · split at h
    · cases h; exact .inl rfl
    · split at h
      · cases h; exact .inr (.inl rfl)
      · split at h
        · cases h; exact .inr (.inr rfl)
        · cases h
theorem quotP_lt {nn nd : Bool} {ln ld : Nat} {en ed mode : Int} {bits : Nat} {e : Int} (h : QuotP nn nd ln ld en ed mode bits e) : bits < 18446744073709551616 := by
  rcases h with ⟨_, rfl, _⟩ | ⟨_, ⟨_, rfl, _⟩ | ⟨_, _, rfl, _⟩ | ⟨_, x, y, _, _, ⟨_, rfl, _⟩ | ⟨_, r, _, hr, hb, _⟩⟩⟩
  · decide
  · decide
  · decide
  · decide
  · rw [hb]; split <;> omega
theorem nought_lt (s : SP) (mode : Int) : noughtP s mode < 18446744073709551616 := by
  rcases nought_two s mode with q | q <;> rw [q] <;> decide
theorem meanR_lt {l : List Nat} {mode pn pi : Int} {bits : Nat} {e : Int} (h : meanR l mode pn pi bits e) : bits < 18446744073709551616 := by
  rcases h with ⟨_, rfl, _⟩ | ⟨_, ⟨_, rfl, _⟩ | ⟨_, ⟨v, _⟩ | ⟨_, ⟨_, rfl, _⟩ | ⟨_, ⟨_, hb, _⟩ | ⟨_, hq⟩⟩⟩⟩⟩
  · decide
  · decide
  · rcases verd_val v with q | q | q <;> subst q <;> decide
  · decide
  · rw [hb]; exact nought_lt _ _
  · exact quotP_lt hq
/-- What two means are whose signs and modes are turned. -/
theorem mean_turned {l : List Nat} {mode pn pi : Int} {x y : Nat} {e f : Int} (hl : ∀ z ∈ l, z < 18446744073709551616) (h : meanR l mode pn pi x e) (h' : meanR (l.map ngB) (backM mode) pn pi y f) :
    e = f ∧ (x < 18446744073709551616) ∧ ((e ≠ 0 ∨ Fl.isNaN x = true) → x = y) ∧ (e = 0 ∧ Fl.isNaN x = false → x = ngB y ∨ ((x = 0 ∨ x = 9223372036854775808) ∧ (y = 0 ∨ y = 9223372036854775808))) := by
  have hb : (0 ≤ backM mode ∧ backM mode ≤ 4) ↔ (0 ≤ mode ∧ mode ≤ 4) := by unfold backM; split <;> (try split) <;> omega
  have hs := sift_ng (pn := pn) (pi := pi) hl
  have hv := verd_ng (s := cntP l) (pn := pn) (pi := pi)
  have hf := fil_ng hl
  rcases h with ⟨m, hx, he⟩ | ⟨m, ⟨s, hx, he⟩ | ⟨s, ⟨v, he⟩ | ⟨v, ⟨n, hx, he⟩ | ⟨n, hT⟩⟩⟩⟩
  · rcases h' with ⟨m', hy, hf'⟩ | ⟨m', _⟩
    · subst hx; subst hy; subst he; subst hf'
      exact ⟨rfl, by decide, fun _ => rfl, fun q => absurd q.1 (by decide)⟩
    · exact absurd (hb.1 m') m
  · rcases h' with ⟨m', _⟩ | ⟨_, ⟨s', hy, hf'⟩ | ⟨s', _⟩⟩
    · exact absurd (hb.2 m) m'
    · subst hx; subst hy
      rw [hs] at hf'
      exact ⟨by rw [he, hf'], by decide, fun _ => rfl, fun q => absurd (he ▸ q.1) s⟩
    · rw [hs] at s'; exact absurd s' s
  · rcases h' with ⟨m', _⟩ | ⟨_, ⟨s', _⟩ | ⟨_, ⟨v', hf'⟩ | ⟨v', _⟩⟩⟩
    · exact absurd (hb.2 m) m'
    · rw [hs] at s'; exact absurd s s'
    · rw [cntP_ng hl, hv, v, Option.map_some] at v'
      have hyy := Option.some.inj v'
      subst he; subst hf'
      rcases verd_val v with q | q | q
      · subst q
        rw [if_pos rfl] at hyy
        exact ⟨rfl, by decide, fun _ => hyy, fun z => absurd z.2 (by decide)⟩
      · subst q
        rw [if_neg (by decide)] at hyy
        refine ⟨rfl, by decide, fun z => ?_, fun _ => .inl ?_⟩
        · rcases z with z | z
          · exact absurd rfl z
          · exact absurd z (by decide)
        · rw [← hyy, ngB_ngB (by decide)]
      · subst q
        rw [if_neg (by decide)] at hyy
        refine ⟨rfl, by decide, fun z => ?_, fun _ => .inl ?_⟩
        · rcases z with z | z
          · exact absurd rfl z
          · exact absurd z (by decide)
        · rw [← hyy, ngB_ngB (by decide)]
    · rw [cntP_ng hl, hv, v] at v'; cases v'
  · rcases h' with ⟨m', _⟩ | ⟨_, ⟨s', _⟩ | ⟨_, ⟨v', hf'⟩ | ⟨v', ⟨_, hy, hf'⟩ | ⟨n', _⟩⟩⟩⟩
    · exact absurd (hb.2 m) m'
    · rw [hs] at s'; exact absurd s s'
    · rw [cntP_ng hl, hv, v] at v'; cases v'
    · subst hx; subst hy; subst he; subst hf'
      exact ⟨rfl, by decide, fun _ => rfl, fun q => absurd q.1 (by decide)⟩
    · rw [hf, n] at n'; exact absurd rfl n'
  · rcases h' with ⟨m', _⟩ | ⟨_, ⟨s', _⟩ | ⟨_, ⟨v', hf'⟩ | ⟨v', ⟨n', _⟩ | ⟨_, hT'⟩⟩⟩⟩
    · exact absurd (hb.2 m) m'
    · rw [hs] at s'; exact absurd s s'
    · rw [cntP_ng hl, hv, v] at v'; cases v'
    · rw [hf] at n'; exact absurd (List.map_eq_nil_iff.1 n') n
    · have hll := (siftE_len s).1
      have hfl := filP_le l
      have hin := sumI_in (l := filP l) (by omega)
      have hlf : ∀ z ∈ filP l, z < 18446744073709551616 := fun z hz => hl z (List.mem_filter.1 hz).1
      have hn0 : (filP l).length ≠ 0 := fun q => n (List.length_eq_zero_iff.1 q)
      rw [hf, sum_ng hlf, List.length_map] at hT'
      obtain ⟨e1, c1⟩ := told_sum hin.1 hin.2 hn0 (by omega) m hT
      obtain ⟨f1, c2⟩ := told_sum (S := -sumI (filP l)) (by omega) (by omega) hn0 (by omega) (hb.2 m) hT'
      have small : ∀ b : Nat, b = 0 ∨ b = 9223372036854775808 → b < 18446744073709551616 ∧ Fl.isNaN b = false := fun b hb => by rcases hb with q | q <;> subst q <;> decide
      refine ⟨by rw [e1, f1], ?_⟩
      rcases c1 with ⟨z, hx⟩ | ⟨z, hx⟩
      · rcases c2 with ⟨_, hy⟩ | ⟨z', _⟩
        · have nx := nought_two (cntP l) mode
          have ny := nought_two (cntP (l.map ngB)) (backM mode)
          rw [← hx] at nx
          rw [← hy] at ny
          obtain ⟨a, b⟩ := small x nx
          refine ⟨a, fun q => ?_, fun _ => .inr ⟨nx, ny⟩⟩
          rcases q with q | q
          · exact absurd e1 q
          · rw [b] at q; cases q
        · omega
      · rcases c2 with ⟨z', _⟩ | ⟨_, hy⟩
        · omega
        · obtain ⟨r, hN, hr, hxb⟩ := hx
          obtain ⟨r', hN', hr', hyb⟩ := hy
          have hB : 0 < (filP l).length * 2 ^ 1073 := Nat.mul_pos (by omega) (Nat.two_pow_pos _)
          have hN2 := near_back hN
          rw [Int.natAbs_neg] at hN'
          have hd : decide (-sumI (filP l) < 0) = !decide (sumI (filP l) < 0) := by rw [← decide_not]; exact decide_eq_decide.2 (by omega)
          rw [hd] at hN'
          have hrr := hN2.unique hB hN'
          subst hrr
          have hxl : x < 18446744073709551616 := by rw [hxb]; split <;> omega
          have hxn : Fl.isNaN x = false := by
            unfold Fl.isNaN
            rw [hxb]
            refine decide_eq_false ?_
            split <;> omega
          refine ⟨hxl, fun q => ?_, fun _ => .inl ?_⟩
          · rcases q with q | q
            · exact absurd e1 q
            · rw [hxn] at q; cases q
          · rw [hxb, hyb]
            by_cases q : sumI (filP l) < 0
            · rw [if_pos q, if_neg (by omega)]; unfold ngB; rw [if_pos (by omega)]
            · rw [if_neg q, if_pos (by omega)]; unfold ngB; rw [if_neg (by omega)]; omega
end Go.Proofs.YtkkklaodligpdaaDoor

/- Package steelyardlaw13: MeanTurned. No condition. -/
namespace Go.Proofs.YtkkklaodligpdaaDoor
open Go Sx Wd
set_option linter.unusedVariables false
set_option linter.unusedSimpArgs false
set_option exponentiation.threshold 5000

structure KTu (l : List Nat) (pn pi : Int) (b5 : Nat) (w0 : World) (g : Nat × Value) (w : World) : Prop where
  hi : g.1 ≤ l.length
  gr : GR w 24 f64v w0.heap.size [b5] g.2 ((l.take g.1).map ngB)
  h5 : BK w b5 29 [.int .i64 pn, .int .i64 pi]
  ch : Chg [] w0 w
theorem ng_snoc {l : List Nat} {i : Nat} (h : i < l.length) : (l.take i).map ngB ++ [ngB (l.getD i 0)] = (l.take (i + 1)).map ngB := by
  rw [take_step h, List.map_append]; rfl
theorem zero_eq {x y : Nat} (hx : x = 0 ∨ x = 9223372036854775808) (hy : y = 0 ∨ y = 9223372036854775808) : (FloatKind.f64.format.order x (ngB y) == some .eq) = true := by
  obtain ⟨z1, z2, z3, z4⟩ := fv_zero
  have key : ∀ z, z = 0 ∨ z = 9223372036854775808 → (splitP z).cls ≤ 2 ∧ fvI z = 0 := fun z hz => by rcases hz with q | q <;> subst q <;> simp [z1, z2, z3, z4]
  have hy2 : ngB y = 0 ∨ ngB y = 9223372036854775808 := by rcases hy with q | q <;> subst q <;> decide
  rw [order_fin (key x hx).1 (key _ hy2).1, Fl.cmp_eq, (key x hx).2, (key _ hy2).2]; rfl

set_option maxRecDepth 8000 in
set_option maxHeartbeats 2000000 in
theorem MeanTurned_spec (v : Value) (l : List Nat) (mode pn pi : Int) (w : World) (hg : GW w) (hvl : NF w v l ∧ l.length ≤ 17592186044415) (hmb : -9223372036854775808 ≤ mode ∧ mode ≤ 9223372036854775807) : Ret Tryd.prog 5 [v, .int .i64 mode, .agg [.int .i64 pn, .int .i64 pi].toArray] w fun u w' => u = .bool true ∧ Chg [] w w' := by
  have hv := hvl.1
  have hv0 := hv
  obtain ⟨⟨al, cl, rfl, hcap, hrl⟩, hWl, hll⟩ := hv
  have hch : Chg [] w w := Chg.refl _ _
  have hg0 := hg
  refine Ret.enter Tryd.func5 rfl rfl ?_
  simp only [args0, Nat.zero_add, Nat.reduceAdd]
  refine CW.seq fun kK1 kh1 => ?_
  refine CW.region fun kR2 kr2 => ?_  -- region 0
  refine WL.boxB rfl rfl rfl fun b5 wm5 hb5 hcm5 hge5 => ?_
  have hgehch5 := Nat.le_trans hch.size hge5
  have hch := hch.trans (Chg.any hcm5)
  refine WL.ev (Ev.assign rfl) rfl ?_
  refine WL.nil (kr2 _ _ _ ?_)
  refine kh1 _ _ _ ?_
  refine CW.seq fun kK3 kh3 => ?_
  refine CW.region fun kR4 kr4 => ?_  -- region 1
  refine WL.call hasF6 rfl rfl (live_spec _ (hg0.keep0 hch)) fun v w1 h' => ?_
  obtain ⟨rfl, hC15⟩ := h'
  have hch := hch.trans (Chg.any hC15)
  have hb5 := hb5.keep0 hC15
  refine WL.ev (Ev.assign rfl) rfl ?_
  refine WL.nil (kr4 _ _ _ ?_)
  refine kh3 _ _ _ ?_
  refine CW.seqJ (fun D' s' w' => D' = [] ∧ ∃ k, k = (l.take 1000).length ∧ BK w' b5 29 [.int .i64 pn, .int .i64 pi] ∧ Chg [] w w' ∧ Subs [(0, .slice al k cl), (1, .int .i64 mode), (5, .pointer (some ⟨b5, 0, none⟩)), (7, .bool true)] s') ?_ ?_
  ·
    refine CW.seq fun kK6 kh6 => ?_
    refine CW.region fun kR7 kr7 => ?_  -- region 2
    refine WL.ev (Ev.move rfl) rfl ?_
    refine WL.ev (Ev.len rfl) rfl ?_
    refine WL.ev (Ev.gtr rfl rfl) rfl ?_
    refine WL.nil (kr7 _ _ _ ?_)
    refine kh6 _ _ _ ?_
    refine CW.cond rfl (fun hc1 => ?_) (fun hc1 => ?_)  -- if 18
    ·
      try simp only [decide_eq_true_eq, decide_eq_false_iff_not, Decidable.not_not, Bool.and_eq_true, Bool.or_eq_true, Bool.not_eq_true', Bool.not_eq_false', ne_eq, Int.not_lt, Int.not_le] at hc1
      refine CW.region fun kR8 kr8 => ?_  -- region 3
      refine WL.ev (Ev.move rfl) rfl ?_
      refine WL.ev (Ev.sliceHn (1000) rfl rfl (by omega) (by omega)) rfl ?_
      refine WL.ev (Ev.assign rfl) rfl ?_
      refine WL.nil (kr8 _ _ _ ?_)
      exact ⟨rfl, 1000, by rw [List.length_take]; omega, hb5, hch, (by repeat (first | exact Subs.nil | refine Subs.cons rfl ?_))⟩
    ·
      try simp only [decide_eq_true_eq, decide_eq_false_iff_not, Decidable.not_not, Bool.and_eq_true, Bool.or_eq_true, Bool.not_eq_true', Bool.not_eq_false', ne_eq, Int.not_lt, Int.not_le] at hc1
      refine CW.skip ?_
      exact ⟨rfl, l.length, by rw [List.length_take]; omega, hb5, hch, (by repeat (first | exact Subs.nil | refine Subs.cons rfl ?_))⟩
  ·
    rintro _ s' wJ ⟨rfl, k, hk, hb5, hch, hsub⟩
    refine CW.sub hsub ?_
    obtain ⟨L, hL⟩ : ∃ L, L = l.take 1000 := ⟨_, rfl⟩
    rw [← hL] at hk
    subst hk
    have hrL : RW w al (L.map f64v) := by rw [hL, List.map_take]; exact hrl.take 1000
    have hWL : ∀ x ∈ L, x < 18446744073709551616 := fun x hx => hWl x (by rw [hL] at hx; exact List.mem_of_mem_take hx)
    have hLl : L.length ≤ 1000 := by rw [hL, List.length_take]; omega
    have hLc : L.length ≤ cl := by rw [hL, List.length_take]; omega
    refine CW.seq fun kK9 kh9 => ?_
    refine CW.region fun kR10 kr10 => ?_  -- region 4
    refine WL.ev (Ev.assign rfl) rfl ?_
    refine WL.nil (kr10 _ _ _ ?_)
    refine kh9 _ _ _ ?_
    refine CW.seq fun kK11 kh11 => ?_
    refine CW.seq fun kK12 kh12 => ?_
    refine CW.region fun kR13 kr13 => ?_  -- region 5
    refine WL.ev (Ev.assign rfl) rfl ?_
    refine WL.nil (kr13 _ _ _ ?_)
    refine kh12 _ _ _ ?_
    refine CW.block ?_
    refine CW.loop (S := fun g : Nat × Value => [(0, .slice al L.length cl), (1, .int .i64 mode), (5, .pointer (some ⟨b5, 0, none⟩)), (7, .bool true), (8, g.2), (9, .int .i64 (g.1 : Int))]) (Inv := KTu L pn pi b5 w) (mu := fun g => L.length - g.1) ((0, .slice none 0 0)) ?_ ?_ ?_
    ·
      exact ⟨Nat.zero_le _, GR.nil, hb5, hch⟩
    ·
      repeat (first | exact Subs.nil | refine Subs.cons rfl ?_ | refine Subs.consI rfl (by omega) ?_)
    ·
      rintro ⟨i, vo⟩ wr ⟨hi, hgr, hb5, hch⟩
      dsimp only at hi hgr hb5 hch
      dsimp only
      have hxi := D_getD hWL i
      have hml : ((L.take i).map ngB).length = i := by rw [List.length_map, List.length_take]; omega
      refine CW.seq fun kK14 kh14 => ?_
      refine CW.seq fun kK15 kh15 => ?_
      refine CW.region fun kR16 kr16 => ?_  -- region 6
      refine WL.ev (Ev.move rfl) rfl ?_
      refine WL.ev (Ev.move rfl) rfl ?_
      refine WL.ev (Ev.len rfl) rfl ?_
      refine WL.ev (Ev.lss rfl rfl) rfl ?_
      refine WL.nil (kr16 _ _ _ ?_)
      refine kh15 _ _ _ ?_
      refine CW.cond rfl (fun hc2 => ?_) (fun hc2 => ?_)  -- if 24
      ·
        try simp only [decide_eq_true_eq, decide_eq_false_iff_not, Decidable.not_not, Bool.and_eq_true, Bool.or_eq_true, Bool.not_eq_true', Bool.not_eq_false', ne_eq, Int.not_lt, Int.not_le] at hc2
        refine CW.skip ?_
        refine kh14 _ _ _ ?_
        refine CW.seq fun kK17 kh17 => ?_
        refine CW.block ?_
        refine CW.region fun kR18 kr18 => ?_  -- region 8
        refine WL.ev (Ev.move rfl) rfl ?_
        refine WL.ev (Ev.move rfl) rfl ?_
        refine WL.ev (Ev.move rfl) rfl ?_
        refine WL.ev (Ev.ixR (i) rfl rfl (hrL.keep0 hch) (by omega) (by omega) (by simp; omega)) rfl ?_
        refine WL.ev (Ev.load rfl rfl ((hrL.keep0 hch).f64 (by first | omega | (simp; omega)))) rfl ?_
        refine WL.ev (Ev.fneg rfl) rfl ?_
        rw [negFloat_eq hxi]
        refine WL.buildSlice (m := 1) (cs := [f64v (ngB (L.getD i 0))]) (by decide) (by decide) rfl (by kernel_rfl) rfl fun b33 w33 hn33 => ?_
        have hcm33 := hn33.chg
        have hge33 := hn33.ge
        have hb33 : FB w33 b33 _ [ngB (L.getD i 0)] := hn33.at_
        have hgehch33 := Nat.le_trans hch.size hge33
        have hch := hch.trans (Chg.any hcm33)
        have hneb533 : b5 ≠ b33 := by have := hb5.lt; omega
        have hb5 := hb5.keep0 hcm33
        have hgr := hgr.keep0 hcm33
        refine WL.growR (f := f64v) (lo := w.heap.size) (X := [b5]) (l := (L.take i).map ngB) (news := [ngB (L.getD i 0)]) (by rfl) (fun i => rfl) rfl rfl hgr (by first | rfl | (simp; done) | (simp; omega) | omega) hb33.row (by first | omega | exact hch.size | exact Nat.le_refl _) (by intro y hy; simp only [List.mem_singleton] at hy; subst hy; exact hb5.lt) (by simp only [List.length_append, List.length_cons, List.length_nil]; omega) (by simp only [List.length_append, List.length_cons, List.length_nil]; omega) rfl fun v34 w34 hg34 hcg34 => ?_
        have hch := GR.frame hgr hcg34 hch (by first | omega | exact Nat.le_refl _)
        have hb5 := hb5.keep hcg34 (hgr.notin (by first | exact .inl (by simp) | exact .inr (by omega)))
        have hgr := hg34
        rw [show ((L.take i).map ngB ++ [ngB (L.getD i 0)]) = (L.take (i + 1)).map ngB from by exact ng_snoc (by omega)] at hgr
        refine WL.ev (Ev.assign rfl) rfl ?_
        refine WL.nil (kr18 _ _ _ ?_)
        refine kh17 _ _ _ ?_
        refine CW.region fun kR19 kr19 => ?_  -- region 7
        refine WL.ev (Ev.move rfl) rfl ?_
        first | refine WL.ev (Ev.addIn rfl rfl (by omega)) rfl ?_ | refine WL.ev (Ev.add rfl rfl) rfl ?_
        refine WL.ev (Ev.assign rfl) rfl ?_
        refine WL.nil (kr19 _ _ _ ?_)
        refine ⟨rfl, (i + 1, v34), ?_, ?_, ?_⟩
        ·
          repeat (first | exact Subs.nil | refine Subs.cons rfl ?_ | refine Subs.consI rfl (by omega) ?_)
        ·
          exact ⟨by show i + 1 ≤ L.length; omega, hgr, hb5, hch⟩
        ·
          show L.length - (i + 1) < L.length - i; omega
      ·
        try simp only [decide_eq_true_eq, decide_eq_false_iff_not, Decidable.not_not, Bool.and_eq_true, Bool.or_eq_true, Bool.not_eq_true', Bool.not_eq_false', ne_eq, Int.not_lt, Int.not_le] at hc2
        have hiX : i = L.length := by omega
        subst hiX
        rw [List.take_length] at hgr
        have hWn : ∀ x ∈ L.map ngB, x < 18446744073709551616 := fun x hx => by obtain ⟨z, hz, rfl⟩ := List.mem_map.1 hx; exact ngB_lt (hWL z hz)
        have hnfo := hgr.nf hWn (by simp; omega)
        refine CW.exit ?_  -- exit 0
        refine kh11 _ _ _ ?_
        refine CW.seq fun kK20 kh20 => ?_
        refine CW.region fun kR21 kr21 => ?_  -- region 9
        refine WL.ev (Ev.move rfl) rfl ?_
        refine WL.ev (Ev.assign rfl) rfl ?_
        refine WL.nil (kr21 _ _ _ ?_)
        refine kh20 _ _ _ ?_
        refine CW.seqJ (fun D' s' w' => D' = [] ∧ BK w' b5 29 [.int .i64 pn, .int .i64 pi] ∧ Chg [] w w' ∧ NF w' vo (L.map ngB) ∧ Subs [(0, .slice al L.length cl), (1, .int .i64 mode), (5, .pointer (some ⟨b5, 0, none⟩)), (7, .bool true), (8, vo), (10, .int .i64 (backM mode))] s') ?_ ?_
        ·
          refine CW.seq fun kK23 kh23 => ?_
          refine CW.region fun kR24 kr24 => ?_  -- region 10
          refine WL.ev (Ev.move rfl) rfl ?_
          refine WL.ev (Ev.eql rfl rfl) rfl ?_
          refine WL.nil (kr24 _ _ _ ?_)
          refine kh23 _ _ _ ?_
          refine CW.cond rfl (fun hc3 => ?_) (fun hc3 => ?_)  -- if 37
          ·
            try simp only [decide_eq_true_eq, decide_eq_false_iff_not, Decidable.not_not, Bool.and_eq_true, Bool.or_eq_true, Bool.not_eq_true', Bool.not_eq_false', ne_eq, Int.not_lt, Int.not_le] at hc3
            have hm2 : mode = 2 := hc3
            refine CW.region fun kR25 kr25 => ?_  -- region 11
            refine WL.ev (Ev.assign rfl) rfl ?_
            refine WL.nil (kr25 _ _ _ ?_)
            have hbm : backM mode = 3 := by unfold backM; rw [if_pos hm2]
            rw [hbm]
            exact ⟨rfl, hb5, hch, hnfo, (by repeat (first | exact Subs.nil | refine Subs.cons rfl ?_))⟩
          ·
            try simp only [decide_eq_true_eq, decide_eq_false_iff_not, Decidable.not_not, Bool.and_eq_true, Bool.or_eq_true, Bool.not_eq_true', Bool.not_eq_false', ne_eq, Int.not_lt, Int.not_le] at hc3
            have hm2 : ¬ mode = 2 := hc3
            refine CW.seq fun kK26 kh26 => ?_
            refine CW.region fun kR27 kr27 => ?_  -- region 12
            refine WL.ev (Ev.move rfl) rfl ?_
            refine WL.ev (Ev.eql rfl rfl) rfl ?_
            refine WL.nil (kr27 _ _ _ ?_)
            refine kh26 _ _ _ ?_
            refine CW.cond rfl (fun hc4 => ?_) (fun hc4 => ?_)  -- if 39
            ·
              try simp only [decide_eq_true_eq, decide_eq_false_iff_not, Decidable.not_not, Bool.and_eq_true, Bool.or_eq_true, Bool.not_eq_true', Bool.not_eq_false', ne_eq, Int.not_lt, Int.not_le] at hc4
              have hm3 : mode = 3 := hc4
              refine CW.region fun kR28 kr28 => ?_  -- region 13
              refine WL.ev (Ev.assign rfl) rfl ?_
              refine WL.nil (kr28 _ _ _ ?_)
              have hbm : backM mode = 2 := by unfold backM; rw [if_neg hm2, if_pos hm3]
              rw [hbm]
              exact ⟨rfl, hb5, hch, hnfo, (by repeat (first | exact Subs.nil | refine Subs.cons rfl ?_))⟩
            ·
              try simp only [decide_eq_true_eq, decide_eq_false_iff_not, Decidable.not_not, Bool.and_eq_true, Bool.or_eq_true, Bool.not_eq_true', Bool.not_eq_false', ne_eq, Int.not_lt, Int.not_le] at hc4
              have hm3 : ¬ mode = 3 := hc4
              refine CW.skip ?_
              have hbm : backM mode = mode := by unfold backM; rw [if_neg hm2, if_neg hm3]
              rw [hbm]
              exact ⟨rfl, hb5, hch, hnfo, (by repeat (first | exact Subs.nil | refine Subs.cons rfl ?_))⟩
        ·
          rintro _ s' wJ ⟨rfl, hb5, hch, hnfo, hsub⟩
          refine CW.sub hsub ?_
          refine CW.seq fun kK29 kh29 => ?_
          refine CW.region fun kR30 kr30 => ?_  -- region 14
          refine WL.ev (Ev.move rfl) rfl ?_
          refine WL.ev (Ev.move rfl) rfl ?_
          have hnfL : NF _ (.slice al L.length cl) L := NF.of_row (hrL.keep0 hch) hWL (by omega) rfl hLc
          refine WL.ev (Ev.loadA rfl rfl hb5 rfl) rfl ?_
          refine WL.call hasF7 rfl rfl (Mean_spec _ L mode pn pi _ hnfL (hg0.keep0 hch)) fun v w2 h' => ?_
          obtain ⟨⟨x, e, rfl, hM⟩, hC44⟩ := h'
          have hnfo := hnfo.keep0 hC44
          have hch := hch.trans (Chg.any hC44)
          have hb5 := hb5.keep0 hC44
          refine WL.ev (Ev.move rfl) rfl ?_
          refine WL.ev (Ev.extract rfl rfl) rfl ?_
          refine WL.ev (Ev.extract rfl rfl) rfl ?_
          refine WL.ev (Ev.assign rfl) rfl ?_
          refine WL.ev (Ev.assign rfl) rfl ?_
          refine WL.nil (kr30 _ _ _ ?_)
          refine kh29 _ _ _ ?_
          refine CW.seq fun kK31 kh31 => ?_
          refine CW.region fun kR32 kr32 => ?_  -- region 15
          refine WL.ev (Ev.move rfl) rfl ?_
          refine WL.ev (Ev.move rfl) rfl ?_
          refine WL.ev (Ev.loadA rfl rfl hb5 rfl) rfl ?_
          refine WL.call hasF7 rfl rfl (Mean_spec _ (L.map ngB) (backM mode) pn pi _ hnfo (hg0.keep0 hch)) fun v w3 h' => ?_
          obtain ⟨⟨y, f, rfl, hM2⟩, hC51⟩ := h'
          obtain ⟨rfl, hx64, h3, h4⟩ := mean_turned hWL hM hM2
          have hy64 : y < 18446744073709551616 := by
            by_cases q : e ≠ 0 ∨ Fl.isNaN x = true
            · rw [← h3 q]; exact hx64
            · rcases h4 ⟨Classical.byContradiction fun q2 => q (.inl q2), by cases q2 : Fl.isNaN x with | false => rfl | true => exact absurd (.inr q2) q⟩ with q2 | ⟨_, q2⟩
              · apply Classical.byContradiction; intro q3; rw [q2] at hx64; unfold ngB at hx64; rw [if_neg (by omega)] at hx64; have := meanR_lt hM2; omega
              · rcases q2 with q2 | q2 <;> omega
          have hch := hch.trans (Chg.any hC51)
          have hb5 := hb5.keep0 hC51
          refine WL.ev (Ev.move rfl) rfl ?_
          refine WL.ev (Ev.extract rfl rfl) rfl ?_
          refine WL.ev (Ev.extract rfl rfl) rfl ?_
          refine WL.ev (Ev.assign rfl) rfl ?_
          refine WL.ev (Ev.assign rfl) rfl ?_
          refine WL.nil (kr32 _ _ _ ?_)
          refine kh31 _ _ _ ?_
          refine CW.seq fun kK33 kh33 => ?_
          refine CW.seq fun kK34 kh34 => ?_
          refine CW.region fun kR35 kr35 => ?_  -- region 16
          refine WL.ev (Ev.move rfl) rfl ?_
          refine WL.ev (Ev.move rfl) rfl ?_
          refine WL.ev (Ev.neq rfl rfl) rfl ?_
          rw [decide_eq_false (by simp)]
          refine WL.nil (kr35 _ _ _ ?_)
          refine kh34 _ _ _ ?_
          refine CW.condF rfl ?_
          refine CW.skip ?_
          refine kh33 _ _ _ ?_
          refine CW.seq fun kK36 kh36 => ?_
          refine CW.seq fun kK37 kh37 => ?_
          refine CW.region fun kR38 kr38 => ?_  -- region 18
          refine WL.ev (Ev.move rfl) rfl ?_
          refine WL.ev (Ev.neq rfl rfl) rfl ?_
          refine WL.ev (Ev.move rfl) rfl ?_
          refine WL.boolCase (fun hg5 => ?_) (fun hg5 => ?_)
          ·
            try simp only [decide_eq_true_eq, decide_eq_false_iff_not, Decidable.not_not, Bool.and_eq_true, Bool.or_eq_true, Bool.not_eq_true', Bool.not_eq_false', ne_eq, Int.not_lt, Int.not_le] at hg5
            have hene : e ≠ 0 := by simpa using hg5
            refine WL.pass rfl rfl rfl rfl rfl ?_
            refine WL.pass rfl rfl rfl rfl rfl ?_
            refine WL.pass rfl rfl rfl rfl rfl ?_
            refine WL.ev (Ev.pickT rfl rfl rfl) rfl ?_
            refine WL.nil (kr38 _ _ _ ?_)
            refine kh37 _ _ _ ?_
            refine CW.condT rfl ?_
            refine CW.seq fun kK39 kh39 => ?_
            refine CW.region fun kR40 kr40 => ?_  -- region 19
            refine WL.ev (Ev.move rfl) rfl ?_
            refine WL.ev (Ev.move rfl) rfl ?_
            refine WL.want rfl rfl rfl rfl ?_
            refine WL.ev (Ev.move rfl) rfl ?_
            refine WL.want rfl rfl rfl rfl ?_
            refine WL.ev (Ev.move rfl) rfl ?_
            refine WL.want rfl rfl rfl rfl ?_
            refine WL.call hasF8 rfl rfl (exact_spec x y _) fun v w4 h' => ?_
            obtain ⟨rfl, rfl⟩ := h'
            rw [decide_eq_true (h3 (.inl hene))]
            refine WL.ev (Ev.pickT rfl rfl rfl) rfl ?_
            refine WL.ev (Ev.assign rfl) rfl ?_
            refine WL.nil (kr40 _ _ _ ?_)
            refine kh39 _ _ _ ?_
            refine CW.ret ?_
            refine bodyA.ret1 rfl rfl ?_
            exact ⟨rfl, hch⟩
          ·
            try simp only [decide_eq_true_eq, decide_eq_false_iff_not, Decidable.not_not, Bool.and_eq_true, Bool.or_eq_true, Bool.not_eq_true', Bool.not_eq_false', ne_eq, Int.not_lt, Int.not_le] at hg5
            have he : e = 0 := by have := hg5; omega
            refine WL.want rfl rfl rfl rfl ?_
            refine WL.ev (Ev.move rfl) rfl ?_
            refine WL.want rfl rfl rfl rfl ?_
            refine WL.ev (Ev.move rfl) rfl ?_
            refine WL.want rfl rfl rfl rfl ?_
            refine WL.ev (Ev.fneq rfl rfl) rfl ?_
            rw [Fl.order_self]
            refine WL.ev (Ev.pickF rfl rfl rfl) rfl ?_
            refine WL.nil (kr38 _ _ _ ?_)
            refine kh37 _ _ _ ?_
            refine CW.cond rfl (fun hc6 => ?_) (fun hc6 => ?_)  -- if 63
            ·
              try simp only [decide_eq_true_eq, decide_eq_false_iff_not, Decidable.not_not, Bool.and_eq_true, Bool.or_eq_true, Bool.not_eq_true', Bool.not_eq_false', ne_eq, Int.not_lt, Int.not_le] at hc6
              have hnan : Fl.isNaN x = true := hc6
              refine CW.seq fun kK41 kh41 => ?_
              refine CW.region fun kR42 kr42 => ?_  -- region 19
              refine WL.ev (Ev.move rfl) rfl ?_
              refine WL.ev (Ev.move rfl) rfl ?_
              refine WL.want rfl rfl rfl rfl ?_
              refine WL.ev (Ev.move rfl) rfl ?_
              refine WL.want rfl rfl rfl rfl ?_
              refine WL.ev (Ev.move rfl) rfl ?_
              refine WL.want rfl rfl rfl rfl ?_
              refine WL.call hasF8 rfl rfl (exact_spec x y _) fun v w5 h' => ?_
              obtain ⟨rfl, rfl⟩ := h'
              rw [decide_eq_true (h3 (.inr hnan))]
              refine WL.ev (Ev.pickT rfl rfl rfl) rfl ?_
              refine WL.ev (Ev.assign rfl) rfl ?_
              refine WL.nil (kr42 _ _ _ ?_)
              refine kh41 _ _ _ ?_
              refine CW.ret ?_
              refine bodyA.ret1 rfl rfl ?_
              exact ⟨rfl, hch⟩
            ·
              try simp only [decide_eq_true_eq, decide_eq_false_iff_not, Decidable.not_not, Bool.and_eq_true, Bool.or_eq_true, Bool.not_eq_true', Bool.not_eq_false', ne_eq, Int.not_lt, Int.not_le] at hc6
              have hnan : Fl.isNaN x = false := by simpa using hc6
              refine CW.skip ?_
              refine kh36 _ _ _ ?_
              refine CW.seq fun kK43 kh43 => ?_
              refine CW.region fun kR44 kr44 => ?_  -- region 20
              refine WL.ev (Ev.move rfl) rfl ?_
              refine WL.ev (Ev.move rfl) rfl ?_
              refine WL.want rfl rfl rfl rfl ?_
              refine WL.ev (Ev.move rfl) rfl ?_
              refine WL.want rfl rfl rfl rfl ?_
              refine WL.ev (Ev.move rfl) rfl ?_
              refine WL.want rfl rfl rfl rfl ?_
              refine WL.ev (Ev.fneg rfl) rfl ?_
              rw [negFloat_eq hy64]
              refine WL.want rfl rfl rfl rfl ?_
              refine WL.ev (Ev.feql rfl rfl) rfl ?_
              rw [show (FloatKind.f64.format.order x (ngB y) == some .eq) = true from by rcases h4 ⟨he, hnan⟩ with q | ⟨q1, q2⟩; (rw [← q, Fl.order_self_eq, hnan]; rfl); exact zero_eq q1 q2]
              refine WL.ev (Ev.pickT rfl rfl rfl) rfl ?_
              refine WL.ev (Ev.move rfl) rfl ?_
              refine WL.want rfl rfl rfl rfl ?_
              refine WL.ev (Ev.move rfl) rfl ?_
              refine WL.want rfl rfl rfl rfl ?_
              refine WL.ev (Ev.feql rfl rfl) rfl ?_
              rw [Fl.order_zero]
              refine WL.want rfl rfl rfl rfl ?_
              refine WL.ev (Ev.move rfl) rfl ?_
              refine WL.boolCase (fun hg7 => ?_) (fun hg7 => ?_)
              ·
                try simp only [decide_eq_true_eq, decide_eq_false_iff_not, Decidable.not_not, Bool.and_eq_true, Bool.or_eq_true, Bool.not_eq_true', Bool.not_eq_false', ne_eq, Int.not_lt, Int.not_le] at hg7
                refine WL.pass rfl rfl rfl rfl rfl ?_
                refine WL.pass rfl rfl rfl rfl rfl ?_
                refine WL.pass rfl rfl rfl rfl rfl ?_
                refine WL.pass rfl rfl rfl rfl rfl ?_
                refine WL.want rfl rfl rfl rfl ?_
                refine WL.ev (Ev.pickT rfl rfl rfl) rfl ?_
                refine WL.ev (Ev.pickT rfl rfl rfl) rfl ?_
                refine WL.ev (Ev.assign rfl) rfl ?_
                refine WL.nil (kr44 _ _ _ ?_)
                refine kh43 _ _ _ ?_
                refine CW.ret ?_
                refine bodyA.ret1 rfl rfl ?_
                exact ⟨rfl, hch⟩
              ·
                try simp only [decide_eq_true_eq, decide_eq_false_iff_not, Decidable.not_not, Bool.and_eq_true, Bool.or_eq_true, Bool.not_eq_true', Bool.not_eq_false', ne_eq, Int.not_lt, Int.not_le] at hg7
                have hxz : ¬ x % 9223372036854775808 = 0 := by simpa using hg7
                refine WL.want rfl rfl rfl rfl ?_
                refine WL.ev (Ev.move rfl) rfl ?_
                refine WL.want rfl rfl rfl rfl ?_
                refine WL.ev (Ev.move rfl) rfl ?_
                refine WL.want rfl rfl rfl rfl ?_
                refine WL.ev (Ev.fneg rfl) rfl ?_
                rw [negFloat_eq hy64]
                refine WL.want rfl rfl rfl rfl ?_
                refine WL.call hasF8 rfl rfl (exact_spec x (ngB y) _) fun v w6 h' => ?_
                obtain ⟨rfl, rfl⟩ := h'
                have hxe : x = ngB y := (h4 ⟨he, hnan⟩).resolve_right fun q => by rcases q.1 with q | q <;> subst q <;> exact hxz rfl
                rw [decide_eq_true hxe]
                refine WL.want rfl rfl rfl rfl ?_
                refine WL.ev (Ev.pickF rfl rfl rfl) rfl ?_
                refine WL.ev (Ev.pickT rfl rfl rfl) rfl ?_
                refine WL.ev (Ev.assign rfl) rfl ?_
                refine WL.nil (kr44 _ _ _ ?_)
                refine kh43 _ _ _ ?_
                refine CW.ret ?_
                refine bodyA.ret1 rfl rfl ?_
                exact ⟨rfl, hch⟩

end Go.Proofs.YtkkklaodligpdaaDoor

/- What came in, opened; the listed table, opened. No condition. -/
namespace Go.Proofs.YtkkklaodligpdaaDoor
open Go Sx Wd
open Go.ChangeShapes Go.WideShapes Go.ChangeAt Go.WideMaps Go.WideElems Go.RowKit
set_option linter.unusedVariables false
set_option linter.unusedSimpArgs false

theorem own : ownKnob Tryd.prog.godebug = none := by kernel_rfl
theorem laidOut : laidOutB Tryd.prog = true := by kernel_rfl
theorem door_met (os : Os) (args : Array Value) : laidMetH Tryd.prog [("math/bits.deBruijn32tab", Rows.laid_math_bits_deBruijn32tab)] ((World.doorLaid Tryd.prog 400 os).forCall (fun _ _ => 0) ⟨#[], args, []⟩).memory :=
  laidMetH_of_parts3 (fuel := 8) (laidMet_of_run' 8 (by kernel_rfl) (by kernel_rfl)) (by kernel_rfl) (by kernel_rfl)
theorem gDeb : Tryd.prog.globalNamed "math/bits.deBruijn32tab" = some 1 := by kernel_rfl
theorem tDeb : (Tryd.prog.globals[1]?).map (·.type) = some 141 := by kernel_rfl
theorem deb_data {H : Type} : (Rows.laid_math_bits_deBruijn32tab : DataW H) = .agg (deb.map fun n : Nat => .lit (.int .u8 (n : Int))) := rfl
theorem gw_of_laid {W : World} (h : laidMetH Tryd.prog [("math/bits.deBruijn32tab", Rows.laid_math_bits_deBruijn32tab)] W) : GW W := by
  rw [MakeChecks.laidMetH_plain _ _ _ (by kernel_rfl)] at h
  obtain ⟨ps, ⟨g0, t0, cs0, f0, p0, q0, hg0, ht0, hv0, hd0, _, _⟩, _, _⟩ := h
  obtain rfl := Option.some.inj (gDeb.symm.trans hg0)
  obtain rfl := Option.some.inj (tDeb.symm.trans ht0)
  obtain ⟨xs, m1, rfl, hx1, hlen, hn3, hel⟩ := DataW.trod_array Tryd.underlying141 hd0
  have c8 : Tryd.prog.cellsOf 5 = 1 := by kernel_rfl
  simp only [Prod.mk.injEq] at hx1
  intro i hi
  have hi' := hel i hi
  rw [c8, Nat.mul_one] at hi'
  have hxi : xs[i]? = some (xs[i]'(by omega)) := List.getElem?_eq_getElem (by omega)
  rw [hxi] at hi'
  obtain ⟨k, e1, e2, _⟩ := DataW.trod_int Tryd.underlying5 hi'
  have hxs : (deb.map fun n : Nat => (DataW.lit (.int .u8 (n : Int)) : DataW Unit)) = xs.map (·.1) := by
    have := hx1.1
    rw [deb_data] at this
    exact DataW.agg.inj this
  have hdat : (deb.map fun n : Nat => (DataW.lit (.int .u8 (n : Int)) : DataW Unit))[i]? = some (.lit (.int .u8 ((deb.getD i 0 : Nat) : Int))) := by
    rw [List.getElem?_map, List.getElem?_eq_getElem (show i < deb.length from hi), List.getD_eq_getElem?_getD, List.getElem?_eq_getElem (show i < deb.length from hi)]; rfl
  rw [hxs, List.getElem?_map, hxi] at hdat
  simp only [Option.map_some] at hdat
  rw [e2] at hdat
  have hk : k = ((deb.getD i 0 : Nat) : Int) := by
    have := Option.some.inj hdat
    simp only [DataW.lit.injEq, Lit.int.injEq, true_and] at this
    exact this
  subst hk
  have hc : cs0[i]? = some (.int .u8 ((deb.getD i 0 : Nat) : Int)) := by
    have h3 : (cs0.toList.drop i)[0]? = some (.int .u8 ((deb.getD i 0 : Nat) : Int)) := by
      have := congrArg (fun l : List Value => l[0]?) e1
      simpa using this
    simpa using h3
  have := World.var?_cell hg0 hv0 i
  rw [hc] at this
  exact this

/-- One float cell, read. -/
theorem float_cell {H : Type} {enc : TypeId × Value → H} {P : Program} {w : World} {base : Nat} {spare : Nat → Bool} {held : Bool} {n : Nat} {e : TypeId} {v : Value} {x : DataW H × List MemPlace} (he : P.underlying e = some (.float .f64)) (h : DataW.trod enc P w base spare held n e [v] = some x) : ∃ b, v = .float .f64 b ∧ b < 18446744073709551616 := by
  cases n with
  | zero => simp [DataW.trod] at h
  | succ n =>
    simp only [DataW.trod, he] at h
    cases v <;> simp_all
    rename_i k b
    cases k <;> simp_all [Lit.wf]
/-- A slice of floats that came in. -/
theorem open_nf {H : Type} {enc : TypeId × Value → H} {P : Program} {w : World} {base b0 : Nat} {spare : Nat → Bool} {held : Bool} {t e : TypeId} {v : Value} {d : DataW H} {ps : List MemPlace} (ht : P.underlying t = some (.slice e)) (he : P.underlying e = some (.float .f64)) (hc : P.cellsOf e = 1) (hb : P.bytesOf e = 8) (hval : Value.okWide P w .any b0 t v) (h : DataW.Trod enc P w base spare held t v d ps)
    (hsz : ∀ elems spare', d = .slice elems spare' → (elems.length + spare'.length) * P.bytesOf e ≤ reachBytes) : ∃ l : List Nat, NF w v l ∧ l.length ≤ 17592186044415 := by
  obtain ⟨a, len, cap, rfl⟩ := okWide_slice ht hval
  obtain ⟨fuel, hf⟩ := h
  rcases Go.Deep.open_slice1 ht hc hf with ⟨hcs, _⟩ | ⟨ad, l, c, m, n, V, D, Pl, hcs, _, hlc, hcm, hm, hx, hV⟩
  · simp [Value.cells] at hcs
    obtain ⟨rfl, rfl, rfl⟩ := hcs
    exact ⟨[], ⟨⟨none, 0, rfl, Nat.le_refl _, RW.nil⟩, fun x hx => (by cases hx), by decide⟩, by decide⟩
  · simp [Value.cells] at hcs
    obtain ⟨rfl, rfl, rfl⟩ := hcs
    have hlm : len ≤ m := by rw [hm]; split <;> omega
    simp only [Prod.mk.injEq] at hx
    have h8 := hsz _ _ hx.1
    rw [hb] at h8
    simp only [List.length_map, List.length_range] at h8
    have hr : reachBytes = 140737488351232 := by decide
    have hlen : len ≤ 17592186044415 := by omega
    obtain ⟨f, hf2⟩ := Go.Deep.choose_lt (α := Nat) (n := len) (p := fun i b => V i = .float .f64 b ∧ b < 18446744073709551616) (fun i hi => float_cell he (hV i (by omega)).2)
    refine ⟨(List.range len).map f, ⟨⟨some ad, cap, by simp, by simpa using hlc, fun i y hy => ?_⟩, fun y hy => ?_, by simp; omega⟩, by simpa using hlen⟩
    · have hi : i < len := by
        by_cases q : i < len
        · exact q
        · rw [List.getElem?_eq_none (by simp; omega)] at hy; cases hy
      simp [List.getElem?_range hi] at hy
      subst hy
      exact ⟨ad, rfl, by rw [(hV i (by omega)).1, (hf2 i hi).1]; rfl⟩
    · obtain ⟨i, hi, rfl⟩ := List.mem_map.1 hy
      exact (hf2 i (List.mem_range.1 hi)).2
set_option maxRecDepth 100000 in
/-- A policy that came in. -/
theorem open_policy {H : Type} {enc : TypeId × Value → H} {w : World} {base b0 : Nat} {spare : Nat → Bool} {held : Bool} {v : Value} {d : DataW H} {ps : List MemPlace} (hval : Value.okWide Tryd.prog w .any b0 29 v) (h : DataW.Trod enc Tryd.prog w base spare held 29 v d ps) :
    ∃ n m : Int, v = .agg [.int .i64 n, .int .i64 m].toArray := by
  obtain ⟨fuel, hf⟩ := h
  have hu := Tryd.underlying29
  simp only [Value.okWide, hu] at hval
  obtain ⟨cs, rfl, hsz, _⟩ := hval
  have hc2 : Tryd.prog.cellsOf 29 = 2 := by kernel_rfl
  rw [hc2] at hsz
  obtain ⟨y0, y1, m1, _, _, h0, h1⟩ := trod_struct2 hu hf
  have c1 : Tryd.prog.cellsOf 3 = 1 := by kernel_rfl
  obtain ⟨n, e1, _, _⟩ := DataW.trod_int (show Tryd.prog.underlying 3 = some (.int .i64) from Tryd.underlying3) h0
  obtain ⟨m, e2, _, _⟩ := DataW.trod_int (show Tryd.prog.underlying 3 = some (.int .i64) from Tryd.underlying3) h1
  obtain ⟨l⟩ := cs
  simp only [Value.cells] at e1 e2
  match l, hsz with
  | [x, y], _ =>
    rw [c1] at e1 e2
    simp at e1 e2
    subst e1; subst e2
    exact ⟨n, m, rfl⟩
end Go.Proofs.YtkkklaodligpdaaDoor

/- The statement on MeanTurned. -/
namespace Go.Proofs.YtkkklaodligpdaaDoor.meanTurned
open Go.ChangeShapes Go.WideShapes Go.ChangeAt Go.RowKit
set_option linter.unusedVariables false
set_option linter.unusedSimpArgs false

set_option maxRecDepth 100000 in
theorem lifted (os : Os) (started : os.Started) (H : Type) (enc : TypeId × Value → H) :
    ReturnsInHanded {} Tryd.checked os 5 .any (fun w args => (Rows.meanTurnedSpec.pre enc Tryd.prog Tryd.f5 Rows.meanTurnedRow.domain false w args ∧ laidMetH Tryd.prog [("math/bits.deBruijn32tab", Rows.laid_math_bits_deBruijn32tab)] w) ∧ sizedMet enc Tryd.prog Tryd.f5 (OpenSpec.ofChange Rows.meanTurnedSpec) false w args) (Rows.meanTurnedSpec.post enc Tryd.prog Tryd.f5 false true false false) := by
  refine returnsInHanded_of_change_and (C := Tryd.checked) (X := fun w _ => laidMetH Tryd.prog [("math/bits.deBruijn32tab", Rows.laid_math_bits_deBruijn32tab)] w) (fun _ _ _ hh h => h.of_heap hh) own started (by kernel_rfl) Tryd.func5
    (ChangeSpec.witness_shaped (enc := enc) (C := Tryd.checked) (os := os) (X := fun w _ => laidMetH Tryd.prog [("math/bits.deBruijn32tab", Rows.laid_math_bits_deBruijn32tab)] w) false (World.doorLaid Tryd.prog 400 os) #[.slice none 0 0, .int .i64 0, .agg #[.int .i64 0, .int .i64 0]] 8 rfl (World.shaped_of_RefB (by kernel_rfl) (by kernel_rfl)) (by kernel_rfl) (by kernel_rfl) (by kernel_rfl) (door_met os _)) ?_
  intro W base args ds gs before hval0 hW hcnd hsz0 hL _
  have hGW := gw_of_laid hL
  have hval : ∀ (j : Nat) t v, Tryd.f5.params[j]? = some t → args[j]? = some v → Value.okWide Tryd.prog W .any base t v := hval0
  have hsz : (DataW.weightsEach Tryd.prog (Tryd.f5.params.toList ++ []) (ds ++ gs)).all (· ≤ reachBytes) = true := hsz0
  have hW' := hW
  obtain ⟨p, q, hA0, hV, rfl, hfz, hnd⟩ := hW
  have hA : DataW.TrodAll enc Tryd.prog W 0 (fun _ => true) true Tryd.f5.params.toList args.toList ds p := hA0
  rw [Tryd.params5] at hA hval hsz
  obtain ⟨v0, vs0, d0, ds0, p0, q0, hargs, rfl, rfl, h0, r0⟩ := trodAll_cons hA
  obtain ⟨v1, vs1, d1, ds1, p1, q1, rfl, rfl, rfl, h1, r1⟩ := trodAll_cons r0
  obtain ⟨v2, vs2, d2, ds2, p2, q2, rfl, rfl, rfl, h2, r2⟩ := trodAll_cons r1
  obtain ⟨rfl, rfl, rfl⟩ := trodAll_nil r2
  obtain rfl : args = #[v0, v1, v2] := by cases args; simp_all
  obtain ⟨rfl, rfl⟩ := trodVars_none hV
  simp only [List.append_nil] at hsz
  have k0 := h0
  have lt0 : ∀ x ∈ p0, x.block < W.heap.size := by obtain ⟨m, hm⟩ := k0; exact DataW.trod_lt m _ _ _ hm
  obtain ⟨l0, nf0⟩ := open_nf Tryd.underlying23 Tryd.underlying24 (by kernel_rfl) (by kernel_rfl) (hval 0 23 v0 rfl rfl) h0 (fun elems spare hd => sized_slice (j := 0) hsz rfl (by rw [← hd]; rfl) Tryd.underlying23)
  have k1 := h1
  have lt1 : ∀ x ∈ p1, x.block < W.heap.size := by obtain ⟨m, hm⟩ := k1; exact DataW.trod_lt m _ _ _ hm
  obtain ⟨a1, rfl, _, _, wf1⟩ := open_int Tryd.underlying3 (hval 1 3 v1 rfl rfl) h1
  have bd1 := bounds_i64 wf1
  have k2 := h2
  have lt2 : ∀ x ∈ p2, x.block < W.heap.size := by obtain ⟨m, hm⟩ := k2; exact DataW.trod_lt m _ _ _ hm
  obtain ⟨n2, m2, rfl⟩ := open_policy (hval 2 29 v2 rfl rfl) h2
  clear hA0 hval0
  refine Calls.mono (MeanTurned_spec v0 l0 a1 n2 m2 W hGW nf0 bd1) fun e W' ⟨v, he, hv, hc⟩ => ?_
  subst he
  subst hv
  have bel : Below W.heap.size W W' := hc.below
  exact ⟨_, rfl, _, _, _, [], _, [], hW', trodAll_mk1 (shut_bool Tryd.underlying4 _), (trodAll_cons_mk (Below.trod laidOut (by kernel_rfl) (of_decide_eq_true (by kernel_rfl)) k0 bel lt0) (trodAll_cons_mk (Below.trod laidOut (by kernel_rfl) (of_decide_eq_true (by kernel_rfl)) k1 bel lt1) (trodAll_cons_mk (Below.trod laidOut (by kernel_rfl) (of_decide_eq_true (by kernel_rfl)) k2 bel lt2) trodAll_mk0))), rfl, bel.frame _, fun h => by cases h⟩

theorem over : Rows.meanTurnedRow.holds Tryd.pinned (OpenSpec.ofChange Rows.meanTurnedSpec) :=
  OpenClaim.holds_of_wide 5 Tryd.f5 rfl rfl rfl rfl rfl rfl rfl ⟨rfl, rfl, rfl, rfl, rfl⟩ rfl rfl rfl rfl rfl (by kernel_rfl) Tryd.func5 (by kernel_rfl)
    (of_decide_eq_true (by kernel_rfl)) (by unfold Func.isWrapper; first | (rw [if_pos (by decide +kernel)]; kernel_rfl) | (rw [if_neg (by decide +kernel)]; exact ⟨rfl, rfl⟩))
    (fun os started H enc _ => lifted os started H enc)

theorem proved : Rows.MeanTurnedCardSaid :=
  Claim7.holds_tied_plain_at .later [] [.data] true Rows.meanTurnedCard.stood.harness false
    over (fun _ h => by cases h) (by kernel_rfl) (fun _ h => by cases h) meanTurned_row_tie rfl ⟨rfl, rfl⟩ (by kernel_rfl) rfl
    (fun f fn hf hfn => by
      obtain rfl : f = 5 := Option.some.inj ((show Tryd.prog.funcNamed "steelyard/steelyardlaw13.MeanTurned" = some 5 by kernel_rfl).symm.trans hf) |>.symm
      obtain rfl : fn = Tryd.f5 := (Option.some.inj (Tryd.func5.symm.trans hfn)).symm
      exact ⟨by kernel_rfl, fun j t ht => by
        have hm : t ∈ Tryd.f5.params.toList := by simpa using Array.mem_of_getElem? ht
        have hall : (Tryd.f5.params.toList.all fun u => !Tryd.prog.wantsStandIn u) = true := by kernel_rfl
        exact (show Tryd.prog.wantsStandIn t = false by simpa using List.all_eq_true.1 hall t hm)⟩)
    (by kernel_rfl)
end Go.Proofs.YtkkklaodligpdaaDoor.meanTurned
