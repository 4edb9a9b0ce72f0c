/- The statement on TallyPlays. -/
import Derived.Test.YtjlmenmlpmfokaaPlays
import Derived.Test.YtjlmenmlpmfokaaRows
import Derived.WalkKit
import Derived.ProofKit
import Derived.OpenShut
import Derived.ChangeOld
import Derived.Below
import Derived.Deep.Slices
import Derived.Laws.Cover2
namespace Go.Proofs.Ytjlmenmlpmfokaa.tallyPlays
open Go.ChangeShapes Go.WideShapes Go.ChangeAt Go.RowKit
set_option linter.unusedVariables false
set_option linter.unusedSimpArgs false

theorem own : ownKnob Try.prog.godebug = none := by kernel_rfl
theorem laidOut : laidOutB Try.prog = true := by kernel_rfl

section
variable {H : Type} {enc : TypeId × Value → H} {P : Program} {w : World} {base : Nat} {spare : Nat → Bool} {held : Bool} {n : Nat} {e : TypeId} {v : Value} {x : DataW H × List MemPlace}
theorem float_cell (he : P.underlying e = some (.float .f64)) (h : DataW.trod enc P w base spare held n e [v] = some x) : ∃ b, v = .float .f64 b ∧ b < 18446744073709551616 := by
  cases n with
  | zero => simp [DataW.trod] at h
  | succ n =>
    simp only [DataW.trod, he] at h
    cases v <;> simp_all
    rename_i k b
    cases k <;> simp_all [Lit.wf]
theorem int_cell (he : P.underlying e = some (.int .i64)) (h : DataW.trod enc P w base spare held n e [v] = some x) : ∃ b : Int, v = .int .i64 b ∧ -9223372036854775808 ≤ b ∧ b ≤ 9223372036854775807 := by
  cases n with
  | zero => simp [DataW.trod] at h
  | succ n =>
    simp only [DataW.trod, he] at h
    cases v <;> simp_all
    rename_i k b
    cases k <;> simp_all [Lit.wf, IntKind.min, IntKind.max, IntKind.signed, IntKind.bits]
theorem bool_cell (he : P.underlying e = some .bool) (h : DataW.trod enc P w base spare held n e [v] = some x) : ∃ b : Bool, v = .bool b := by
  cases n with
  | zero => simp [DataW.trod] at h
  | succ n =>
    simp only [DataW.trod, he] at h
    cases v <;> simp_all
end
theorem mapM_each {α β : Type} (f : α → Option β) : ∀ (l : List α) (ys : List β), l.mapM f = some ys → ∀ a ∈ l, ∃ b, f a = some b
  | [], _, _ => fun a ha => by cases ha
  | x :: l, ys, h => by
    rw [List.mapM_cons] at h
    obtain ⟨y, hy, h2⟩ := Option.bind_eq_some_iff.1 h
    obtain ⟨zs, hz, _⟩ := Option.bind_eq_some_iff.1 h2
    intro a ha
    rcases List.mem_cons.1 ha with rfl | ha
    · exact ⟨y, hy⟩
    · exact mapM_each f l zs hz a ha
theorem op_cells {H : Type} {enc : TypeId × Value → H} {w : World} {base : Nat} {spare : Nat → Bool} {held : Bool} {n : Nat} {cs : List Value} {x : DataW H × List MemPlace} (h : DataW.trod enc Try.prog w base spare held n 32 cs = some x) : ∃ o : OpR, cs = o.cells ∧ o.ok := by
  cases n with
  | zero => simp [DataW.trod] at h
  | succ n =>
    simp only [DataW.trod, Try.underlying32] at h
    have hc : Try.prog.cellsOf 32 = 6 := by kernel_rfl
    have hi : Try.prog.cellsOf 3 = 1 := by kernel_rfl
    have hf : Try.prog.cellsOf 30 = 1 := by kernel_rfl
    have hb : Try.prog.cellsOf 4 = 1 := by kernel_rfl
    rw [hc] at h
    split at h
    · rename_i hl
      match cs, hl with
      | [c0, c1, c2, c3, c4, c5], _ =>
        obtain ⟨ys, hys, _⟩ := Option.map_eq_some_iff.1 h
        have hall := mapM_each _ _ _ hys
        simp [hi, hf, hb] at hall
        obtain ⟨⟨_, _, h0⟩, ⟨_, _, h1⟩, ⟨_, _, h2⟩, ⟨_, _, h3⟩, ⟨_, _, h4⟩, ⟨_, _, h5⟩⟩ := hall
        obtain ⟨b0, rfl, _⟩ := int_cell Try.underlying3 h0
        obtain ⟨b1, rfl, r1⟩ := int_cell Try.underlying3 h1
        obtain ⟨b2, rfl, r2⟩ := int_cell Try.underlying3 h2
        obtain ⟨b3, rfl, _⟩ := int_cell Try.underlying3 h3
        obtain ⟨b4, rfl, r4⟩ := float_cell Try.underlying30 h4
        obtain ⟨b5, rfl⟩ := bool_cell Try.underlying4 h5
        exact ⟨⟨b0, b1, b2, b3, b4, b5⟩, rfl, r1, r2, r4⟩
    · cases h
/-- The script that came in. -/
theorem open_ops {H : Type} {enc : TypeId × Value → H} {w : World} {base : Nat} {spare : Nat → Bool} {held : Bool} {fuel : Nat} {a : Option Addr} {len cap : Nat} {x : DataW H × List MemPlace} (h : DataW.trod enc Try.prog w base spare held fuel 22 [.slice a len cap] = some x) :
    ∃ os : List OpR, os.length = len ∧ ORow w a os ∧ ∀ o ∈ os, o.ok := by
  have hc : Try.prog.cellsOf 32 = 6 := by kernel_rfl
  rcases Go.Deep.open_slice Try.underlying22 h with ⟨hcs, _⟩ | ⟨ad, l, c, m, n, D, Pl, hcs, _, _, _, hm, _, hV⟩
  · simp at hcs
    obtain ⟨rfl, rfl, rfl⟩ := hcs
    exact ⟨[], rfl, fun i o ho => by simp at ho, fun o ho => by cases ho⟩
  · simp at hcs
    obtain ⟨rfl, rfl, rfl⟩ := hcs
    have hlm : len ≤ m := by rw [hm]; split <;> omega
    have : Inhabited OpR := ⟨⟨0, 0, 0, 0, 0, false⟩⟩
    obtain ⟨f, hf⟩ := Go.Deep.choose_lt (α := OpR) (n := len) (p := fun i o => w.cells? base (ad.add (i * 6)) 6 = some o.cells ∧ o.ok) (fun i hi => by
      obtain ⟨cs', q1, q2⟩ := hV i (by omega)
      obtain ⟨o, rfl, ho⟩ := op_cells q2
      rw [hc] at q1
      exact ⟨o, q1, ho⟩)
    refine ⟨(List.range len).map f, by simp, fun i o ho => ?_, fun o ho => ?_⟩
    · have hi : i < len := by
        by_cases q : i < len
        · exact q
        · rw [List.getElem?_eq_none (by simp; omega)] at ho; cases ho
      simp [List.getElem?_range hi] at ho
      subst ho
      obtain ⟨_, hl6, hcell⟩ := World.cells?_some (hf i hi).1
      refine ⟨ad, rfl, ?_, fun j v hj => ?_⟩
      · have := hcell 0 (by omega)
        have h0 : w.cell? ((ad.add (i * 6)).add 0) = some (.int .i64 (f i).kd) := by rw [this]; rfl
        have := block_lt_of_cell h0
        rwa [addr_block, addr_block] at this
      · have hj6 : j < 6 := by
          by_cases q : j < 6
          · exact q
          · rw [List.getElem?_eq_none (by simp [OpR.cells]; omega)] at hj; cases hj
        rw [← addr_add]
        rw [hcell j hj6]
        exact hj
    · obtain ⟨i, hi, rfl⟩ := List.mem_map.1 ho
      exact (hf i (List.mem_range.1 hi)).2
set_option maxRecDepth 100000 in
theorem lifted (os : Os) (started : os.Started) (H : Type) (enc : TypeId × Value → H) :
    ReturnsInHanded {} Try.checked os 3 .any (Rows.tallyPlaysSpec.pre6 enc Try.prog Try.f3 Rows.tallyPlaysRow.domain false) (Rows.tallyPlaysSpec.post enc Try.prog Try.f3 false true false false) := by
  refine returnsInHanded_of_change (C := Try.checked) own started (by kernel_rfl) Try.func3
    (ChangeSpec.witness6 (enc := enc) (C := Try.checked) false ⟨#[], #[.bool false, .slice none 0 0], []⟩ 8 (by kernel_rfl) (by kernel_rfl) (by kernel_rfl) (by kernel_rfl)) ?_
  intro W base args ds gs before hval0 hW hcnd _
  have hval : ∀ (j : Nat) t v, Try.f3.params[j]? = some t → args[j]? = some v → Value.okWide Try.prog W .any base t v := hval0
  have hW' := hW
  obtain ⟨p, q, hA0, hV, rfl, hfz, hnd⟩ := hW
  have hA : DataW.TrodAll enc Try.prog W 0 (fun _ => true) true Try.f3.params.toList args.toList ds p := hA0
  rw [Try.params3] at hA hval
  obtain ⟨v0, vs0, d0, ds0, p0, q0, hargs, rfl, rfl, h0, r0⟩ := trodAll_cons hA
  obtain ⟨v1, vs1, d1, ds1, p1, q1, rfl, rfl, rfl, h1, r1⟩ := trodAll_cons r0
  obtain ⟨rfl, rfl, rfl⟩ := trodAll_nil r1
  obtain rfl : args = #[v0, v1] := by cases args; simp_all
  obtain ⟨rfl, rfl⟩ := trodVars_none hV
  obtain ⟨a0, rfl, rfl, rfl⟩ := open_bool Try.underlying4 (hval 0 4 v0 rfl rfl) h0
  obtain ⟨a1, len1, cap1, rfl⟩ := okWide_slice Try.underlying22 (hval 1 22 v1 rfl rfl)
  have k1 := h1
  have lt1 : ∀ x ∈ p1, x.block < W.heap.size := by obtain ⟨m, hm⟩ := k1; exact DataW.trod_lt m _ _ _ hm
  obtain ⟨z1, rfl, w1, y1⟩ : ∃ fs : List OpR, fs.length = len1 ∧ ORow W a1 fs ∧ ∀ o ∈ fs, o.ok := by
    obtain ⟨fuel, hf⟩ := h1
    exact open_ops hf
  clear hA0 hval0
  refine Calls.mono (plays_spec a0 a1 cap1 z1 W w1 y1) fun e W' ⟨v, he, hv, hc⟩ => ?_
  subst he
  subst hv
  have bel : Below W.heap.size W W' := hc
  exact ⟨_, rfl, _, _, _, [], _, [], hW', trodAll_mk1 (shut_bool Try.underlying4 _), (trodAll_cons_mk (shut_bool Try.underlying4 _) (trodAll_cons_mk (Below.trod laidOut (by kernel_rfl) (of_decide_eq_true (by kernel_rfl)) k1 bel lt1) trodAll_mk0)), rfl, bel.frame _, fun h => by cases h⟩

theorem over : Rows.tallyPlaysRow.holds Try.pinned (OpenSpec.ofChange Rows.tallyPlaysSpec) :=
  OpenClaim.holds_of_wide 3 Try.f3 rfl rfl rfl rfl rfl rfl rfl ⟨rfl, rfl, rfl, rfl, rfl⟩ rfl rfl rfl rfl rfl (by kernel_rfl) Try.func3 (by kernel_rfl)
    (of_decide_eq_true (by kernel_rfl)) (by unfold Func.isWrapper; first | (rw [if_pos (by decide +kernel)]; kernel_rfl) | (rw [if_neg (by decide +kernel)]; exact ⟨rfl, rfl⟩))
    (fun os started H enc _ => lifted os started H enc)

theorem proved : Rows.TallyPlaysSaid := over
end Go.Proofs.Ytjlmenmlpmfokaa.tallyPlays
