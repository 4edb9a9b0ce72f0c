/- The statement on ShardLists. -/
import Derived.Test.YtnbipejaidbihaaGreatDoorZl7
import Derived.Test.YtnbipejaidbihaaGreatDoorTie
import Derived.Test.YtnbipejaidbihaaGreatDoorCards
set_option linter.unusedVariables false
set_option linter.unusedSimpArgs false
set_option maxRecDepth 100000
set_option maxHeartbeats 4000000
namespace Go.Proofs.YtnbipejaidbihaaGreatDoor
/- The statement on ShardLists. -/
namespace shardLists
open Go.ChangeShapes Go.WideShapes Go.ChangeAt Go.RowKit

theorem lifted (os : Os) (started : os.Started) (H : Type) (enc : TypeId × Value → H) :
    ReturnsInHanded {} Tryz.checked os 7 .any (fun w args => (Rows.shardListsSpec.pre enc Tryz.prog Tryz.f7 Rows.shardListsRow.domain false w args ∧ laidMetH Tryz.prog [("math/bits.deBruijn32tab", Rows.laid_math_bits_deBruijn32tab)] w) ∧ sizedMet enc Tryz.prog Tryz.f7 (OpenSpec.ofChange Rows.shardListsSpec) false w args) (Rows.shardListsSpec.post enc Tryz.prog Tryz.f7 false true false false) := by
  refine returnsInHanded_of_change_and (C := Tryz.checked) (X := fun w _ => laidMetH Tryz.prog [("math/bits.deBruijn32tab", Rows.laid_math_bits_deBruijn32tab)] w) (fun _ _ _ hh h => h.of_heap hh) own started (by kernel_rfl) Tryz.func7
    (ChangeSpec.witness_shaped (enc := enc) (C := Tryz.checked) (os := os) (X := fun w _ => laidMetH Tryz.prog [("math/bits.deBruijn32tab", Rows.laid_math_bits_deBruijn32tab)] w) false (World.doorLaid Tryz.prog 400 os) #[.slice none 0 0, .int .i64 0, .agg #[.int .i64 0, .int .i64 0, .int .i64 0, .float .f64 0, .slice none 0 0, .int .i64 0, .int .i64 0, .int .i64 0, .int .i64 0, .int .i64 0, .slice none 0 0]] 8 rfl (World.shaped_of_RefB (by kernel_rfl) (by kernel_rfl)) (by kernel_rfl) (by kernel_rfl) (by kernel_rfl) (door_met os _)) ?_
  intro W base args ds gs before hval0 hW hcnd hsz0 hL _
  have hGW := gw_of_laid hL
  have hval : ∀ (j : Nat) t v, Tryz.f7.params[j]? = some t → args[j]? = some v → Value.okWide Tryz.prog W .any base t v := hval0
  have hsz : (DataW.weightsEach Tryz.prog (Tryz.f7.params.toList ++ []) (ds ++ gs)).all (· ≤ reachBytes) = true := hsz0
  have hW' := hW
  obtain ⟨p, q, hA0, hV, rfl, hfz, hnd⟩ := hW
  have hA : DataW.TrodAll enc Tryz.prog W 0 (fun _ => true) true Tryz.f7.params.toList args.toList ds p := hA0
  rw [Tryz.params7] at hA hval hsz
  obtain ⟨v0, vs0, d0, ds0, p0, q0, hargs, rfl, rfl, h0, r0⟩ := trodAll_cons hA
  obtain ⟨v1, vs1, d1, ds1, p1, q1, rfl, rfl, rfl, h1, r1⟩ := trodAll_cons r0
  obtain ⟨v2, vs2, d2, ds2, p2, q2, rfl, rfl, rfl, h2, r2⟩ := trodAll_cons r1
  obtain ⟨rfl, rfl, rfl⟩ := trodAll_nil r2
  obtain rfl : args = #[v0, v1, v2] := by cases args; simp_all
  obtain ⟨rfl, rfl⟩ := trodVars_none hV
  simp only [List.append_nil] at hsz
  have k0 := h0
  have lt0 : ∀ x ∈ p0, x.block < W.heap.size := by obtain ⟨m, hm⟩ := k0; exact DataW.trod_lt m _ _ _ hm
  obtain ⟨l0, nf0⟩ := open_nf Tryz.underlying32 Tryz.underlying31 (by kernel_rfl) (by kernel_rfl) (hval 0 32 v0 rfl rfl) h0 (fun elems spare hd => sized_slice (j := 0) hsz rfl (by rw [← hd]; rfl) Tryz.underlying32)
  have k1 := h1
  have lt1 : ∀ x ∈ p1, x.block < W.heap.size := by obtain ⟨m, hm⟩ := k1; exact DataW.trod_lt m _ _ _ hm
  obtain ⟨a1, rfl, _, _, wf1⟩ := open_int Tryz.underlying3 (hval 1 3 v1 rfl rfl) h1
  have bd1 := bounds_i64 wf1
  have k2 := h2
  have lt2 : ∀ x ∈ p2, x.block < W.heap.size := by obtain ⟨m, hm⟩ := k2; exact DataW.trod_lt m _ _ _ hm
  obtain ⟨ok2, oo2, ow2, om2, ole2, on2, pn2, pi2, ox2, vol2, vob2, rfl, hvol2, hvob2⟩ := open_op1 (hval 2 37 v2 rfl rfl) h2
  clear hA0 hval0
  refine Calls.mono (ShardLists_spec v0 l0 a1 ok2 oo2 ow2 om2 ole2 on2 pn2 pi2 ox2 vol2 vob2 W hGW nf0 bd1 hvol2 hvob2) fun e W' ⟨v, he, hv, hc⟩ => ?_
  subst he
  subst hv
  have bel : Below W.heap.size W W' := hc.below
  exact ⟨_, rfl, _, _, _, [], _, [], hW', trodAll_mk1 (shut_bool Tryz.underlying4 _), (trodAll_cons_mk (Below.trod laidOut (by kernel_rfl) (of_decide_eq_true (by kernel_rfl)) k0 bel lt0) (trodAll_cons_mk (Below.trod laidOut (by kernel_rfl) (of_decide_eq_true (by kernel_rfl)) k1 bel lt1) (trodAll_cons_mk (Below.trod laidOut (by kernel_rfl) (of_decide_eq_true (by kernel_rfl)) k2 bel lt2) trodAll_mk0))), rfl, bel.frame _, fun h => by cases h⟩
theorem j1 : jf1 Tryz.prog 7 Tryz.f7 Rows.shardListsSpec Rows.shardListsRow = true := by kernel_rfl
theorem j2 : jf2 Tryz.prog 7 Tryz.f7 Rows.shardListsSpec Rows.shardListsRow = true := by kernel_rfl
theorem j3 : jf3 Tryz.prog 7 Tryz.f7 Rows.shardListsSpec Rows.shardListsRow = true := by kernel_rfl
theorem j4 : jf4 Tryz.prog 7 Tryz.f7 Rows.shardListsSpec Rows.shardListsRow = true := by kernel_rfl
theorem j5 : jf5 Tryz.prog 7 Tryz.f7 Rows.shardListsSpec Rows.shardListsRow = true := by kernel_rfl
theorem j6 : jf6 Tryz.prog 7 Tryz.f7 Rows.shardListsSpec Rows.shardListsRow = true := by kernel_rfl
theorem j7 : jf7 Tryz.prog 7 Tryz.f7 Rows.shardListsSpec Rows.shardListsRow = true := by kernel_rfl
theorem j8 : jf8 Tryz.prog 7 Tryz.f7 Rows.shardListsSpec Rows.shardListsRow = true := by kernel_rfl
theorem j9 : jf9 Tryz.prog 7 Tryz.f7 Rows.shardListsSpec Rows.shardListsRow = true := by kernel_rfl
theorem j10 : jf10 Tryz.prog 7 Tryz.f7 Rows.shardListsSpec Rows.shardListsRow = true := by kernel_rfl
theorem j11 : jf11 Tryz.prog 7 Tryz.f7 Rows.shardListsSpec Rows.shardListsRow = true := by kernel_rfl
theorem j12 : jf12 Tryz.prog 7 Tryz.f7 Rows.shardListsSpec Rows.shardListsRow = true := by kernel_rfl
theorem j13 : jf13 Tryz.prog 7 Tryz.f7 Rows.shardListsSpec Rows.shardListsRow = true := by kernel_rfl
theorem j14 : jf14 Tryz.prog 7 Tryz.f7 Rows.shardListsSpec Rows.shardListsRow = true := by kernel_rfl
theorem j15 : jf15 Tryz.prog 7 Tryz.f7 Rows.shardListsSpec Rows.shardListsRow = true := by kernel_rfl
theorem j16 : jf16 Tryz.prog 7 Tryz.f7 Rows.shardListsSpec Rows.shardListsRow = true := by kernel_rfl
theorem j17 : jf17 Tryz.prog 7 Tryz.f7 Rows.shardListsSpec Rows.shardListsRow = true := by kernel_rfl
theorem j18 : jf18 Tryz.prog 7 Tryz.f7 Rows.shardListsSpec Rows.shardListsRow = true := by kernel_rfl
theorem j19 : jf19 Tryz.prog 7 Tryz.f7 Rows.shardListsSpec Rows.shardListsRow = true := by kernel_rfl
theorem j20 : jf20 Tryz.prog 7 Tryz.f7 Rows.shardListsSpec Rows.shardListsRow = true := by kernel_rfl
theorem j21 : jf21 Tryz.prog 7 Tryz.f7 Rows.shardListsSpec Rows.shardListsRow = true := by kernel_rfl
theorem j22 : jf22 Tryz.prog 7 Tryz.f7 Rows.shardListsSpec Rows.shardListsRow = true := by kernel_rfl
theorem j23 : jf23 Tryz.prog 7 Tryz.f7 Rows.shardListsSpec Rows.shardListsRow = true := by kernel_rfl
theorem j24 : jf24 Tryz.prog 7 Tryz.f7 Rows.shardListsSpec Rows.shardListsRow = true := by kernel_rfl
theorem j25 : jf25 Tryz.prog 7 Tryz.f7 Rows.shardListsSpec Rows.shardListsRow = true := by kernel_rfl
theorem j26 : jf26 Tryz.prog 7 Tryz.f7 Rows.shardListsSpec Rows.shardListsRow = true := by kernel_rfl
theorem j27 : jf27 Tryz.prog 7 Tryz.f7 Rows.shardListsSpec Rows.shardListsRow = true := by kernel_rfl
theorem j28 : jf28 Tryz.prog 7 Tryz.f7 Rows.shardListsSpec Rows.shardListsRow = true := by kernel_rfl
theorem j29 : jf29 Tryz.prog 7 Tryz.f7 Rows.shardListsSpec Rows.shardListsRow = true := by kernel_rfl
theorem j30 : jf30 Tryz.prog 7 Tryz.f7 Rows.shardListsSpec Rows.shardListsRow = true := by kernel_rfl
theorem j31 : jf31 Tryz.prog 7 Tryz.f7 Rows.shardListsSpec Rows.shardListsRow = true := by kernel_rfl
theorem j32 : jf32 Tryz.prog 7 Tryz.f7 Rows.shardListsSpec Rows.shardListsRow = true := by kernel_rfl
theorem over : Rows.shardListsRow.holds Tryz.pinned (OpenSpec.ofChange Rows.shardListsSpec) :=
  OpenClaim.holds_of_wide 7 Tryz.f7 rfl rfl rfl rfl rfl rfl rfl ⟨rfl, rfl, rfl, rfl, rfl⟩ rfl rfl rfl rfl rfl (by as_aux_lemma => kernel_rfl) Tryz.func7 (joined_of j1 j2 j3 j4 j5 j6 j7 j8 j9 j10 j11 j12 j13 j14 j15 j16 j17 j18 j19 j20 j21 j22 j23 j24 j25 j26 j27 j28 j29 j30 j31 j32)
    (of_decide_eq_true (by as_aux_lemma => kernel_rfl)) (by unfold Func.isWrapper; first | (rw [if_pos (by decide +kernel)]; kernel_rfl) | (rw [if_neg (by decide +kernel)]; exact ⟨rfl, rfl⟩))
    (fun os started H enc _ => lifted os started H enc)

theorem proved : Rows.ShardListsCardSaid :=
  Claim7.holds_tied_plain_at .later [] [.data] true Rows.shardListsCard.stood.harness Rows.shardListsCard.stood.looks
    over (fun _ h => by cases h) (by as_aux_lemma => kernel_rfl) (fun _ h => by cases h) shardLists_row_tie rfl ⟨rfl, rfl⟩ (by as_aux_lemma => kernel_rfl) rfl
    (fun f fn hf hfn => by
      obtain rfl : f = 7 := Option.some.inj ((show Tryz.prog.funcNamed "steelyard/steelyardlaw21.ShardLists" = some 7 from (by as_aux_lemma => kernel_rfl)).symm.trans hf) |>.symm
      obtain rfl : fn = Tryz.f7 := (Option.some.inj (Tryz.func7.symm.trans hfn)).symm
      exact ⟨(by as_aux_lemma => kernel_rfl), fun j t ht => by
        have hm : t ∈ Tryz.f7.params.toList := by simpa using Array.mem_of_getElem? ht
        have hall : (Tryz.f7.params.toList.all fun u => !Tryz.prog.wantsStandIn u) = true := by kernel_rfl
        exact (show Tryz.prog.wantsStandIn t = false by simpa using List.all_eq_true.1 hall t hm)⟩)
    (by as_aux_lemma => kernel_rfl)
end shardLists

end Go.Proofs.YtnbipejaidbihaaGreatDoor