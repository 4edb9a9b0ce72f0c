/- The statement on ShardPlays. -/
import Derived.Test.YtomlallhlakhfaaGreatDoorZp9
import Derived.Test.YtomlallhlakhfaaGreatDoorTie
import Derived.Test.YtomlallhlakhfaaGreatDoorCards
set_option linter.unusedVariables false
set_option linter.unusedSimpArgs false
set_option maxRecDepth 100000
set_option maxHeartbeats 4000000
namespace Go.Proofs.YtomlallhlakhfaaGreatDoor
namespace shardPlays
open Go.ChangeShapes Go.WideShapes Go.ChangeAt Go.RowKit
theorem lifted(os:Os)(a:os.Started)(H:Type)(enc:TypeId×Value->H):
    ReturnsInHanded {} Tryz.checked os 3 .any (λw args=>(Rows.shardPlaysSpec.pre enc Tryz.prog Tryz.f3 Rows.shardPlaysRow.domain false w args/\laidMetH Tryz.prog [("math/bits.deBruijn32tab",Rows.laid_math_bits_deBruijn32tab)] w)/\sizedMet enc Tryz.prog Tryz.f3 (OpenSpec.ofChange Rows.shardPlaysSpec) false w args) (Rows.shardPlaysSpec.post enc Tryz.prog Tryz.f3 false true false false):=by
  refine returnsInHanded_of_change_and (C:=Tryz.checked) (X:=λw _=>laidMetH Tryz.prog [("math/bits.deBruijn32tab",Rows.laid_math_bits_deBruijn32tab)] w) (λ_ _ _ T h=>h.of_heap T) own a oR Tryz.func3
    (ChangeSpec.witness_shaped (enc:=enc) (C:=Tryz.checked) (os:=os) (X:=λw _=>laidMetH Tryz.prog [("math/bits.deBruijn32tab",Rows.laid_math_bits_deBruijn32tab)] w) false (World.doorLaid Tryz.prog 400 os) #[.slice none 0 0] 8 rfl (World.shaped_of_RefB oR oR) oR oR oR (door_met os _)) ?_
  intro W n args I gs o b D B i hL _
  have A:=gw_of_laid hL
  have d : ∀ (j:Nat) t v,Tryz.f3.params[j]?=some t->args[j]?=some v->Value.okWide Tryz.prog W .any n t v:=b
  have g:(DataW.weightsEach Tryz.prog (Tryz.f3.params.toList++[]) (I++gs)).all (·<=reachBytes)=true:=i
  have z:=D
  obtain ⟨p,q,k,Z,rfl,U,Q⟩:=D
  have F:DataW.TrodAll enc Tryz.prog W 0 (λ_=>true) true Tryz.f3.params.toList args.toList I p:=k
  rw[Tryz.params3] at F d g
  obtain ⟨r,J,d0,a2,p0,q0,y,rfl,rfl,G,M⟩:=trodAll_cons F
  obtain ⟨rfl,rfl,rfl⟩:=trodAll_nil M
  obtain rfl:args = #[r]:=by cases args;simp_all
  obtain ⟨rfl,rfl⟩:=trodVars_none Z
  simp only[List.append_nil] at g
  have k0:=G
  have u : ∀ x∈p0,x.block<W.heap.size:=by obtain ⟨m,R⟩:=k0;exact DataW.trod_lt m _ _ _ R
  obtain ⟨Q0,s⟩:=open_script (d 0 22 r rfl rfl) G (sized_mem (j:=0) g rfl rfl)
  clear k b
  refine Calls.mono (c5x r Q0 W A s) λe W' ⟨v,V,O,Y⟩=>?_
  subst V
  subst O
  have l:Below W.heap.size W W':=Y.below
  exact ⟨_,rfl,_,_,_,[],_,[],z,trodAll_mk1 (shut_bool Tryz.underlying4 _),(trodAll_cons_mk (Below.trod laidOut oR (of_decide_eq_true oR) k0 l u) trodAll_mk0),rfl,l.frame _,λh=>by cases h⟩
theorem j1:jf1 Tryz.prog 3 Tryz.f3 Rows.shardPlaysSpec Rows.shardPlaysRow=true:=by kernel_rfl
theorem j2:jf2 Tryz.prog 3 Tryz.f3 Rows.shardPlaysSpec Rows.shardPlaysRow=true:=by kernel_rfl
theorem j3:jf3 Tryz.prog 3 Tryz.f3 Rows.shardPlaysSpec Rows.shardPlaysRow=true:=by kernel_rfl
theorem j4:jf4 Tryz.prog 3 Tryz.f3 Rows.shardPlaysSpec Rows.shardPlaysRow=true:=by kernel_rfl
theorem j5:jf5 Tryz.prog 3 Tryz.f3 Rows.shardPlaysSpec Rows.shardPlaysRow=true:=by kernel_rfl
theorem j6:jf6 Tryz.prog 3 Tryz.f3 Rows.shardPlaysSpec Rows.shardPlaysRow=true:=by kernel_rfl
theorem j7:jf7 Tryz.prog 3 Tryz.f3 Rows.shardPlaysSpec Rows.shardPlaysRow=true:=by kernel_rfl
theorem j8:jf8 Tryz.prog 3 Tryz.f3 Rows.shardPlaysSpec Rows.shardPlaysRow=true:=by kernel_rfl
theorem j9:jf9 Tryz.prog 3 Tryz.f3 Rows.shardPlaysSpec Rows.shardPlaysRow=true:=by kernel_rfl
theorem j10:jf10 Tryz.prog 3 Tryz.f3 Rows.shardPlaysSpec Rows.shardPlaysRow=true:=by kernel_rfl
theorem j11:jf11 Tryz.prog 3 Tryz.f3 Rows.shardPlaysSpec Rows.shardPlaysRow=true:=by kernel_rfl
theorem j12:jf12 Tryz.prog 3 Tryz.f3 Rows.shardPlaysSpec Rows.shardPlaysRow=true:=by kernel_rfl
theorem j13:jf13 Tryz.prog 3 Tryz.f3 Rows.shardPlaysSpec Rows.shardPlaysRow=true:=by kernel_rfl
theorem j14:jf14 Tryz.prog 3 Tryz.f3 Rows.shardPlaysSpec Rows.shardPlaysRow=true:=by kernel_rfl
theorem j15:jf15 Tryz.prog 3 Tryz.f3 Rows.shardPlaysSpec Rows.shardPlaysRow=true:=by kernel_rfl
theorem j16:jf16 Tryz.prog 3 Tryz.f3 Rows.shardPlaysSpec Rows.shardPlaysRow=true:=by kernel_rfl
theorem j17:jf17 Tryz.prog 3 Tryz.f3 Rows.shardPlaysSpec Rows.shardPlaysRow=true:=by kernel_rfl
theorem j18:jf18 Tryz.prog 3 Tryz.f3 Rows.shardPlaysSpec Rows.shardPlaysRow=true:=by kernel_rfl
theorem j19:jf19 Tryz.prog 3 Tryz.f3 Rows.shardPlaysSpec Rows.shardPlaysRow=true:=by kernel_rfl
theorem j20:jf20 Tryz.prog 3 Tryz.f3 Rows.shardPlaysSpec Rows.shardPlaysRow=true:=by kernel_rfl
theorem j21:jf21 Tryz.prog 3 Tryz.f3 Rows.shardPlaysSpec Rows.shardPlaysRow=true:=by kernel_rfl
theorem j22:jf22 Tryz.prog 3 Tryz.f3 Rows.shardPlaysSpec Rows.shardPlaysRow=true:=by kernel_rfl
theorem j23:jf23 Tryz.prog 3 Tryz.f3 Rows.shardPlaysSpec Rows.shardPlaysRow=true:=by kernel_rfl
theorem j24:jf24 Tryz.prog 3 Tryz.f3 Rows.shardPlaysSpec Rows.shardPlaysRow=true:=by kernel_rfl
theorem j25:jf25 Tryz.prog 3 Tryz.f3 Rows.shardPlaysSpec Rows.shardPlaysRow=true:=by kernel_rfl
theorem j26:jf26 Tryz.prog 3 Tryz.f3 Rows.shardPlaysSpec Rows.shardPlaysRow=true:=by kernel_rfl
theorem j27:jf27 Tryz.prog 3 Tryz.f3 Rows.shardPlaysSpec Rows.shardPlaysRow=true:=by kernel_rfl
theorem j28:jf28 Tryz.prog 3 Tryz.f3 Rows.shardPlaysSpec Rows.shardPlaysRow=true:=by kernel_rfl
theorem j29:jf29 Tryz.prog 3 Tryz.f3 Rows.shardPlaysSpec Rows.shardPlaysRow=true:=by kernel_rfl
theorem j30:jf30 Tryz.prog 3 Tryz.f3 Rows.shardPlaysSpec Rows.shardPlaysRow=true:=by kernel_rfl
theorem j31:jf31 Tryz.prog 3 Tryz.f3 Rows.shardPlaysSpec Rows.shardPlaysRow=true:=by kernel_rfl
theorem j32:jf32 Tryz.prog 3 Tryz.f3 Rows.shardPlaysSpec Rows.shardPlaysRow=true:=by kernel_rfl
theorem over:Rows.shardPlaysRow.holds Tryz.pinned (OpenSpec.ofChange Rows.shardPlaysSpec):=
  OpenClaim.holds_of_wide 3 Tryz.f3 rfl rfl rfl rfl rfl rfl rfl ⟨rfl,rfl,rfl,rfl,rfl⟩ rfl rfl rfl rfl rfl (by as_aux_lemma=>kernel_rfl) Tryz.func3 (joined_of j1 j2 j3 j4 j5 j6 j7 j8 j9 j10 j11 j12 j13 j14 j15 j16 j17 j18 j19 j20 j21 j22 j23 j24 j25 j26 j27 j28 j29 j30 j31 j32)
    (of_decide_eq_true (by as_aux_lemma=>kernel_rfl)) (by unfold Func.isWrapper;first|(rw[if_pos (by decide +kernel)];kernel_rfl)|(rw[if_neg (by decide +kernel)];exact ⟨rfl,rfl⟩))
    (λos started H enc _=>lifted os started H enc)
theorem proved:Rows.ShardPlaysCardSaid:=
  Claim7.holds_tied_plain_at .later [] [.data] true Rows.shardPlaysCard.stood.harness Rows.shardPlaysCard.stood.looks
    over (λ_ h=>by cases h) (by as_aux_lemma=>kernel_rfl) (λ_ h=>by cases h) shardPlays_row_tie rfl ⟨rfl,rfl⟩ (by as_aux_lemma=>kernel_rfl) rfl
    (λf fn hf hfn=>by
      obtain rfl:f=3:=Option.some.inj ((show Tryz.prog.funcNamed "steelyard/steelyardlaw21.ShardPlays"=some 3 from (by as_aux_lemma=>kernel_rfl)).symm.trans hf) |>.symm
      obtain rfl:fn=Tryz.f3:=(Option.some.inj (Tryz.func3.symm.trans hfn)).symm
      exact ⟨(by as_aux_lemma=>kernel_rfl),λj t ht=>by
        have hm:t∈Tryz.f3.params.toList:=by simpa using Array.mem_of_getElem? ht
        have hall:(Tryz.f3.params.toList.all λu=>!Tryz.prog.wantsStandIn u)=true:=by kernel_rfl
        exact (show Tryz.prog.wantsStandIn t=false by simpa using List.all_eq_true.1 hall t hm)⟩)
    (by as_aux_lemma=>kernel_rfl)
end shardPlays
end Go.Proofs.YtomlallhlakhfaaGreatDoor