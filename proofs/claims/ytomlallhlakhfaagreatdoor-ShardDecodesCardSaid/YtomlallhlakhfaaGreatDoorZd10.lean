/- The statement on ShardDecodes. -/
import Derived.Test.YtomlallhlakhfaaGreatDoorZd9
import Derived.Test.YtomlallhlakhfaaGreatDoorTie
import Derived.Test.YtomlallhlakhfaaGreatDoorCards
set_option linter.unusedVariables false
set_option linter.unusedSimpArgs false
set_option maxRecDepth 100000
set_option maxHeartbeats 4000000
namespace Go.Proofs.YtomlallhlakhfaaGreatDoor
namespace shardDecodes
open Go.ChangeShapes Go.WideShapes Go.ChangeAt Go.RowKit
theorem lifted(os:Os)(b:os.Started)(H:Type)(enc:TypeId×Value->H):
    ReturnsInHanded {} Tryz.checked os 4 .any (λw args=>(Rows.shardDecodesSpec.pre enc Tryz.prog Tryz.f4 Rows.shardDecodesRow.domain false w args/\laidMetH Tryz.prog [("math/bits.deBruijn32tab",Rows.laid_math_bits_deBruijn32tab)] w)/\sizedMet enc Tryz.prog Tryz.f4 (OpenSpec.ofChange Rows.shardDecodesSpec) false w args) (Rows.shardDecodesSpec.post enc Tryz.prog Tryz.f4 false true false false):=by
  refine returnsInHanded_of_change_and (C:=Tryz.checked) (X:=λw _=>laidMetH Tryz.prog [("math/bits.deBruijn32tab",Rows.laid_math_bits_deBruijn32tab)] w) (λ_ _ _ hh h=>h.of_heap hh) own b oR Tryz.func4
    (ChangeSpec.witness_shaped (enc:=enc) (C:=Tryz.checked) (os:=os) (X:=λw _=>laidMetH Tryz.prog [("math/bits.deBruijn32tab",Rows.laid_math_bits_deBruijn32tab)] w) false (World.doorLaid Tryz.prog 400 os) #[.slice none 0 0,.agg #[.int .i64 0,.int .i64 0,.int .i64 0,.float .f64 0,.slice none 0 0,.int .i64 0,.int .i64 0,.int .i64 0,.int .i64 0,.int .i64 0,.slice none 0 0],.float .f64 0] 8 rfl (World.shaped_of_RefB oR oR) oR oR oR (door_met os _)) ?_
  intro W y args ds gs z c hW a6 r hL _
  have Y:=gw_of_laid hL
  have a : ∀ (j:Nat) t v,Tryz.f4.params[j]?=some t->args[j]?=some v->Value.okWide Tryz.prog W .any y t v:=c
  have k:(DataW.weightsEach Tryz.prog (Tryz.f4.params.toList++[]) (ds++gs)).all (·<=reachBytes)=true:=r
  have V:=hW
  obtain ⟨p,q,u,hV,rfl,c5,c3⟩:=hW
  have hA:DataW.TrodAll enc Tryz.prog W 0 (λ_=>true) true Tryz.f4.params.toList args.toList ds p:=u
  rw[Tryz.params4] at hA a k
  obtain ⟨A,b5,d0,d6,p0,q0,U,rfl,rfl,h0,r0⟩:=trodAll_cons hA
  obtain ⟨v1,b4,d1,d5,p1,q1,rfl,rfl,rfl,h1,r1⟩:=trodAll_cons r0
  obtain ⟨v2,b3,d2,d4,p2,q2,rfl,rfl,rfl,h2,r2⟩:=trodAll_cons r1
  obtain ⟨rfl,rfl,rfl⟩:=trodAll_nil r2
  obtain rfl:args = #[A,v1,v2]:=by cases args;simp_all
  obtain ⟨rfl,rfl⟩:=trodVars_none hV
  simp only[List.append_nil] at k
  have k0:=h0
  have T : ∀ x∈p0,x.block<W.heap.size:=by obtain ⟨m,s⟩:=k0;exact DataW.trod_lt m _ _ _ s
  obtain ⟨l0,Z⟩:=open_by Tryz.underlying35 Tryz.underlying5 oR oR (a 0 35 A rfl rfl) h0 (λelems spare hd=>sized_slice (j:=0) k rfl (by rw[<- hd];rfl) Tryz.underlying35)
  have k1:=h1
  have R : ∀ x∈p1,x.block<W.heap.size:=by obtain ⟨m,s⟩:=k1;exact DataW.trod_lt m _ _ _ s
  obtain ⟨O,I,G,M,o,J,B,D,F,l,n,rfl,g,i⟩:=open_op1 (a 1 37 v1 rfl rfl) h1
  have k2:=h2
  have Q : ∀ x∈p2,x.block<W.heap.size:=by obtain ⟨m,s⟩:=k2;exact DataW.trod_lt m _ _ _ s
  obtain ⟨a2,rfl,a0⟩:=open_float1 Tryz.underlying31 (a 2 31 v2 rfl rfl) h2
  clear u c
  refine Calls.mono (cpx A l0 O I G M o J B D F l n a2 W Y Z g i a0) λe W' ⟨v,he,hv,hc⟩=>?_
  subst he
  subst hv
  have d:Below W.heap.size W W':=hc.below
  exact ⟨_,rfl,_,_,_,[],_,[],V,trodAll_mk1 (shut_bool Tryz.underlying4 _),(trodAll_cons_mk (Below.trod laidOut oR (of_decide_eq_true oR) k0 d T) (trodAll_cons_mk (Below.trod laidOut oR (of_decide_eq_true oR) k1 d R) (trodAll_cons_mk (Below.trod laidOut oR (of_decide_eq_true oR) k2 d Q) trodAll_mk0))),rfl,d.frame _,λh=>by cases h⟩
theorem j1:jf1 Tryz.prog 4 Tryz.f4 Rows.shardDecodesSpec Rows.shardDecodesRow=true:=by kernel_rfl
theorem j2:jf2 Tryz.prog 4 Tryz.f4 Rows.shardDecodesSpec Rows.shardDecodesRow=true:=by kernel_rfl
theorem j3:jf3 Tryz.prog 4 Tryz.f4 Rows.shardDecodesSpec Rows.shardDecodesRow=true:=by kernel_rfl
theorem j4:jf4 Tryz.prog 4 Tryz.f4 Rows.shardDecodesSpec Rows.shardDecodesRow=true:=by kernel_rfl
theorem j5:jf5 Tryz.prog 4 Tryz.f4 Rows.shardDecodesSpec Rows.shardDecodesRow=true:=by kernel_rfl
theorem j6:jf6 Tryz.prog 4 Tryz.f4 Rows.shardDecodesSpec Rows.shardDecodesRow=true:=by kernel_rfl
theorem j7:jf7 Tryz.prog 4 Tryz.f4 Rows.shardDecodesSpec Rows.shardDecodesRow=true:=by kernel_rfl
theorem j8:jf8 Tryz.prog 4 Tryz.f4 Rows.shardDecodesSpec Rows.shardDecodesRow=true:=by kernel_rfl
theorem j9:jf9 Tryz.prog 4 Tryz.f4 Rows.shardDecodesSpec Rows.shardDecodesRow=true:=by kernel_rfl
theorem j10:jf10 Tryz.prog 4 Tryz.f4 Rows.shardDecodesSpec Rows.shardDecodesRow=true:=by kernel_rfl
theorem j11:jf11 Tryz.prog 4 Tryz.f4 Rows.shardDecodesSpec Rows.shardDecodesRow=true:=by kernel_rfl
theorem j12:jf12 Tryz.prog 4 Tryz.f4 Rows.shardDecodesSpec Rows.shardDecodesRow=true:=by kernel_rfl
theorem j13:jf13 Tryz.prog 4 Tryz.f4 Rows.shardDecodesSpec Rows.shardDecodesRow=true:=by kernel_rfl
theorem j14:jf14 Tryz.prog 4 Tryz.f4 Rows.shardDecodesSpec Rows.shardDecodesRow=true:=by kernel_rfl
theorem j15:jf15 Tryz.prog 4 Tryz.f4 Rows.shardDecodesSpec Rows.shardDecodesRow=true:=by kernel_rfl
theorem j16:jf16 Tryz.prog 4 Tryz.f4 Rows.shardDecodesSpec Rows.shardDecodesRow=true:=by kernel_rfl
theorem j17:jf17 Tryz.prog 4 Tryz.f4 Rows.shardDecodesSpec Rows.shardDecodesRow=true:=by kernel_rfl
theorem j18:jf18 Tryz.prog 4 Tryz.f4 Rows.shardDecodesSpec Rows.shardDecodesRow=true:=by kernel_rfl
theorem j19:jf19 Tryz.prog 4 Tryz.f4 Rows.shardDecodesSpec Rows.shardDecodesRow=true:=by kernel_rfl
theorem j20:jf20 Tryz.prog 4 Tryz.f4 Rows.shardDecodesSpec Rows.shardDecodesRow=true:=by kernel_rfl
theorem j21:jf21 Tryz.prog 4 Tryz.f4 Rows.shardDecodesSpec Rows.shardDecodesRow=true:=by kernel_rfl
theorem j22:jf22 Tryz.prog 4 Tryz.f4 Rows.shardDecodesSpec Rows.shardDecodesRow=true:=by kernel_rfl
theorem j23:jf23 Tryz.prog 4 Tryz.f4 Rows.shardDecodesSpec Rows.shardDecodesRow=true:=by kernel_rfl
theorem j24:jf24 Tryz.prog 4 Tryz.f4 Rows.shardDecodesSpec Rows.shardDecodesRow=true:=by kernel_rfl
theorem j25:jf25 Tryz.prog 4 Tryz.f4 Rows.shardDecodesSpec Rows.shardDecodesRow=true:=by kernel_rfl
theorem j26:jf26 Tryz.prog 4 Tryz.f4 Rows.shardDecodesSpec Rows.shardDecodesRow=true:=by kernel_rfl
theorem j27:jf27 Tryz.prog 4 Tryz.f4 Rows.shardDecodesSpec Rows.shardDecodesRow=true:=by kernel_rfl
theorem j28:jf28 Tryz.prog 4 Tryz.f4 Rows.shardDecodesSpec Rows.shardDecodesRow=true:=by kernel_rfl
theorem j29:jf29 Tryz.prog 4 Tryz.f4 Rows.shardDecodesSpec Rows.shardDecodesRow=true:=by kernel_rfl
theorem j30:jf30 Tryz.prog 4 Tryz.f4 Rows.shardDecodesSpec Rows.shardDecodesRow=true:=by kernel_rfl
theorem j31:jf31 Tryz.prog 4 Tryz.f4 Rows.shardDecodesSpec Rows.shardDecodesRow=true:=by kernel_rfl
theorem j32:jf32 Tryz.prog 4 Tryz.f4 Rows.shardDecodesSpec Rows.shardDecodesRow=true:=by kernel_rfl
theorem over:Rows.shardDecodesRow.holds Tryz.pinned (OpenSpec.ofChange Rows.shardDecodesSpec):=
  OpenClaim.holds_of_wide 4 Tryz.f4 rfl rfl rfl rfl rfl rfl rfl ⟨rfl,rfl,rfl,rfl,rfl⟩ rfl rfl rfl rfl rfl (by as_aux_lemma=>kernel_rfl) Tryz.func4 (joined_of j1 j2 j3 j4 j5 j6 j7 j8 j9 j10 j11 j12 j13 j14 j15 j16 j17 j18 j19 j20 j21 j22 j23 j24 j25 j26 j27 j28 j29 j30 j31 j32)
    (of_decide_eq_true (by as_aux_lemma=>kernel_rfl)) (by unfold Func.isWrapper;first|(rw[if_pos (by decide +kernel)];kernel_rfl)|(rw[if_neg (by decide +kernel)];exact ⟨rfl,rfl⟩))
    (λos started H enc _=>lifted os started H enc)
theorem proved:Rows.ShardDecodesCardSaid:=
  Claim7.holds_tied_plain_at .later [] [.data] true Rows.shardDecodesCard.stood.harness Rows.shardDecodesCard.stood.looks
    over (λ_ h=>by cases h) (by as_aux_lemma=>kernel_rfl) (λ_ h=>by cases h) shardDecodes_row_tie rfl ⟨rfl,rfl⟩ (by as_aux_lemma=>kernel_rfl) rfl
    (λf fn hf hfn=>by
      obtain rfl:f=4:=Option.some.inj ((show Tryz.prog.funcNamed "steelyard/steelyardlaw21.ShardDecodes"=some 4 from (by as_aux_lemma=>kernel_rfl)).symm.trans hf) |>.symm
      obtain rfl:fn=Tryz.f4:=(Option.some.inj (Tryz.func4.symm.trans hfn)).symm
      exact ⟨(by as_aux_lemma=>kernel_rfl),λj t ht=>by
        have hm:t∈Tryz.f4.params.toList:=by simpa using Array.mem_of_getElem? ht
        have hall:(Tryz.f4.params.toList.all λu=>!Tryz.prog.wantsStandIn u)=true:=by kernel_rfl
        exact (show Tryz.prog.wantsStandIn t=false by simpa using List.all_eq_true.1 hall t hm)⟩)
    (by as_aux_lemma=>kernel_rfl)
end shardDecodes
end Go.Proofs.YtomlallhlakhfaaGreatDoor