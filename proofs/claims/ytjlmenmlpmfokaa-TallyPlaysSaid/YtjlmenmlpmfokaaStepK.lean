/- Package steelyardlaw18: play.step, the calls on a tally. No condition. -/
import Derived.Test.YtjlmenmlpmfokaaStepAny
namespace Go.Proofs.Ytjlmenmlpmfokaa
open Go Sx Fl Ty
set_option linter.unusedVariables false
set_option linter.unusedSimpArgs false

set_option maxRecDepth 20000 in
set_option maxHeartbeats 2000000 in
theorem step_add (m pp k : Nat) (on wi nn : Int) (xb : Nat) (jj : Bool) (hon : -9223372036854775808 ≤ on ∧ on ≤ 9223372036854775807) (hwi : -9223372036854775808 ≤ wi ∧ wi ≤ 9223372036854775807) (hxb : xb < 18446744073709551616) (w : World) (hS : SX m w pp true k) : Ret Try.prog 6 [.pointer (some ⟨pp, 0, none⟩), .agg [.int .i64 2, .int .i64 on, .int .i64 wi, .int .i64 nn, .float .f64 xb, .bool jj].toArray] w fun u w' => u = .bool true ∧ SX m w' pp true (k + 1) ∧ RowKit.Below m w w' := by
  obtain ⟨vl, vc, vw, ts, cv, wv, cs, h, hC, he, h16, hk⟩ := hS
  have hts := he rfl
  have hm0 : m ≤ w.heap.size := by have := h.mp; have := lt_of_heap h.cell; omega
  have hcl := hC.lc
  have hcw := hC.lw
  refine Ret.enter Try.func6 rfl rfl ?_
  refine CW.seq fun kK1 kh1 => ?_
  refine CW.region fun kR2 kr2 => ?_  -- region 0
  refine WL.box (l := [.int .i64 2, .int .i64 on, .int .i64 wi, .int .i64 nn, .float .f64 xb, .bool jj]) rfl rfl rfl fun b3 u1 n3 => ?_
  have h1 := h.keep0 n3.chg
  have hC1 := hC.keep n3.chg (by simp)
  have k30 : u1.cell? ⟨b3, 0, none⟩ = some (.int .i64 2) := by rw [cell_at n3.at_]; rfl
  have k31 : u1.cell? ⟨b3, 1, none⟩ = some (.int .i64 on) := by rw [cell_at n3.at_]; rfl
  have k32 : u1.cell? ⟨b3, 2, none⟩ = some (.int .i64 wi) := by rw [cell_at n3.at_]; rfl
  have k33 : u1.cell? ⟨b3, 3, none⟩ = some (.int .i64 nn) := by rw [cell_at n3.at_]; rfl
  have k34 : u1.cell? ⟨b3, 4, none⟩ = some (.float .f64 xb) := by rw [cell_at n3.at_]; rfl
  have k35 : u1.cell? ⟨b3, 5, none⟩ = some (.bool jj) := by rw [cell_at n3.at_]; rfl
  refine WL.ev (Ev.assign rfl) rfl ?_
  refine WL.nil (kr2 _ _ _ ?_)
  refine kh1 _ _ _ ?_
  refine CW.seq fun kK3 kh3 => ?_
  refine CW.seq fun kK4 kh4 => ?_
  refine CW.region fun kR5 kr5 => ?_  -- region 1
  refine WL.ev (Ev.fieldAddr rfl) rfl ?_
  refine WL.ev (Ev.load rfl rfl (k30)) rfl ?_
  refine WL.ev (Ev.eql rfl rfl) rfl ?_
  refine WL.nil (kr5 _ _ _ ?_)
  refine kh4 _ _ _ ?_
  refine CW.condF rfl ?_
  refine CW.skip ?_
  refine kh3 _ _ _ ?_
  refine CW.seq fun kK6 kh6 => ?_
  refine CW.region fun kR7 kr7 => ?_  -- region 6
  refine WL.ev (Ev.move rfl) rfl ?_
  refine WL.ev (Ev.fieldAddr rfl) rfl ?_
  refine WL.ev (Ev.load rfl rfl (k31)) rfl ?_
  refine WL.call hasF23 rfl rfl (at_spec m pp vl vc vw ts cv wv on hon _ h1 hts) fun v w1 h' => ?_
  obtain ⟨hca, x, hx, rfl⟩ := h'
  have hlx := h.lts x hx
  obtain ⟨_, _, _, _, _, _, _, hmx⟩ := h.pr x hx
  refine WL.alloc (l := [.pointer none, .pointer none]) rfl rfl fun b6 x1 n6 => ?_
  refine WL.storeAgg (vs := [.pointer (some ⟨x.1, 0, none⟩), .pointer (some ⟨x.2.2.1, 0, none⟩)]) rfl rfl rfl (flatB_one [x]) n6.at_ (by simp) fun x2 s6 => ?_
  have g3 := n3.ge
  have g6 := n6.ge
  have gs := hca.size
  have gz := n3.size
  have V : Chg [] u1 x2 := (hca.trans n6.chg).step s6.chg (fun q hq => .inr (by simp only [List.mem_singleton] at hq; omega))
  have h2 := h1.keep0 V
  have hC2 := hC1.keep V (by simp)
  have k60 : x2.cell? ⟨b6, 0, none⟩ = some (.pointer (some ⟨x.1, 0, none⟩)) := by rw [cell_at s6.at_]; rfl
  have k61 : x2.cell? ⟨b6, 1, none⟩ = some (.pointer (some ⟨x.2.2.1, 0, none⟩)) := by rw [cell_at s6.at_]; rfl
  refine WL.nil (kr7 _ _ _ ?_)
  refine kh6 _ _ _ ?_
  refine CW.seq fun kK8 kh8 => ?_
  refine CW.seq fun kK9 kh9 => ?_
  refine CW.region fun kR10 kr10 => ?_  -- region 7
  refine WL.ev (Ev.fieldAddr rfl) rfl ?_
  refine WL.ev (Ev.load rfl rfl (V.cell k30 (by simp))) rfl ?_
  refine WL.nil (kr10 _ _ _ ?_)
  refine kh9 _ _ _ ?_
  refine CW.block ?_
  refine CW.seq fun kK11 kh11 => ?_
  refine CW.region fun kR12 kr12 => ?_  -- region 8
  refine WL.ev (Ev.eql rfl rfl) rfl ?_
  refine WL.ev (Ev.assign rfl) rfl ?_
  refine WL.nil (kr12 _ _ _ ?_)
  refine kh11 _ _ _ ?_
  refine CW.condT rfl ?_
  refine CW.seq fun kK13 kh13 => ?_
  refine CW.regionH (fun w' : World => w'.cell? ⟨b6, 0, none⟩ = some (.pointer (some ⟨x.1, 0, none⟩)) ∧ w'.cell? ⟨b6, 1, none⟩ = some (.pointer (some ⟨x.2.2.1, 0, none⟩)) ∧ w'.cell? ⟨b3, 4, none⟩ = some (.float .f64 xb)) 12 rfl hmix fun kR14 kr14 => ?_  -- region 9
  have hS : (fun w' : World => w'.cell? ⟨b6, 0, none⟩ = some (.pointer (some ⟨x.1, 0, none⟩)) ∧ w'.cell? ⟨b6, 1, none⟩ = some (.pointer (some ⟨x.2.2.1, 0, none⟩)) ∧ w'.cell? ⟨b3, 4, none⟩ = some (.float .f64 xb)) x2.drew := ⟨(Chg.drew [] x2).cell k60 (by simp), (Chg.drew [] x2).cell k61 (by simp), (Chg.drew [] x2).cell (V.cell k34 (by simp)) (by simp)⟩
  obtain ⟨f, n, v, l, hP⟩ := (h2.pr x hx).px
  have hP5 := hP.keep (Chg.drew [] x2) (by simp)
  have htt := hP5.tc.tot hP5.sl
  refine WH.take 0 rfl (by kernel_rfl) (by kernel_rfl) (by kernel_rfl) hS (fun w' hw' => Ev.fieldAddr rfl) rfl ?_
  refine WH.take 1 rfl (by kernel_rfl) (by kernel_rfl) (by kernel_rfl) hS (fun w' hw' => Ev.load rfl rfl (hw'.1)) rfl ?_
  refine WH.take 2 rfl (by kernel_rfl) (by kernel_rfl) (by kernel_rfl) hS (fun w' hw' => Ev.fieldAddr rfl) rfl ?_
  refine WH.take 3 rfl (by kernel_rfl) (by kernel_rfl) (by kernel_rfl) hS (fun w' hw' => Ev.load rfl rfl (hw'.2.2)) rfl ?_
  refine WH.take 5 rfl (by kernel_rfl) (by kernel_rfl) (by kernel_rfl) hS (fun w' hw' => Ev.fieldAddr rfl) rfl ?_
  refine WH.take 6 rfl (by kernel_rfl) (by kernel_rfl) (by kernel_rfl) hS (fun w' hw' => Ev.load rfl rfl (hw'.2.1)) rfl ?_
  refine WH.take 7 rfl (by kernel_rfl) (by kernel_rfl) (by kernel_rfl) hS (fun w' hw' => Ev.fieldAddr rfl) rfl ?_
  refine WH.take 8 rfl (by kernel_rfl) (by kernel_rfl) (by kernel_rfl) hS (fun w' hw' => Ev.load rfl rfl (hw'.2.2)) rfl ?_
  refine WH.oneCall 4 rfl (by kernel_rfl) hasF10 rfl rfl (any_Add hxb hP5.tc) fun v w2 h' => ?_
  obtain ⟨e1, f1, n1, rfl, hc1, ht1, hd1⟩ := h'
  have hS := (⟨hc1.cell hS.1 (by simp; omega), hc1.cell hS.2.1 (by simp; omega), hc1.cell hS.2.2 (by simp; omega)⟩ : _ ∧ _ ∧ _)
  refine ⟨hS, ?_⟩
  refine WH.oneCall 9 rfl (by kernel_rfl) hasF24 rfl rfl (any_refAdd hxb (hP5.refA hc1)) fun v w3 h' => ?_
  obtain ⟨e2, v2, l2, rfl, hc2, hr2, hd2⟩ := h'
  have hS := (⟨hc2.cell hS.1 (by simp; omega), hc2.cell hS.2.1 (by simp; omega), hc2.cell hS.2.2 (by simp; omega)⟩ : _ ∧ _ ∧ _)
  refine ⟨hS, ?_⟩
  refine WH.take 10 rfl (by kernel_rfl) (by kernel_rfl) (by kernel_rfl) hS (fun w' hw' => Ev.eql rfl rfl) rfl ?_
  have hee : e1 = e2 := by
    rcases hd1 with ⟨q1, rfl, _⟩ | ⟨q1, rfl, _⟩ <;> rcases hd2 with ⟨q2, rfl, _⟩ | ⟨q2, rfl, _⟩ <;> first | rfl | (exfalso; omega)
  refine WH.val (v' := .bool true) (by simp [hee]) ?_
  refine WH.take 11 rfl (by kernel_rfl) (by kernel_rfl) (by kernel_rfl) hS (fun w' hw' => Ev.assign rfl) rfl ?_
  refine WH.done (by kernel_rfl) (kr14 _ _ _ ?_)
  refine kh13 _ _ _ ?_
  refine CW.ret ?_
  refine bodyA.ret1 rfl rfl ?_
  have hcnt : ∀ k, cnt l2 k = f1 k := fun k => by
    have hs := hP5.sl.cnt k
    rcases hd1 with ⟨q1, _, z1⟩ | ⟨q1, _, z1⟩ <;> rcases hd2 with ⟨q2, _, z2⟩ | ⟨q2, _, z2⟩
    · rw [z1, z2, hs]
    · omega
    · omega
    · rw [z1, z2, hs]
  have hPn : PX w3 x f1 n1 v2 l2 := ⟨tcB ht1 (hP5.refA hc1) hc2, hr2, ⟨hr2.srt, hr2.pos, hcnt⟩⟩
  obtain ⟨hPB, hCM2, hcx⟩ := (h2.keep0 (Chg.drew [] x2)).turn hx hc1 hc2 (hPn.pair hmx)
  exact ⟨rfl, ⟨vl, vc, vw, ts, cv, wv, cs, hPB, hCM2 cs (hC2.keep (Chg.drew [] x2) (by simp)), fun _ => hts, h16, by omega⟩, below_chg ((((n3.chg.trans V).trans (Chg.drew _ x2)).any (T := [x.1, x.2.1, x.2.2.1])).trans hcx) (fun y hy => by simp only [List.mem_cons, List.not_mem_nil, or_false] at hy; omega) hm0⟩

set_option maxRecDepth 20000 in
set_option maxHeartbeats 2000000 in
theorem step_take (m pp k : Nat) (on wi nn : Int) (xb : Nat) (jj : Bool) (hon : -9223372036854775808 ≤ on ∧ on ≤ 9223372036854775807) (hwi : -9223372036854775808 ≤ wi ∧ wi ≤ 9223372036854775807) (hxb : xb < 18446744073709551616) (w : World) (hS : SX m w pp true k) : Ret Try.prog 6 [.pointer (some ⟨pp, 0, none⟩), .agg [.int .i64 3, .int .i64 on, .int .i64 wi, .int .i64 nn, .float .f64 xb, .bool jj].toArray] w fun u w' => u = .bool true ∧ SX m w' pp true (k + 1) ∧ RowKit.Below m w w' := by
  obtain ⟨vl, vc, vw, ts, cv, wv, cs, h, hC, he, h16, hk⟩ := hS
  have hts := he rfl
  have hm0 : m ≤ w.heap.size := by have := h.mp; have := lt_of_heap h.cell; omega
  have hcl := hC.lc
  have hcw := hC.lw
  refine Ret.enter Try.func6 rfl rfl ?_
  refine CW.seq fun kK1 kh1 => ?_
  refine CW.region fun kR2 kr2 => ?_  -- region 0
  refine WL.box (l := [.int .i64 3, .int .i64 on, .int .i64 wi, .int .i64 nn, .float .f64 xb, .bool jj]) rfl rfl rfl fun b3 u1 n3 => ?_
  have h1 := h.keep0 n3.chg
  have hC1 := hC.keep n3.chg (by simp)
  have k30 : u1.cell? ⟨b3, 0, none⟩ = some (.int .i64 3) := by rw [cell_at n3.at_]; rfl
  have k31 : u1.cell? ⟨b3, 1, none⟩ = some (.int .i64 on) := by rw [cell_at n3.at_]; rfl
  have k32 : u1.cell? ⟨b3, 2, none⟩ = some (.int .i64 wi) := by rw [cell_at n3.at_]; rfl
  have k33 : u1.cell? ⟨b3, 3, none⟩ = some (.int .i64 nn) := by rw [cell_at n3.at_]; rfl
  have k34 : u1.cell? ⟨b3, 4, none⟩ = some (.float .f64 xb) := by rw [cell_at n3.at_]; rfl
  have k35 : u1.cell? ⟨b3, 5, none⟩ = some (.bool jj) := by rw [cell_at n3.at_]; rfl
  refine WL.ev (Ev.assign rfl) rfl ?_
  refine WL.nil (kr2 _ _ _ ?_)
  refine kh1 _ _ _ ?_
  refine CW.seq fun kK3 kh3 => ?_
  refine CW.seq fun kK4 kh4 => ?_
  refine CW.region fun kR5 kr5 => ?_  -- region 1
  refine WL.ev (Ev.fieldAddr rfl) rfl ?_
  refine WL.ev (Ev.load rfl rfl (k30)) rfl ?_
  refine WL.ev (Ev.eql rfl rfl) rfl ?_
  refine WL.nil (kr5 _ _ _ ?_)
  refine kh4 _ _ _ ?_
  refine CW.condF rfl ?_
  refine CW.skip ?_
  refine kh3 _ _ _ ?_
  refine CW.seq fun kK6 kh6 => ?_
  refine CW.region fun kR7 kr7 => ?_  -- region 6
  refine WL.ev (Ev.move rfl) rfl ?_
  refine WL.ev (Ev.fieldAddr rfl) rfl ?_
  refine WL.ev (Ev.load rfl rfl (k31)) rfl ?_
  refine WL.call hasF23 rfl rfl (at_spec m pp vl vc vw ts cv wv on hon _ h1 hts) fun v w1 h' => ?_
  obtain ⟨hca, x, hx, rfl⟩ := h'
  have hlx := h.lts x hx
  obtain ⟨_, _, _, _, _, _, _, hmx⟩ := h.pr x hx
  refine WL.alloc (l := [.pointer none, .pointer none]) rfl rfl fun b6 x1 n6 => ?_
  refine WL.storeAgg (vs := [.pointer (some ⟨x.1, 0, none⟩), .pointer (some ⟨x.2.2.1, 0, none⟩)]) rfl rfl rfl (flatB_one [x]) n6.at_ (by simp) fun x2 s6 => ?_
  have g3 := n3.ge
  have g6 := n6.ge
  have gs := hca.size
  have gz := n3.size
  have V : Chg [] u1 x2 := (hca.trans n6.chg).step s6.chg (fun q hq => .inr (by simp only [List.mem_singleton] at hq; omega))
  have h2 := h1.keep0 V
  have hC2 := hC1.keep V (by simp)
  have k60 : x2.cell? ⟨b6, 0, none⟩ = some (.pointer (some ⟨x.1, 0, none⟩)) := by rw [cell_at s6.at_]; rfl
  have k61 : x2.cell? ⟨b6, 1, none⟩ = some (.pointer (some ⟨x.2.2.1, 0, none⟩)) := by rw [cell_at s6.at_]; rfl
  refine WL.nil (kr7 _ _ _ ?_)
  refine kh6 _ _ _ ?_
  refine CW.seq fun kK8 kh8 => ?_
  refine CW.seq fun kK9 kh9 => ?_
  refine CW.region fun kR10 kr10 => ?_  -- region 7
  refine WL.ev (Ev.fieldAddr rfl) rfl ?_
  refine WL.ev (Ev.load rfl rfl (V.cell k30 (by simp))) rfl ?_
  refine WL.nil (kr10 _ _ _ ?_)
  refine kh9 _ _ _ ?_
  refine CW.block ?_
  refine CW.seq fun kK11 kh11 => ?_
  refine CW.region fun kR12 kr12 => ?_  -- region 8
  refine WL.ev (Ev.eql rfl rfl) rfl ?_
  refine WL.ev (Ev.assign rfl) rfl ?_
  refine WL.nil (kr12 _ _ _ ?_)
  refine kh11 _ _ _ ?_
  refine CW.condF rfl ?_
  refine CW.seq fun kK13 kh13 => ?_
  refine CW.region fun kR14 kr14 => ?_  -- region 10
  refine WL.ev (Ev.eql rfl rfl) rfl ?_
  refine WL.ev (Ev.assign rfl) rfl ?_
  refine WL.nil (kr14 _ _ _ ?_)
  refine kh13 _ _ _ ?_
  refine CW.condT rfl ?_
  refine CW.seq fun kK15 kh15 => ?_
  refine CW.regionH (fun w' : World => w'.cell? ⟨b6, 0, none⟩ = some (.pointer (some ⟨x.1, 0, none⟩)) ∧ w'.cell? ⟨b6, 1, none⟩ = some (.pointer (some ⟨x.2.2.1, 0, none⟩)) ∧ w'.cell? ⟨b3, 4, none⟩ = some (.float .f64 xb)) 12 rfl hmix fun kR16 kr16 => ?_  -- region 11
  have hS : (fun w' : World => w'.cell? ⟨b6, 0, none⟩ = some (.pointer (some ⟨x.1, 0, none⟩)) ∧ w'.cell? ⟨b6, 1, none⟩ = some (.pointer (some ⟨x.2.2.1, 0, none⟩)) ∧ w'.cell? ⟨b3, 4, none⟩ = some (.float .f64 xb)) x2.drew := ⟨(Chg.drew [] x2).cell k60 (by simp), (Chg.drew [] x2).cell k61 (by simp), (Chg.drew [] x2).cell (V.cell k34 (by simp)) (by simp)⟩
  obtain ⟨f, n, v, l, hP⟩ := (h2.pr x hx).px
  have hP5 := hP.keep (Chg.drew [] x2) (by simp)
  have htt := hP5.tc.tot hP5.sl
  refine WH.take 0 rfl (by kernel_rfl) (by kernel_rfl) (by kernel_rfl) hS (fun w' hw' => Ev.fieldAddr rfl) rfl ?_
  refine WH.take 1 rfl (by kernel_rfl) (by kernel_rfl) (by kernel_rfl) hS (fun w' hw' => Ev.load rfl rfl (hw'.1)) rfl ?_
  refine WH.take 2 rfl (by kernel_rfl) (by kernel_rfl) (by kernel_rfl) hS (fun w' hw' => Ev.fieldAddr rfl) rfl ?_
  refine WH.take 3 rfl (by kernel_rfl) (by kernel_rfl) (by kernel_rfl) hS (fun w' hw' => Ev.load rfl rfl (hw'.2.2)) rfl ?_
  refine WH.take 5 rfl (by kernel_rfl) (by kernel_rfl) (by kernel_rfl) hS (fun w' hw' => Ev.fieldAddr rfl) rfl ?_
  refine WH.take 6 rfl (by kernel_rfl) (by kernel_rfl) (by kernel_rfl) hS (fun w' hw' => Ev.load rfl rfl (hw'.2.1)) rfl ?_
  refine WH.take 7 rfl (by kernel_rfl) (by kernel_rfl) (by kernel_rfl) hS (fun w' hw' => Ev.fieldAddr rfl) rfl ?_
  refine WH.take 8 rfl (by kernel_rfl) (by kernel_rfl) (by kernel_rfl) hS (fun w' hw' => Ev.load rfl rfl (hw'.2.2)) rfl ?_
  refine WH.oneCall 4 rfl (by kernel_rfl) hasF12 rfl rfl (any_Take hxb hP5.tc) fun v w2 h' => ?_
  obtain ⟨e1, f1, n1, rfl, hc1, ht1, hd1⟩ := h'
  have hS := (⟨hc1.cell hS.1 (by simp; omega), hc1.cell hS.2.1 (by simp; omega), hc1.cell hS.2.2 (by simp; omega)⟩ : _ ∧ _ ∧ _)
  refine ⟨hS, ?_⟩
  refine WH.oneCall 9 rfl (by kernel_rfl) hasF25 rfl rfl (any_refTake hxb (hP5.refA hc1)) fun v w3 h' => ?_
  obtain ⟨e2, v2, l2, rfl, hc2, hr2, hd2⟩ := h'
  have hS := (⟨hc2.cell hS.1 (by simp; omega), hc2.cell hS.2.1 (by simp; omega), hc2.cell hS.2.2 (by simp; omega)⟩ : _ ∧ _ ∧ _)
  refine ⟨hS, ?_⟩
  refine WH.take 10 rfl (by kernel_rfl) (by kernel_rfl) (by kernel_rfl) hS (fun w' hw' => Ev.eql_bool rfl rfl) rfl ?_
  have hee : e1 = e2 := by rw [hd1.1, hd2.1, hP5.sl.cnt]
  refine WH.val (v' := .bool true) (by simp [hee]) ?_
  refine WH.take 11 rfl (by kernel_rfl) (by kernel_rfl) (by kernel_rfl) hS (fun w' hw' => Ev.assign rfl) rfl ?_
  refine WH.done (by kernel_rfl) (kr16 _ _ _ ?_)
  refine kh15 _ _ _ ?_
  refine CW.ret ?_
  refine bodyA.ret1 rfl rfl ?_
  have hcnt : ∀ k, cnt l2 k = f1 k := fun k => by rw [hd1.2, hd2.2, hP5.sl.cnt]
  have hPn : PX w3 x f1 n1 v2 l2 := ⟨tcB ht1 (hP5.refA hc1) hc2, hr2, ⟨hr2.srt, hr2.pos, hcnt⟩⟩
  obtain ⟨hPB, hCM2, hcx⟩ := (h2.keep0 (Chg.drew [] x2)).turn hx hc1 hc2 (hPn.pair hmx)
  exact ⟨rfl, ⟨vl, vc, vw, ts, cv, wv, cs, hPB, hCM2 cs (hC2.keep (Chg.drew [] x2) (by simp)), fun _ => hts, h16, by omega⟩, below_chg ((((n3.chg.trans V).trans (Chg.drew _ x2)).any (T := [x.1, x.2.1, x.2.2.1])).trans hcx) (fun y hy => by simp only [List.mem_cons, List.not_mem_nil, or_false] at hy; omega) hm0⟩

set_option maxRecDepth 20000 in
set_option maxHeartbeats 2000000 in
theorem step_merge (m pp k : Nat) (on wi nn : Int) (xb : Nat) (jj : Bool) (hon : -9223372036854775808 ≤ on ∧ on ≤ 9223372036854775807) (hwi : -9223372036854775808 ≤ wi ∧ wi ≤ 9223372036854775807) (hxb : xb < 18446744073709551616) (w : World) (hS : SX m w pp true k) : Ret Try.prog 6 [.pointer (some ⟨pp, 0, none⟩), .agg [.int .i64 4, .int .i64 on, .int .i64 wi, .int .i64 nn, .float .f64 xb, .bool jj].toArray] w fun u w' => u = .bool true ∧ SX m w' pp true (k + 1) ∧ RowKit.Below m w w' := by
  obtain ⟨vl, vc, vw, ts, cv, wv, cs, h, hC, he, h16, hk⟩ := hS
  have hts := he rfl
  have hm0 : m ≤ w.heap.size := by have := h.mp; have := lt_of_heap h.cell; omega
  have hcl := hC.lc
  have hcw := hC.lw
  refine Ret.enter Try.func6 rfl rfl ?_
  refine CW.seq fun kK1 kh1 => ?_
  refine CW.region fun kR2 kr2 => ?_  -- region 0
  refine WL.box (l := [.int .i64 4, .int .i64 on, .int .i64 wi, .int .i64 nn, .float .f64 xb, .bool jj]) rfl rfl rfl fun b3 u1 n3 => ?_
  have h1 := h.keep0 n3.chg
  have hC1 := hC.keep n3.chg (by simp)
  have k30 : u1.cell? ⟨b3, 0, none⟩ = some (.int .i64 4) := by rw [cell_at n3.at_]; rfl
  have k31 : u1.cell? ⟨b3, 1, none⟩ = some (.int .i64 on) := by rw [cell_at n3.at_]; rfl
  have k32 : u1.cell? ⟨b3, 2, none⟩ = some (.int .i64 wi) := by rw [cell_at n3.at_]; rfl
  have k33 : u1.cell? ⟨b3, 3, none⟩ = some (.int .i64 nn) := by rw [cell_at n3.at_]; rfl
  have k34 : u1.cell? ⟨b3, 4, none⟩ = some (.float .f64 xb) := by rw [cell_at n3.at_]; rfl
  have k35 : u1.cell? ⟨b3, 5, none⟩ = some (.bool jj) := by rw [cell_at n3.at_]; rfl
  refine WL.ev (Ev.assign rfl) rfl ?_
  refine WL.nil (kr2 _ _ _ ?_)
  refine kh1 _ _ _ ?_
  refine CW.seq fun kK3 kh3 => ?_
  refine CW.seq fun kK4 kh4 => ?_
  refine CW.region fun kR5 kr5 => ?_  -- region 1
  refine WL.ev (Ev.fieldAddr rfl) rfl ?_
  refine WL.ev (Ev.load rfl rfl (k30)) rfl ?_
  refine WL.ev (Ev.eql rfl rfl) rfl ?_
  refine WL.nil (kr5 _ _ _ ?_)
  refine kh4 _ _ _ ?_
  refine CW.condF rfl ?_
  refine CW.skip ?_
  refine kh3 _ _ _ ?_
  refine CW.seq fun kK6 kh6 => ?_
  refine CW.region fun kR7 kr7 => ?_  -- region 6
  refine WL.ev (Ev.move rfl) rfl ?_
  refine WL.ev (Ev.fieldAddr rfl) rfl ?_
  refine WL.ev (Ev.load rfl rfl (k31)) rfl ?_
  refine WL.call hasF23 rfl rfl (at_spec m pp vl vc vw ts cv wv on hon _ h1 hts) fun v w1 h' => ?_
  obtain ⟨hca, x, hx, rfl⟩ := h'
  have hlx := h.lts x hx
  obtain ⟨_, _, _, _, _, _, _, hmx⟩ := h.pr x hx
  refine WL.alloc (l := [.pointer none, .pointer none]) rfl rfl fun b6 x1 n6 => ?_
  refine WL.storeAgg (vs := [.pointer (some ⟨x.1, 0, none⟩), .pointer (some ⟨x.2.2.1, 0, none⟩)]) rfl rfl rfl (flatB_one [x]) n6.at_ (by simp) fun x2 s6 => ?_
  have g3 := n3.ge
  have g6 := n6.ge
  have gs := hca.size
  have gz := n3.size
  have V : Chg [] u1 x2 := (hca.trans n6.chg).step s6.chg (fun q hq => .inr (by simp only [List.mem_singleton] at hq; omega))
  have h2 := h1.keep0 V
  have hC2 := hC1.keep V (by simp)
  have k60 : x2.cell? ⟨b6, 0, none⟩ = some (.pointer (some ⟨x.1, 0, none⟩)) := by rw [cell_at s6.at_]; rfl
  have k61 : x2.cell? ⟨b6, 1, none⟩ = some (.pointer (some ⟨x.2.2.1, 0, none⟩)) := by rw [cell_at s6.at_]; rfl
  refine WL.nil (kr7 _ _ _ ?_)
  refine kh6 _ _ _ ?_
  refine CW.seq fun kK8 kh8 => ?_
  refine CW.seq fun kK9 kh9 => ?_
  refine CW.region fun kR10 kr10 => ?_  -- region 7
  refine WL.ev (Ev.fieldAddr rfl) rfl ?_
  refine WL.ev (Ev.load rfl rfl (V.cell k30 (by simp))) rfl ?_
  refine WL.nil (kr10 _ _ _ ?_)
  refine kh9 _ _ _ ?_
  refine CW.block ?_
  refine CW.seq fun kK11 kh11 => ?_
  refine CW.region fun kR12 kr12 => ?_  -- region 8
  refine WL.ev (Ev.eql rfl rfl) rfl ?_
  refine WL.ev (Ev.assign rfl) rfl ?_
  refine WL.nil (kr12 _ _ _ ?_)
  refine kh11 _ _ _ ?_
  refine CW.condF rfl ?_
  refine CW.seq fun kK13 kh13 => ?_
  refine CW.region fun kR14 kr14 => ?_  -- region 10
  refine WL.ev (Ev.eql rfl rfl) rfl ?_
  refine WL.ev (Ev.assign rfl) rfl ?_
  refine WL.nil (kr14 _ _ _ ?_)
  refine kh13 _ _ _ ?_
  refine CW.condF rfl ?_
  refine CW.seq fun kK15 kh15 => ?_
  refine CW.region fun kR16 kr16 => ?_  -- region 12
  refine WL.ev (Ev.eql rfl rfl) rfl ?_
  refine WL.ev (Ev.assign rfl) rfl ?_
  refine WL.nil (kr16 _ _ _ ?_)
  refine kh15 _ _ _ ?_
  refine CW.condT rfl ?_
  refine CW.seq fun kK17 kh17 => ?_
  refine CW.region fun kR18 kr18 => ?_  -- region 13
  refine WL.ev (Ev.move rfl) rfl ?_
  refine WL.ev (Ev.fieldAddr rfl) rfl ?_
  refine WL.ev (Ev.load rfl rfl (V.cell k32 (by simp))) rfl ?_
  refine WL.call hasF23 rfl rfl (at_spec m pp vl vc vw ts cv wv wi hwi _ h2 hts) fun v w2 h' => ?_
  obtain ⟨hcy, y, hy, rfl⟩ := h'
  have hly := h.lts y hy
  refine WL.alloc (l := [.pointer none, .pointer none]) rfl rfl fun b7 x3 n7 => ?_
  refine WL.storeAgg (vs := [.pointer (some ⟨y.1, 0, none⟩), .pointer (some ⟨y.2.2.1, 0, none⟩)]) rfl rfl rfl (flatB_one [y]) n7.at_ (by simp) fun x4 s7 => ?_
  have g7 := n7.ge
  have gv := V.size
  have gy := hcy.size
  have V2 : Chg [] x2 x4 := (hcy.trans n7.chg).step s7.chg (fun q hq => .inr (by simp only [List.mem_singleton] at hq; omega))
  have h3 := h2.keep0 V2
  have hC3 := hC2.keep V2 (by simp)
  refine WL.nil (kr18 _ _ _ ?_)
  refine kh17 _ _ _ ?_
  refine CW.seq fun kK19 kh19 => ?_
  by_cases exy : x = y
  ·
    subst exy
    refine CW.regionH (fun w' : World => w'.cell? ⟨b6, 0, none⟩ = some (.pointer (some ⟨x.1, 0, none⟩)) ∧ w'.cell? ⟨b6, 1, none⟩ = some (.pointer (some ⟨x.2.2.1, 0, none⟩)) ∧ w'.cell? ⟨b7, 0, none⟩ = some (.pointer (some ⟨x.1, 0, none⟩)) ∧ w'.cell? ⟨b7, 1, none⟩ = some (.pointer (some ⟨x.2.2.1, 0, none⟩))) 12 rfl hmix fun kR21 kr21 => ?_  -- region 14
    have hS : (fun w' : World => w'.cell? ⟨b6, 0, none⟩ = some (.pointer (some ⟨x.1, 0, none⟩)) ∧ w'.cell? ⟨b6, 1, none⟩ = some (.pointer (some ⟨x.2.2.1, 0, none⟩)) ∧ w'.cell? ⟨b7, 0, none⟩ = some (.pointer (some ⟨x.1, 0, none⟩)) ∧ w'.cell? ⟨b7, 1, none⟩ = some (.pointer (some ⟨x.2.2.1, 0, none⟩))) x4.drew := ⟨(Chg.drew [] x4).cell (V2.cell k60 (by simp)) (by simp), (Chg.drew [] x4).cell (V2.cell k61 (by simp)) (by simp), (Chg.drew [] x4).cell (by rw [cell_at s7.at_]; rfl) (by simp), (Chg.drew [] x4).cell (by rw [cell_at s7.at_]; rfl) (by simp)⟩
    have h5 := h3.keep0 (Chg.drew [] x4)
    obtain ⟨f, n, v, l, hP5⟩ := (h5.pr x hx).px
    have htt := hP5.tc.tot hP5.sl
    refine WH.take 0 rfl (by kernel_rfl) (by kernel_rfl) (by kernel_rfl) hS (fun w' hw' => Ev.fieldAddr rfl) rfl ?_
    refine WH.take 1 rfl (by kernel_rfl) (by kernel_rfl) (by kernel_rfl) hS (fun w' hw' => Ev.load rfl rfl (hw'.1)) rfl ?_
    refine WH.take 2 rfl (by kernel_rfl) (by kernel_rfl) (by kernel_rfl) hS (fun w' hw' => Ev.fieldAddr rfl) rfl ?_
    refine WH.take 3 rfl (by kernel_rfl) (by kernel_rfl) (by kernel_rfl) hS (fun w' hw' => Ev.load rfl rfl (hw'.2.2.1)) rfl ?_
    refine WH.take 5 rfl (by kernel_rfl) (by kernel_rfl) (by kernel_rfl) hS (fun w' hw' => Ev.fieldAddr rfl) rfl ?_
    refine WH.take 6 rfl (by kernel_rfl) (by kernel_rfl) (by kernel_rfl) hS (fun w' hw' => Ev.load rfl rfl (hw'.2.1)) rfl ?_
    refine WH.take 7 rfl (by kernel_rfl) (by kernel_rfl) (by kernel_rfl) hS (fun w' hw' => Ev.fieldAddr rfl) rfl ?_
    refine WH.take 8 rfl (by kernel_rfl) (by kernel_rfl) (by kernel_rfl) hS (fun w' hw' => Ev.load rfl rfl (hw'.2.2.2)) rfl ?_
    refine WH.oneCall 4 rfl (by kernel_rfl) hasF11 rfl rfl (any_Twice hP5) fun v w3 h' => ?_
    obtain ⟨e1, f1, n1, rfl, hc1, ht1, hd1⟩ := h'
    have hS := (⟨hc1.cell hS.1 (by simp; omega), hc1.cell hS.2.1 (by simp; omega), hc1.cell hS.2.2.1 (by simp; omega), hc1.cell hS.2.2.2 (by simp; omega)⟩ : _ ∧ _ ∧ _ ∧ _)
    refine ⟨hS, ?_⟩
    refine WH.oneCall 9 rfl (by kernel_rfl) hasF26 rfl rfl (any_refMerge (hP5.refA hc1) (hP5.refA hc1) (hP5.refA hc1).ne) fun v w4 h' => ?_
    obtain ⟨e2, v2, l2, rfl, hc2, hr2, hd2⟩ := h'
    have hS := (⟨hc2.cell hS.1 (by simp; omega), hc2.cell hS.2.1 (by simp; omega), hc2.cell hS.2.2.1 (by simp; omega), hc2.cell hS.2.2.2 (by simp; omega)⟩ : _ ∧ _ ∧ _ ∧ _)
    refine ⟨hS, ?_⟩
    refine WH.take 10 rfl (by kernel_rfl) (by kernel_rfl) (by kernel_rfl) hS (fun w' hw' => Ev.eql rfl rfl) rfl ?_
    have hee : e1 = e2 := by
      rcases hd1 with ⟨q1, rfl, _⟩ | ⟨q1, rfl, _⟩ <;> rcases hd2 with ⟨q2, rfl, _⟩ | ⟨q2, rfl, _⟩ <;> first | rfl | (exfalso; omega)
    refine WH.val (v' := .bool true) (by simp [hee]) ?_
    refine WH.take 11 rfl (by kernel_rfl) (by kernel_rfl) (by kernel_rfl) hS (fun w' hw' => Ev.assign rfl) rfl ?_
    refine WH.done (by kernel_rfl) (kr21 _ _ _ ?_)
    refine kh19 _ _ _ ?_
    refine CW.ret ?_
    refine bodyA.ret1 rfl rfl ?_
    have hcnt : ∀ k, cnt l2 k = f1 k := fun k => by
      have hs := hP5.sl.cnt k
      rcases hd1 with ⟨q1, _, z1⟩ | ⟨q1, _, z1⟩ <;> rcases hd2 with ⟨q2, _, z2⟩ | ⟨q2, _, z2⟩
      · rw [z1, z2, hs]
      · omega
      · omega
      · rw [z1, z2, hs]
    have hPn : PX w4 x f1 n1 v2 l2 := ⟨tcB ht1 (hP5.refA hc1) hc2, hr2, ⟨hr2.srt, hr2.pos, hcnt⟩⟩
    obtain ⟨hPB, hCM2, hcx⟩ := (h3.keep0 (Chg.drew [] x4)).turn hx hc1 hc2 (hPn.pair hmx)
    exact ⟨rfl, ⟨vl, vc, vw, ts, cv, wv, cs, hPB, hCM2 cs (hC3.keep (Chg.drew [] x4) (by simp)), fun _ => hts, h16, by omega⟩, below_chg (((((n3.chg.trans V).trans V2).trans (Chg.drew _ x4)).any (T := [x.1, x.2.1, x.2.2.1])).trans hcx) (fun y hy => by simp only [List.mem_cons, List.not_mem_nil, or_false] at hy; omega) hm0⟩
  ·
    refine CW.regionH (fun w' : World => w'.cell? ⟨b6, 0, none⟩ = some (.pointer (some ⟨x.1, 0, none⟩)) ∧ w'.cell? ⟨b6, 1, none⟩ = some (.pointer (some ⟨x.2.2.1, 0, none⟩)) ∧ w'.cell? ⟨b7, 0, none⟩ = some (.pointer (some ⟨y.1, 0, none⟩)) ∧ w'.cell? ⟨b7, 1, none⟩ = some (.pointer (some ⟨y.2.2.1, 0, none⟩))) 12 rfl hmix fun kR22 kr22 => ?_  -- region 14
    have hS : (fun w' : World => w'.cell? ⟨b6, 0, none⟩ = some (.pointer (some ⟨x.1, 0, none⟩)) ∧ w'.cell? ⟨b6, 1, none⟩ = some (.pointer (some ⟨x.2.2.1, 0, none⟩)) ∧ w'.cell? ⟨b7, 0, none⟩ = some (.pointer (some ⟨y.1, 0, none⟩)) ∧ w'.cell? ⟨b7, 1, none⟩ = some (.pointer (some ⟨y.2.2.1, 0, none⟩))) x4.drew := ⟨(Chg.drew [] x4).cell (V2.cell k60 (by simp)) (by simp), (Chg.drew [] x4).cell (V2.cell k61 (by simp)) (by simp), (Chg.drew [] x4).cell (by rw [cell_at s7.at_]; rfl) (by simp), (Chg.drew [] x4).cell (by rw [cell_at s7.at_]; rfl) (by simp)⟩
    have h5 := h3.keep0 (Chg.drew [] x4)
    obtain ⟨f, n, v, l, hP5⟩ := (h5.pr x hx).px
    have htt := hP5.tc.tot hP5.sl
    obtain ⟨fy, ny, vy, ly, hQ5⟩ := (h5.pr y hy).px
    have htt2 := hQ5.tc.tot hQ5.sl
    refine WH.take 0 rfl (by kernel_rfl) (by kernel_rfl) (by kernel_rfl) hS (fun w' hw' => Ev.fieldAddr rfl) rfl ?_
    refine WH.take 1 rfl (by kernel_rfl) (by kernel_rfl) (by kernel_rfl) hS (fun w' hw' => Ev.load rfl rfl (hw'.1)) rfl ?_
    refine WH.take 2 rfl (by kernel_rfl) (by kernel_rfl) (by kernel_rfl) hS (fun w' hw' => Ev.fieldAddr rfl) rfl ?_
    refine WH.take 3 rfl (by kernel_rfl) (by kernel_rfl) (by kernel_rfl) hS (fun w' hw' => Ev.load rfl rfl (hw'.2.2.1)) rfl ?_
    refine WH.take 5 rfl (by kernel_rfl) (by kernel_rfl) (by kernel_rfl) hS (fun w' hw' => Ev.fieldAddr rfl) rfl ?_
    refine WH.take 6 rfl (by kernel_rfl) (by kernel_rfl) (by kernel_rfl) hS (fun w' hw' => Ev.load rfl rfl (hw'.2.1)) rfl ?_
    refine WH.take 7 rfl (by kernel_rfl) (by kernel_rfl) (by kernel_rfl) hS (fun w' hw' => Ev.fieldAddr rfl) rfl ?_
    refine WH.take 8 rfl (by kernel_rfl) (by kernel_rfl) (by kernel_rfl) hS (fun w' hw' => Ev.load rfl rfl (hw'.2.2.2)) rfl ?_
    refine WH.oneCall 4 rfl (by kernel_rfl) hasF11 rfl rfl (any_Other h5 hx hy exy hP5 hQ5) fun v w3 h' => ?_
    obtain ⟨e1, f1, n1, rfl, hc1, ht1, hd1⟩ := h'
    have hQr : RefP w3 y.2.2.1 vy y.2.2.2 ly := by obtain ⟨tx, cx, hx1, _⟩ := hP5.tc; exact ref_keepA hx1 hQ5.rf hc1
    have hQn : ∀ z, vy.ownBlock = some z → z ≠ x.2.2.1 := fun z hz => by
      obtain ⟨_, _, ho⟩ := row_obj hQr.own hz
      exact obj_ne ho (hP5.refA hc1).cell (by decide)
    have hS := (⟨hc1.cell hS.1 (by simp; omega), hc1.cell hS.2.1 (by simp; omega), hc1.cell hS.2.2.1 (by simp; omega), hc1.cell hS.2.2.2 (by simp; omega)⟩ : _ ∧ _ ∧ _ ∧ _)
    refine ⟨hS, ?_⟩
    refine WH.oneCall 9 rfl (by kernel_rfl) hasF26 rfl rfl (any_refMerge (hP5.refA hc1) hQr hQn) fun v w4 h' => ?_
    obtain ⟨e2, v2, l2, rfl, hc2, hr2, hd2⟩ := h'
    have hS := (⟨hc2.cell hS.1 (by simp; omega), hc2.cell hS.2.1 (by simp; omega), hc2.cell hS.2.2.1 (by simp; omega), hc2.cell hS.2.2.2 (by simp; omega)⟩ : _ ∧ _ ∧ _ ∧ _)
    refine ⟨hS, ?_⟩
    refine WH.take 10 rfl (by kernel_rfl) (by kernel_rfl) (by kernel_rfl) hS (fun w' hw' => Ev.eql rfl rfl) rfl ?_
    have hee : e1 = e2 := by
      rcases hd1 with ⟨q1, rfl, _⟩ | ⟨q1, rfl, _⟩ <;> rcases hd2 with ⟨q2, rfl, _⟩ | ⟨q2, rfl, _⟩ <;> first | rfl | (exfalso; omega)
    refine WH.val (v' := .bool true) (by simp [hee]) ?_
    refine WH.take 11 rfl (by kernel_rfl) (by kernel_rfl) (by kernel_rfl) hS (fun w' hw' => Ev.assign rfl) rfl ?_
    refine WH.done (by kernel_rfl) (kr22 _ _ _ ?_)
    refine kh19 _ _ _ ?_
    refine CW.ret ?_
    refine bodyA.ret1 rfl rfl ?_
    have hcnt : ∀ k, cnt l2 k = f1 k := fun k => by
      have hs := hP5.sl.cnt k
      rcases hd1 with ⟨q1, _, z1⟩ | ⟨q1, _, z1⟩ <;> rcases hd2 with ⟨q2, _, z2⟩ | ⟨q2, _, z2⟩
      · rw [z1, z2, hs]
      · omega
      · omega
      · rw [z1, z2, hs]
    have hPn : PX w4 x f1 n1 v2 l2 := ⟨tcB ht1 (hP5.refA hc1) hc2, hr2, ⟨hr2.srt, hr2.pos, hcnt⟩⟩
    obtain ⟨hPB, hCM2, hcx⟩ := (h3.keep0 (Chg.drew [] x4)).turn hx hc1 hc2 (hPn.pair hmx)
    exact ⟨rfl, ⟨vl, vc, vw, ts, cv, wv, cs, hPB, hCM2 cs (hC3.keep (Chg.drew [] x4) (by simp)), fun _ => hts, h16, by omega⟩, below_chg (((((n3.chg.trans V).trans V2).trans (Chg.drew _ x4)).any (T := [x.1, x.2.1, x.2.2.1])).trans hcx) (fun y hy => by simp only [List.mem_cons, List.not_mem_nil, or_false] at hy; omega) hm0⟩

set_option maxRecDepth 20000 in
set_option maxHeartbeats 2000000 in
theorem step_ask (kd : Int) (hkd : kd ≠ 1 ∧ kd ≠ 2 ∧ kd ≠ 3 ∧ kd ≠ 4 ∧ kd ≠ 5) (m pp k : Nat) (on wi nn : Int) (xb : Nat) (jj : Bool) (hon : -9223372036854775808 ≤ on ∧ on ≤ 9223372036854775807) (hwi : -9223372036854775808 ≤ wi ∧ wi ≤ 9223372036854775807) (hxb : xb < 18446744073709551616) (hkk : k ≤ 1000000) (w : World) (hS : SX m w pp true k) : Ret Try.prog 6 [.pointer (some ⟨pp, 0, none⟩), .agg [.int .i64 kd, .int .i64 on, .int .i64 wi, .int .i64 nn, .float .f64 xb, .bool jj].toArray] w fun u w' => u = .bool true ∧ SX m w' pp true (k + 1) ∧ RowKit.Below m w w' := by
  obtain ⟨vl, vc, vw, ts, cv, wv, cs, h, hC, he, h16, hk⟩ := hS
  have hts := he rfl
  have hm0 : m ≤ w.heap.size := by have := h.mp; have := lt_of_heap h.cell; omega
  have hcl := hC.lc
  have hcw := hC.lw
  refine Ret.enter Try.func6 rfl rfl ?_
  refine CW.seq fun kK1 kh1 => ?_
  refine CW.region fun kR2 kr2 => ?_  -- region 0
  refine WL.box (l := [.int .i64 kd, .int .i64 on, .int .i64 wi, .int .i64 nn, .float .f64 xb, .bool jj]) rfl rfl rfl fun b3 u1 n3 => ?_
  have h1 := h.keep0 n3.chg
  have hC1 := hC.keep n3.chg (by simp)
  have k30 : u1.cell? ⟨b3, 0, none⟩ = some (.int .i64 kd) := by rw [cell_at n3.at_]; rfl
  have k31 : u1.cell? ⟨b3, 1, none⟩ = some (.int .i64 on) := by rw [cell_at n3.at_]; rfl
  have k32 : u1.cell? ⟨b3, 2, none⟩ = some (.int .i64 wi) := by rw [cell_at n3.at_]; rfl
  have k33 : u1.cell? ⟨b3, 3, none⟩ = some (.int .i64 nn) := by rw [cell_at n3.at_]; rfl
  have k34 : u1.cell? ⟨b3, 4, none⟩ = some (.float .f64 xb) := by rw [cell_at n3.at_]; rfl
  have k35 : u1.cell? ⟨b3, 5, none⟩ = some (.bool jj) := by rw [cell_at n3.at_]; rfl
  refine WL.ev (Ev.assign rfl) rfl ?_
  refine WL.nil (kr2 _ _ _ ?_)
  refine kh1 _ _ _ ?_
  refine CW.seq fun kK3 kh3 => ?_
  refine CW.seq fun kK4 kh4 => ?_
  refine CW.region fun kR5 kr5 => ?_  -- region 1
  refine WL.ev (Ev.fieldAddr rfl) rfl ?_
  refine WL.ev (Ev.load rfl rfl (k30)) rfl ?_
  refine WL.ev (Ev.eql rfl rfl) rfl ?_
  rw [show decide (kd = 1) = false from decide_eq_false (by omega)]
  refine WL.nil (kr5 _ _ _ ?_)
  refine kh4 _ _ _ ?_
  refine CW.condF rfl ?_
  refine CW.skip ?_
  refine kh3 _ _ _ ?_
  refine CW.seq fun kK6 kh6 => ?_
  refine CW.region fun kR7 kr7 => ?_  -- region 6
  refine WL.ev (Ev.move rfl) rfl ?_
  refine WL.ev (Ev.fieldAddr rfl) rfl ?_
  refine WL.ev (Ev.load rfl rfl (k31)) rfl ?_
  refine WL.call hasF23 rfl rfl (at_spec m pp vl vc vw ts cv wv on hon _ h1 hts) fun v w1 h' => ?_
  obtain ⟨hca, x, hx, rfl⟩ := h'
  have hlx := h.lts x hx
  obtain ⟨_, _, _, _, _, _, _, hmx⟩ := h.pr x hx
  refine WL.alloc (l := [.pointer none, .pointer none]) rfl rfl fun b6 x1 n6 => ?_
  refine WL.storeAgg (vs := [.pointer (some ⟨x.1, 0, none⟩), .pointer (some ⟨x.2.2.1, 0, none⟩)]) rfl rfl rfl (flatB_one [x]) n6.at_ (by simp) fun x2 s6 => ?_
  have g3 := n3.ge
  have g6 := n6.ge
  have gs := hca.size
  have gz := n3.size
  have V : Chg [] u1 x2 := (hca.trans n6.chg).step s6.chg (fun q hq => .inr (by simp only [List.mem_singleton] at hq; omega))
  have h2 := h1.keep0 V
  have hC2 := hC1.keep V (by simp)
  have k60 : x2.cell? ⟨b6, 0, none⟩ = some (.pointer (some ⟨x.1, 0, none⟩)) := by rw [cell_at s6.at_]; rfl
  have k61 : x2.cell? ⟨b6, 1, none⟩ = some (.pointer (some ⟨x.2.2.1, 0, none⟩)) := by rw [cell_at s6.at_]; rfl
  refine WL.nil (kr7 _ _ _ ?_)
  refine kh6 _ _ _ ?_
  refine CW.seq fun kK8 kh8 => ?_
  refine CW.seq fun kK9 kh9 => ?_
  refine CW.region fun kR10 kr10 => ?_  -- region 7
  refine WL.ev (Ev.fieldAddr rfl) rfl ?_
  refine WL.ev (Ev.load rfl rfl (V.cell k30 (by simp))) rfl ?_
  refine WL.nil (kr10 _ _ _ ?_)
  refine kh9 _ _ _ ?_
  refine CW.block ?_
  refine CW.seq fun kK11 kh11 => ?_
  refine CW.region fun kR12 kr12 => ?_  -- region 8
  refine WL.ev (Ev.eql rfl rfl) rfl ?_
  rw [show decide (kd = 2) = false from decide_eq_false (by omega)]
  refine WL.ev (Ev.assign rfl) rfl ?_
  refine WL.nil (kr12 _ _ _ ?_)
  refine kh11 _ _ _ ?_
  refine CW.condF rfl ?_
  refine CW.seq fun kK13 kh13 => ?_
  refine CW.region fun kR14 kr14 => ?_  -- region 10
  refine WL.ev (Ev.eql rfl rfl) rfl ?_
  rw [show decide (kd = 3) = false from decide_eq_false (by omega)]
  refine WL.ev (Ev.assign rfl) rfl ?_
  refine WL.nil (kr14 _ _ _ ?_)
  refine kh13 _ _ _ ?_
  refine CW.condF rfl ?_
  refine CW.seq fun kK15 kh15 => ?_
  refine CW.region fun kR16 kr16 => ?_  -- region 12
  refine WL.ev (Ev.eql rfl rfl) rfl ?_
  rw [show decide (kd = 4) = false from decide_eq_false (by omega)]
  refine WL.ev (Ev.assign rfl) rfl ?_
  refine WL.nil (kr16 _ _ _ ?_)
  refine kh15 _ _ _ ?_
  refine CW.condF rfl ?_
  refine CW.seq fun kK17 kh17 => ?_
  refine CW.region fun kR18 kr18 => ?_  -- region 15
  refine WL.ev (Ev.eql rfl rfl) rfl ?_
  rw [show decide (kd = 5) = false from decide_eq_false (by omega)]
  refine WL.ev (Ev.assign rfl) rfl ?_
  refine WL.nil (kr18 _ _ _ ?_)
  refine kh17 _ _ _ ?_
  refine CW.condF rfl ?_
  refine CW.skip ?_
  refine kh8 _ _ _ ?_
  refine CW.seq fun kK19 kh19 => ?_
  refine CW.region fun kR20 kr20 => ?_  -- region 22
  refine WL.ev (Ev.move rfl) rfl ?_
  refine WL.ev (Ev.loadAgg (cs := [.pointer (some ⟨x.1, 0, none⟩), .pointer (some ⟨x.2.2.1, 0, none⟩)]) rfl rfl rfl (fun q z hq => ?_)) rfl ?_
  · rw [add_addr]; exact row2 k60 k61 q z hq
  refine WL.ev (Ev.fieldAddr rfl) rfl ?_
  refine WL.ev (Ev.load rfl rfl (V.cell k34 (by simp))) rfl ?_
  refine WL.call hasF7 rfl rfl (asked_spec m pp vl vc vw ts cv wv x hx xb hxb (by omega) (by omega) _ h2) fun v w2 h' => ?_
  obtain ⟨rfl, hcq, vc2, vw2, va, vb, l, hPB, hCM⟩ := h'
  refine WL.ev (Ev.assign rfl) rfl ?_
  refine WL.nil (kr20 _ _ _ ?_)
  refine kh19 _ _ _ ?_
  refine CW.ret ?_
  refine bodyA.ret1 rfl rfl ?_
  exact ⟨rfl, ⟨vl, vc2, vw2, ts, _, _, _, hPB, hCM cs hC2, fun _ => hts, h16, by simp; omega⟩, below_chg (((n3.chg.trans V).any (T := PT pp vc vw)).trans hcq) (fun y hy => (h.ptlt y hy).2) hm0⟩

structure TwInv (m : Nat) (w : World) (pp : Nat) (vl vc vw : Value) (ts : List TB) (cv wv : List Value) (cs : List KV) (x : TB) (b3 b6 : Nat) (nn : Int) (i : Nat) (wr : World) : Prop where
  le : i ≤ 50
  pb : PB m wr pp vl vc vw ts cv wv
  cm : CM m wr cv wv cs
  bel : RowKit.Below m w wr
  c0 : wr.cell? ⟨b6, 0, none⟩ = some (.pointer (some ⟨x.1, 0, none⟩))
  c1 : wr.cell? ⟨b6, 1, none⟩ = some (.pointer (some ⟨x.2.2.1, 0, none⟩))
  c3 : wr.cell? ⟨b3, 3, none⟩ = some (.int .i64 nn)

set_option maxRecDepth 20000 in
set_option maxHeartbeats 2000000 in
theorem step_twice (m pp k : Nat) (on wi nn : Int) (xb : Nat) (jj : Bool) (hon : -9223372036854775808 ≤ on ∧ on ≤ 9223372036854775807) (hwi : -9223372036854775808 ≤ wi ∧ wi ≤ 9223372036854775807) (hxb : xb < 18446744073709551616) (w : World) (hS : SX m w pp true k) : Ret Try.prog 6 [.pointer (some ⟨pp, 0, none⟩), .agg [.int .i64 5, .int .i64 on, .int .i64 wi, .int .i64 nn, .float .f64 xb, .bool jj].toArray] w fun u w' => u = .bool true ∧ SX m w' pp true (k + 1) ∧ RowKit.Below m w w' := by
  obtain ⟨vl, vc, vw, ts, cv, wv, cs, h, hC, he, h16, hk⟩ := hS
  have hts := he rfl
  have hm0 : m ≤ w.heap.size := by have := h.mp; have := lt_of_heap h.cell; omega
  have hcl := hC.lc
  have hcw := hC.lw
  refine Ret.enter Try.func6 rfl rfl ?_
  refine CW.seq fun kK1 kh1 => ?_
  refine CW.region fun kR2 kr2 => ?_  -- region 0
  refine WL.box (l := [.int .i64 5, .int .i64 on, .int .i64 wi, .int .i64 nn, .float .f64 xb, .bool jj]) rfl rfl rfl fun b3 u1 n3 => ?_
  have h1 := h.keep0 n3.chg
  have hC1 := hC.keep n3.chg (by simp)
  have k30 : u1.cell? ⟨b3, 0, none⟩ = some (.int .i64 5) := by rw [cell_at n3.at_]; rfl
  have k31 : u1.cell? ⟨b3, 1, none⟩ = some (.int .i64 on) := by rw [cell_at n3.at_]; rfl
  have k32 : u1.cell? ⟨b3, 2, none⟩ = some (.int .i64 wi) := by rw [cell_at n3.at_]; rfl
  have k33 : u1.cell? ⟨b3, 3, none⟩ = some (.int .i64 nn) := by rw [cell_at n3.at_]; rfl
  have k34 : u1.cell? ⟨b3, 4, none⟩ = some (.float .f64 xb) := by rw [cell_at n3.at_]; rfl
  have k35 : u1.cell? ⟨b3, 5, none⟩ = some (.bool jj) := by rw [cell_at n3.at_]; rfl
  refine WL.ev (Ev.assign rfl) rfl ?_
  refine WL.nil (kr2 _ _ _ ?_)
  refine kh1 _ _ _ ?_
  refine CW.seq fun kK3 kh3 => ?_
  refine CW.seq fun kK4 kh4 => ?_
  refine CW.region fun kR5 kr5 => ?_  -- region 1
  refine WL.ev (Ev.fieldAddr rfl) rfl ?_
  refine WL.ev (Ev.load rfl rfl (k30)) rfl ?_
  refine WL.ev (Ev.eql rfl rfl) rfl ?_
  refine WL.nil (kr5 _ _ _ ?_)
  refine kh4 _ _ _ ?_
  refine CW.condF rfl ?_
  refine CW.skip ?_
  refine kh3 _ _ _ ?_
  refine CW.seq fun kK6 kh6 => ?_
  refine CW.region fun kR7 kr7 => ?_  -- region 6
  refine WL.ev (Ev.move rfl) rfl ?_
  refine WL.ev (Ev.fieldAddr rfl) rfl ?_
  refine WL.ev (Ev.load rfl rfl (k31)) rfl ?_
  refine WL.call hasF23 rfl rfl (at_spec m pp vl vc vw ts cv wv on hon _ h1 hts) fun v w1 h' => ?_
  obtain ⟨hca, x, hx, rfl⟩ := h'
  have hlx := h.lts x hx
  obtain ⟨_, _, _, _, _, _, _, hmx⟩ := h.pr x hx
  refine WL.alloc (l := [.pointer none, .pointer none]) rfl rfl fun b6 x1 n6 => ?_
  refine WL.storeAgg (vs := [.pointer (some ⟨x.1, 0, none⟩), .pointer (some ⟨x.2.2.1, 0, none⟩)]) rfl rfl rfl (flatB_one [x]) n6.at_ (by simp) fun x2 s6 => ?_
  have g3 := n3.ge
  have g6 := n6.ge
  have gs := hca.size
  have gz := n3.size
  have V : Chg [] u1 x2 := (hca.trans n6.chg).step s6.chg (fun q hq => .inr (by simp only [List.mem_singleton] at hq; omega))
  have h2 := h1.keep0 V
  have hC2 := hC1.keep V (by simp)
  have k60 : x2.cell? ⟨b6, 0, none⟩ = some (.pointer (some ⟨x.1, 0, none⟩)) := by rw [cell_at s6.at_]; rfl
  have k61 : x2.cell? ⟨b6, 1, none⟩ = some (.pointer (some ⟨x.2.2.1, 0, none⟩)) := by rw [cell_at s6.at_]; rfl
  refine WL.nil (kr7 _ _ _ ?_)
  refine kh6 _ _ _ ?_
  refine CW.seq fun kK8 kh8 => ?_
  refine CW.seq fun kK9 kh9 => ?_
  refine CW.region fun kR10 kr10 => ?_  -- region 7
  refine WL.ev (Ev.fieldAddr rfl) rfl ?_
  refine WL.ev (Ev.load rfl rfl (V.cell k30 (by simp))) rfl ?_
  refine WL.nil (kr10 _ _ _ ?_)
  refine kh9 _ _ _ ?_
  refine CW.block ?_
  refine CW.seq fun kK11 kh11 => ?_
  refine CW.region fun kR12 kr12 => ?_  -- region 8
  refine WL.ev (Ev.eql rfl rfl) rfl ?_
  refine WL.ev (Ev.assign rfl) rfl ?_
  refine WL.nil (kr12 _ _ _ ?_)
  refine kh11 _ _ _ ?_
  refine CW.condF rfl ?_
  refine CW.seq fun kK13 kh13 => ?_
  refine CW.region fun kR14 kr14 => ?_  -- region 10
  refine WL.ev (Ev.eql rfl rfl) rfl ?_
  refine WL.ev (Ev.assign rfl) rfl ?_
  refine WL.nil (kr14 _ _ _ ?_)
  refine kh13 _ _ _ ?_
  refine CW.condF rfl ?_
  refine CW.seq fun kK15 kh15 => ?_
  refine CW.region fun kR16 kr16 => ?_  -- region 12
  refine WL.ev (Ev.eql rfl rfl) rfl ?_
  refine WL.ev (Ev.assign rfl) rfl ?_
  refine WL.nil (kr16 _ _ _ ?_)
  refine kh15 _ _ _ ?_
  refine CW.condF rfl ?_
  refine CW.seq fun kK17 kh17 => ?_
  refine CW.region fun kR18 kr18 => ?_  -- region 15
  refine WL.ev (Ev.eql rfl rfl) rfl ?_
  refine WL.ev (Ev.assign rfl) rfl ?_
  refine WL.nil (kr18 _ _ _ ?_)
  refine kh17 _ _ _ ?_
  refine CW.condT rfl ?_
  refine CW.seq fun kK19 kh19 => ?_
  refine CW.seq fun kK20 kh20 => ?_
  refine CW.region fun kR21 kr21 => ?_  -- region 16
  refine WL.ev (Ev.assign rfl) rfl ?_
  refine WL.nil (kr21 _ _ _ ?_)
  refine kh20 _ _ _ ?_
  refine CW.block ?_
  refine CW.loop (S := fun i : Nat => [(3, .pointer (some ⟨b3, 0, none⟩)), (6, .pointer (some ⟨b6, 0, none⟩)), (8, .int .i64 (i : Int)), (4, .bool false)]) (Inv := TwInv m w pp vl vc vw ts cv wv cs x b3 b6 nn) (mu := fun i => 50 - i) (0) ?_ ?_ ?_
  ·
    exact ⟨by omega, h2, hC2, below_chg (n3.chg.trans V) (by simp) hm0, k60, k61, V.cell k33 (by simp)⟩
  ·
    repeat (first | exact Subs.nil | refine Subs.cons rfl ?_)
  ·
    intro i wr hi
    have hle := hi.le
    refine CW.seq fun kK22 kh22 => ?_
    refine CW.seq fun kK23 kh23 => ?_
    rcases Int.lt_or_le (i : Int) nn with hin | hin
    ·
      have hd : decide ((i : Int) < nn) = true := decide_eq_true hin
      refine CW.region fun kR25 kr25 => ?_  -- region 17
      refine WL.ev (Ev.move rfl) rfl ?_
      refine WL.ev (Ev.fieldAddr rfl) rfl ?_
      refine WL.ev (Ev.load rfl rfl (hi.c3)) rfl ?_
      refine WL.ev (Ev.lss rfl rfl) rfl ?_
      refine WL.ev (Ev.move rfl) rfl ?_
      refine WL.want rfl rfl rfl (by rw [hd]; rfl) ?_
      refine WL.ev (Ev.move rfl) rfl ?_
      refine WL.want rfl rfl rfl (by rw [hd]; rfl) ?_
      refine WL.ev (Ev.lss rfl rfl) rfl ?_
      refine WL.ev (Ev.pickT rfl hd rfl) rfl ?_
      refine WL.nil (kr25 _ _ _ ?_)
      refine kh23 _ _ _ ?_
      refine CW.cond rfl (fun hc6 => ?_) (fun hc6 => ?_)  -- if 99
      ·
        simp only [decide_eq_true_eq, decide_eq_false_iff_not, Decidable.not_not, Bool.and_eq_true, Bool.or_eq_true, Bool.not_eq_true', ne_eq, Int.not_lt, Int.not_le] at hc6
        refine CW.skip ?_
        refine kh22 _ _ _ ?_
        refine CW.seq fun kK26 kh26 => ?_
        refine CW.block ?_
        refine CW.seq fun kK27 kh27 => ?_
        refine CW.regionH (fun w' : World => w'.cell? ⟨b6, 0, none⟩ = some (.pointer (some ⟨x.1, 0, none⟩)) ∧ w'.cell? ⟨b6, 1, none⟩ = some (.pointer (some ⟨x.2.2.1, 0, none⟩))) 11 rfl hmix fun kR28 kr28 => ?_  -- region 19
        have hS : (fun w' : World => w'.cell? ⟨b6, 0, none⟩ = some (.pointer (some ⟨x.1, 0, none⟩)) ∧ w'.cell? ⟨b6, 1, none⟩ = some (.pointer (some ⟨x.2.2.1, 0, none⟩))) wr.drew := ⟨(Chg.drew [] wr).cell hi.c0 (by simp), (Chg.drew [] wr).cell hi.c1 (by simp)⟩
        have h5 := hi.pb.keep0 (Chg.drew [] wr)
        obtain ⟨f, n, v, l, hP5⟩ := (h5.pr x hx).px
        have htt := hP5.tc.tot hP5.sl
        refine WH.take 0 rfl (by kernel_rfl) (by kernel_rfl) (by kernel_rfl) hS (fun w' hw' => Ev.fieldAddr rfl) rfl ?_
        refine WH.take 1 rfl (by kernel_rfl) (by kernel_rfl) (by kernel_rfl) hS (fun w' hw' => Ev.load rfl rfl (hw'.1)) rfl ?_
        refine WH.take 2 rfl (by kernel_rfl) (by kernel_rfl) (by kernel_rfl) hS (fun w' hw' => Ev.fieldAddr rfl) rfl ?_
        refine WH.take 3 rfl (by kernel_rfl) (by kernel_rfl) (by kernel_rfl) hS (fun w' hw' => Ev.load rfl rfl (hw'.1)) rfl ?_
        refine WH.take 5 rfl (by kernel_rfl) (by kernel_rfl) (by kernel_rfl) hS (fun w' hw' => Ev.fieldAddr rfl) rfl ?_
        refine WH.take 6 rfl (by kernel_rfl) (by kernel_rfl) (by kernel_rfl) hS (fun w' hw' => Ev.load rfl rfl (hw'.2)) rfl ?_
        refine WH.take 7 rfl (by kernel_rfl) (by kernel_rfl) (by kernel_rfl) hS (fun w' hw' => Ev.fieldAddr rfl) rfl ?_
        refine WH.take 8 rfl (by kernel_rfl) (by kernel_rfl) (by kernel_rfl) hS (fun w' hw' => Ev.load rfl rfl (hw'.2)) rfl ?_
        refine WH.oneCall 4 rfl (by kernel_rfl) hasF11 rfl rfl (any_Twice hP5) fun v w2 h' => ?_
        obtain ⟨e1, f1, n1, rfl, hc1, ht1, hd1⟩ := h'
        have hS := (⟨hc1.cell hS.1 (by simp; omega), hc1.cell hS.2 (by simp; omega)⟩ : _ ∧ _)
        refine ⟨hS, ?_⟩
        refine WH.oneCall 9 rfl (by kernel_rfl) hasF26 rfl rfl (any_refMerge (hP5.refA hc1) (hP5.refA hc1) (hP5.refA hc1).ne) fun v w3 h' => ?_
        obtain ⟨e2, v2, l2, rfl, hc2, hr2, hd2⟩ := h'
        have hS := (⟨hc2.cell hS.1 (by simp; omega), hc2.cell hS.2 (by simp; omega)⟩ : _ ∧ _)
        refine ⟨hS, ?_⟩
        refine WH.take 10 rfl (by kernel_rfl) (by kernel_rfl) (by kernel_rfl) hS (fun w' hw' => Ev.neq rfl rfl) rfl ?_
        have hee : e1 = e2 := by
          rcases hd1 with ⟨q1, rfl, _⟩ | ⟨q1, rfl, _⟩ <;> rcases hd2 with ⟨q2, rfl, _⟩ | ⟨q2, rfl, _⟩ <;> first | rfl | (exfalso; omega)
        refine WH.val (v' := .bool false) (by simp [hee]) ?_
        refine WH.done (by kernel_rfl) (kr28 _ _ _ ?_)
        refine kh27 _ _ _ ?_
        refine CW.condF rfl ?_
        refine CW.skip ?_
        refine kh26 _ _ _ ?_
        refine CW.region fun kR29 kr29 => ?_  -- region 18
        refine WL.ev (Ev.move rfl) rfl ?_
        first | refine WL.ev (Ev.addIn rfl rfl (by omega)) rfl ?_ | refine WL.ev (Ev.add rfl rfl) rfl ?_
        refine WL.ev (Ev.assign rfl) rfl ?_
        refine WL.nil (kr29 _ _ _ ?_)
        refine ⟨rfl, i + 1, ?_, ?_, ?_⟩
        ·
          repeat (first | exact Subs.nil | refine Subs.cons rfl ?_)
        ·
          have hcnt : ∀ k, cnt l2 k = f1 k := fun k => by
            have hs := hP5.sl.cnt k
            rcases hd1 with ⟨q1, _, z1⟩ | ⟨q1, _, z1⟩ <;> rcases hd2 with ⟨q2, _, z2⟩ | ⟨q2, _, z2⟩
            · rw [z1, z2, hs]
            · omega
            · omega
            · rw [z1, z2, hs]
          have hPn : PX w3 x f1 n1 v2 l2 := ⟨tcB ht1 (hP5.refA hc1) hc2, hr2, ⟨hr2.srt, hr2.pos, hcnt⟩⟩
          obtain ⟨hPB, hCM2, hcx⟩ := h5.turn hx hc1 hc2 (hPn.pair hmx)
          have hsw := hi.bel.size
          have hmem : ∀ y ∈ [x.1, x.2.1, x.2.2.1], m ≤ y := fun y hy => by simp only [List.mem_cons, List.not_mem_nil, or_false] at hy; omega
          exact ⟨by omega, hPB, hCM2 _ (hi.cm.keep (Chg.drew [] wr) (by simp)), hi.bel.trans (below_chg (((Chg.drew [] wr).any (T := [x.1, x.2.1, x.2.2.1])).trans hcx) hmem (by omega)), hS.1, hS.2, hcx.cell ((Chg.drew [] wr).cell hi.c3 (by simp)) (by simp; omega)⟩
        ·
          show 50 - (i + 1) < 50 - i; omega
      ·
        simp only [decide_eq_true_eq, decide_eq_false_iff_not, Decidable.not_not, Bool.and_eq_true, Bool.or_eq_true, Bool.not_eq_true', ne_eq, Int.not_lt, Int.not_le] at hc6
        refine CW.exit ?_  -- exit 1
        refine kh19 _ _ _ ?_
        refine CW.seq fun kK30 kh30 => ?_
        refine CW.region fun kR31 kr31 => ?_  -- region 21
        refine WL.ev (Ev.assign rfl) rfl ?_
        refine WL.nil (kr31 _ _ _ ?_)
        refine kh30 _ _ _ ?_
        refine CW.ret ?_
        refine bodyA.ret1 rfl rfl ?_
        exact ⟨rfl, ⟨vl, vc, vw, ts, cv, wv, cs, hi.pb, hi.cm, fun _ => hts, h16, by omega⟩, hi.bel⟩
    ·
      have hd : decide ((i : Int) < nn) = false := decide_eq_false (by omega)
      refine CW.region fun kR32 kr32 => ?_  -- region 17
      refine WL.ev (Ev.move rfl) rfl ?_
      refine WL.ev (Ev.fieldAddr rfl) rfl ?_
      refine WL.ev (Ev.load rfl rfl (hi.c3)) rfl ?_
      refine WL.ev (Ev.lss rfl rfl) rfl ?_
      refine WL.ev (Ev.move rfl) rfl ?_
      refine WL.pass rfl rfl rfl (by rw [hd]; rfl) rfl ?_
      refine WL.pass rfl rfl rfl (by rw [hd]; rfl) rfl ?_
      refine WL.ev (Ev.pickF rfl hd rfl) rfl ?_
      refine WL.nil (kr32 _ _ _ ?_)
      refine kh23 _ _ _ ?_
      refine CW.condF rfl ?_
      refine CW.exit ?_  -- exit 1
      refine kh19 _ _ _ ?_
      refine CW.seq fun kK33 kh33 => ?_
      refine CW.region fun kR34 kr34 => ?_  -- region 21
      refine WL.ev (Ev.assign rfl) rfl ?_
      refine WL.nil (kr34 _ _ _ ?_)
      refine kh33 _ _ _ ?_
      refine CW.ret ?_
      refine bodyA.ret1 rfl rfl ?_
      exact ⟨rfl, ⟨vl, vc, vw, ts, cv, wv, cs, hi.pb, hi.cm, fun _ => hts, h16, by omega⟩, hi.bel⟩

/-- Every step of a script. -/
theorem step_spec (kd : Int) (m pp k : Nat) (on wi nn : Int) (xb : Nat) (jj : Bool) (hon : -9223372036854775808 ≤ on ∧ on ≤ 9223372036854775807) (hwi : -9223372036854775808 ≤ wi ∧ wi ≤ 9223372036854775807) (hxb : xb < 18446744073709551616) (hkk : k ≤ 1000000) (w : World) (hS : SX m w pp true k) :
    Ret Try.prog 6 [.pointer (some ⟨pp, 0, none⟩), .agg [.int .i64 kd, .int .i64 on, .int .i64 wi, .int .i64 nn, .float .f64 xb, .bool jj].toArray] w fun u w' => u = .bool true ∧ SX m w' pp true (k + 1) ∧ RowKit.Below m w w' := by
  by_cases h1 : kd = 1
  · subst h1; exact step_new m pp k true on wi nn xb jj w hS
  by_cases h2 : kd = 2
  · subst h2; exact step_add m pp k on wi nn xb jj hon hwi hxb w hS
  by_cases h3 : kd = 3
  · subst h3; exact step_take m pp k on wi nn xb jj hon hwi hxb w hS
  by_cases h4 : kd = 4
  · subst h4; exact step_merge m pp k on wi nn xb jj hon hwi hxb w hS
  by_cases h5 : kd = 5
  · subst h5; exact step_twice m pp k on wi nn xb jj hon hwi hxb w hS
  exact step_ask kd ⟨h1, h2, h3, h4, h5⟩ m pp k on wi nn xb jj hon hwi hxb hkk w hS

end Go.Proofs.Ytjlmenmlpmfokaa
