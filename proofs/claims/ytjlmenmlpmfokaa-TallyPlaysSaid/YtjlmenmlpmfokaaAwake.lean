/- Package steelyardlaw18: awake. No condition. -/
import Derived.Test.YtjlmenmlpmfokaaTC
namespace Go.Proofs.Ytjlmenmlpmfokaa
open Go Sx Fl Ty
set_option linter.unusedVariables false
set_option linter.unusedSimpArgs false

def F4 : List Nat := [4611686018427387904, 9223372036854775808, 0, 4611686018427387904]
def T4 : KV := [(9223372036854775808, 1), (0, 1), (4611686018427387904, 2)]
def U4 : KV := [(0, 2), (4611686018427387904, 2)]
theorem sl_T4 : SL T4 (occ false F4) := by
  refine ⟨by unfold Srt; decide, by decide, fun k => ?_⟩
  have c1 : cval false 9223372036854775808 = 9223372036854775808 := by decide
  have c2 : cval false 0 = 0 := by decide
  have c3 : cval false 4611686018427387904 = 4611686018427387904 := by decide
  unfold T4 F4 occ
  simp only [cnt_cons, cnt_nil, List.countP_cons, List.countP_nil, c1, c2, c3, decide_eq_true_eq]
  by_cases h1 : 9223372036854775808 = k <;> by_cases h2 : 0 = k <;> by_cases h3 : 4611686018427387904 = k <;> simp only [h1, h2, h3, if_true, if_false] <;> omega
theorem sl_U4 : SL U4 (occ true F4) := by
  refine ⟨by unfold Srt; decide, by decide, fun k => ?_⟩
  have c1 : cval true 9223372036854775808 = 0 := by decide
  have c2 : cval true 0 = 0 := by decide
  have c3 : cval true 4611686018427387904 = 4611686018427387904 := by decide
  unfold U4 F4 occ
  simp only [cnt_cons, cnt_nil, List.countP_cons, List.countP_nil, c1, c2, c3, decide_eq_true_eq]
  by_cases h2 : 0 = k <;> by_cases h3 : 4611686018427387904 = k <;> simp only [h2, h3, if_true, if_false] <;> omega
structure AwInv (w : World) (bt rt bu ru gb : Nat) (i : Nat) (wr : World) : Prop where
  le : i ≤ 4
  t : TC wr bt rt false (occ false (F4.take i)) i
  u : TC wr bu ru true (occ true (F4.take i)) i
  row : wr.heap[gb]? = some (.cells [.float .f64 4611686018427387904, .float .f64 9223372036854775808, .float .f64 0, .float .f64 4611686018427387904].toArray 30 (0, 0))
  chg : Chg [] w wr
theorem f4_lt {i x : Nat} (h : F4[i]? = some x) : x < 18446744073709551616 := by
  have : ∀ x ∈ F4, x < 18446744073709551616 := by decide
  exact this x (List.mem_of_getElem? h)
theorem f4_cell {w : World} {gb i x : Nat} (hr : w.heap[gb]? = some (.cells [.float .f64 4611686018427387904, .float .f64 9223372036854775808, .float .f64 0, .float .f64 4611686018427387904].toArray 30 (0, 0))) (h : F4[i]? = some x) : w.cell? ⟨gb, i, none⟩ = some (.float .f64 x) := by
  rw [cell_at hr]
  match i with
  | 0 => cases h; rfl
  | 1 => cases h; rfl
  | 2 => cases h; rfl
  | 3 => cases h; rfl
  | i + 4 => simp [F4] at h

set_option maxRecDepth 20000 in
theorem awake_spec (w : World) : Ret Try.prog 5 [] w fun v w' => v = .bool true ∧ Chg [] w w' := by
  refine Ret.enter Try.func5 rfl rfl ?_
  refine CW.seq fun kK1 kh1 => ?_
  refine CW.region fun kR2 kr2 => ?_  -- region 0
  refine WL.ev (Ev.assign rfl) rfl ?_
  refine WL.nil (kr2 _ _ _ ?_)
  refine kh1 _ _ _ ?_
  refine CW.seq fun kK3 kh3 => ?_
  refine CW.region fun kR4 kr4 => ?_  -- region 1
  refine WL.call hasF9 rfl rfl (tc_New false _) fun v w1 h => ?_
  obtain ⟨bt, rt, rfl, hbt, hrt, hct, ht1⟩ := h
  obtain ⟨lt1, lt2, _⟩ := ht1.lt
  refine WL.ev (Ev.assign rfl) rfl ?_
  refine WL.nil (kr4 _ _ _ ?_)
  refine kh3 _ _ _ ?_
  refine CW.seq fun kK5 kh5 => ?_
  refine CW.region fun kR6 kr6 => ?_  -- region 2
  refine WL.call hasF9 rfl rfl (tc_New true _) fun v w2 h => ?_
  obtain ⟨bu, ru, rfl, hbu, hru, hcu, hu1⟩ := h
  obtain ⟨lu1, lu2, _⟩ := hu1.lt
  have hs12 := hcu.size
  refine WL.ev (Ev.assign rfl) rfl ?_
  refine WL.nil (kr6 _ _ _ ?_)
  refine kh5 _ _ _ ?_
  refine CW.seq fun kK7 kh7 => ?_
  refine CW.seq fun kK8 kh8 => ?_
  refine CW.region fun kR9 kr9 => ?_  -- region 3
  refine WL.ev (Ev.move rfl) rfl ?_
  refine WL.ev (v := .bool false) (w' := w2) ?_ (by rfl) ?_
  · exact Ev.eqlPtrNil (a := some ⟨bt, 0, none⟩) rfl rfl
  refine WL.ev (Ev.move rfl) rfl ?_
  refine WL.want rfl rfl rfl rfl ?_
  refine WL.ev (Ev.move rfl) rfl ?_
  refine WL.want rfl rfl rfl rfl ?_
  refine WL.ev (v := .bool false) (w' := w2) ?_ (by rfl) ?_
  · exact Ev.eqlPtrNil (a := some ⟨bu, 0, none⟩) rfl rfl
  refine WL.ev (Ev.pickF rfl rfl rfl) rfl ?_
  refine WL.nil (kr9 _ _ _ ?_)
  refine kh8 _ _ _ ?_
  refine CW.condF rfl ?_
  refine CW.skip ?_
  refine kh7 _ _ _ ?_
  refine CW.seq fun kK10 kh10 => ?_
  refine CW.region fun kR11 kr11 => ?_  -- region 5
  refine WL.call hasF20 rfl rfl (steelyardref01_Of_spec _ _) fun v w3 h => ?_
  obtain ⟨rfl, rfl⟩ := h
  refine WL.buildSlice (cs := [.float .f64 4611686018427387904, .float .f64 9223372036854775808, .float .f64 0, .float .f64 4611686018427387904]) (by decide) (by decide) rfl (by kernel_rfl) rfl fun gb w4 n20 => ?_
  have hgb := n20.ge
  refine WL.ev (Ev.assign rfl) rfl ?_
  refine WL.nil (kr11 _ _ _ ?_)
  refine kh10 _ _ _ ?_
  refine CW.seq fun kK12 kh12 => ?_
  refine CW.seq fun kK13 kh13 => ?_
  refine CW.region fun kR14 kr14 => ?_  -- region 6
  refine WL.ev (Ev.assign rfl) rfl ?_
  refine WL.nil (kr14 _ _ _ ?_)
  refine kh13 _ _ _ ?_
  refine CW.block ?_
  refine CW.loop (S := fun i : Nat => [(1, .pointer (some ⟨bt, 0, none⟩)), (2, .pointer (some ⟨bu, 0, none⟩)), (3, .slice (some ⟨gb, 0, none⟩) 4 4), (4, .int .i64 (i : Int)), (0, .bool false)]) (Inv := AwInv w bt rt bu ru gb) (mu := fun i => 4 - i) (0) ?_ ?_ ?_
  ·
    exact ⟨by omega, (ht1.keep hcu (by simp) (by simp)).keep n20.chg (by simp) (by simp), hu1.keep n20.chg (by simp) (by simp), n20.at_, (hct.trans hcu).trans n20.chg⟩
  ·
    repeat (first | exact Subs.nil | refine Subs.cons rfl ?_)
  ·
    intro i wr hi
    have hle := hi.le
    refine CW.seq fun kK15 kh15 => ?_
    refine CW.seq fun kK16 kh16 => ?_
    refine CW.region fun kR17 kr17 => ?_  -- region 7
    refine WL.ev (Ev.move rfl) rfl ?_
    refine WL.ev (Ev.move rfl) rfl ?_
    refine WL.ev (Ev.len rfl) rfl ?_
    refine WL.ev (Ev.lss rfl rfl) rfl ?_
    refine WL.nil (kr17 _ _ _ ?_)
    refine kh16 _ _ _ ?_
    refine CW.cond rfl (fun hc2 => ?_) (fun hc2 => ?_)  -- if 24
    ·
      simp only [decide_eq_true_eq, decide_eq_false_iff_not, Decidable.not_not, Bool.and_eq_true, Bool.or_eq_true, Bool.not_eq_true', ne_eq, Int.not_lt, Int.not_le] at hc2
      refine CW.skip ?_
      refine kh15 _ _ _ ?_
      refine CW.seq fun kK18 kh18 => ?_
      refine CW.block ?_
      refine CW.seq fun kK19 kh19 => ?_
      obtain ⟨x, hx⟩ : ∃ x, F4[i]? = some x := ⟨F4[i]'(by show i < 4; omega), by simp⟩
      have hxl := f4_lt hx
      refine CW.region fun kR20 kr20 => ?_  -- region 9
      refine WL.ev (Ev.move rfl) rfl ?_
      refine WL.ev (Ev.move rfl) rfl ?_
      refine WL.ev (Ev.move rfl) rfl ?_
      refine WL.ev (Ev.indexAddr rfl rfl (by omega) (by omega)) rfl ?_
      rw [show 0 + (((i : Nat) : Int)).toNat * 1 = i by omega]
      refine WL.ev (Ev.load rfl rfl (f4_cell hi.row hx)) rfl ?_
      refine WL.call hasF10 rfl rfl (tc_Add hxl (by omega) hi.t) fun v w4 h' => ?_
      obtain ⟨rfl, hc1, ht2⟩ := h'
      refine WL.ev (Ev.assign rfl) rfl ?_
      refine WL.nil (kr20 _ _ _ ?_)
      refine kh19 _ _ _ ?_
      refine CW.seq fun kK21 kh21 => ?_
      refine CW.region fun kR22 kr22 => ?_  -- region 10
      refine WL.ev (Ev.move rfl) rfl ?_
      refine WL.ev (Ev.move rfl) rfl ?_
      refine WL.ev (Ev.move rfl) rfl ?_
      refine WL.ev (Ev.indexAddr rfl rfl (by omega) (by omega)) rfl ?_
      rw [show 0 + (((i : Nat) : Int)).toNat * 1 = i by omega]
      refine WL.ev (Ev.load rfl rfl (f4_cell (hc1.heap hi.row (by simp; omega)) hx)) rfl ?_
      refine WL.call hasF10 rfl rfl (tc_Add hxl (by omega) (hi.u.keep hc1 (by simp; omega) (by simp; omega))) fun v w5 h' => ?_
      obtain ⟨rfl, hc2, hu2⟩ := h'
      refine WL.ev (Ev.assign rfl) rfl ?_
      refine WL.nil (kr22 _ _ _ ?_)
      refine kh21 _ _ _ ?_
      refine CW.seq fun kK23 kh23 => ?_
      refine CW.region fun kR24 kr24 => ?_  -- region 11
      refine WL.ev (Ev.move rfl) rfl ?_
      refine WL.ev (Ev.neq rfl rfl) rfl ?_
      refine WL.ev (Ev.move rfl) rfl ?_
      refine WL.want rfl rfl rfl rfl ?_
      refine WL.ev (Ev.move rfl) rfl ?_
      refine WL.want rfl rfl rfl rfl ?_
      refine WL.ev (Ev.neq rfl rfl) rfl ?_
      refine WL.ev (Ev.pickF rfl rfl rfl) rfl ?_
      refine WL.nil (kr24 _ _ _ ?_)
      refine kh23 _ _ _ ?_
      refine CW.condF rfl ?_
      refine CW.skip ?_
      refine kh18 _ _ _ ?_
      refine CW.region fun kR25 kr25 => ?_  -- region 8
      refine WL.ev (Ev.move rfl) rfl ?_
      first | refine WL.ev (Ev.addIn rfl rfl (by omega)) rfl ?_ | refine WL.ev (Ev.add rfl rfl) rfl ?_
      refine WL.ev (Ev.assign rfl) rfl ?_
      refine WL.nil (kr25 _ _ _ ?_)
      refine ⟨rfl, i + 1, ?_, ?_, ?_⟩
      ·
        repeat (first | exact Subs.nil | refine Subs.cons rfl ?_)
      ·
        refine ⟨by omega, (ht2.keep hc2 (by simp; omega) (by simp; omega)).congr (occ_step hx) rfl, hu2.congr (occ_step hx) rfl, hc2.heap (hc1.heap hi.row (by simp; omega)) (by simp; omega), (hi.chg.step hc1 (fun x hx => .inr (by simp only [List.mem_cons, List.not_mem_nil, or_false] at hx; omega))).step hc2 (fun x hx => .inr (by simp only [List.mem_cons, List.not_mem_nil, or_false] at hx; omega))⟩
      ·
        show 4 - (i + 1) < 4 - i; omega
    ·
      simp only [decide_eq_true_eq, decide_eq_false_iff_not, Decidable.not_not, Bool.and_eq_true, Bool.or_eq_true, Bool.not_eq_true', ne_eq, Int.not_lt, Int.not_le] at hc2
      refine CW.exit ?_  -- exit 0
      refine kh12 _ _ _ ?_
      refine CW.seq fun kK26 kh26 => ?_
      obtain rfl : i = 4 := by omega
      have hT := hi.t
      have hU := hi.u
      rw [show F4.take 4 = F4 from rfl] at hT hU
      refine CW.region fun kR27 kr27 => ?_  -- region 13
      refine WL.ev (Ev.move rfl) rfl ?_
      refine WL.call hasF13 rfl rfl (tc_Entries hT) fun va w6 he => ?_
      obtain ⟨la, hla, hoa, hca, hfa⟩ := he
      obtain rfl := hla.uniq sl_T4
      obtain ⟨aa, capa, rfl⟩ := own_form hoa
      have hT2 := hT.keep hca (by simp) (by simp)
      have hU2 := hU.keep hca (by simp) (by simp)
      refine WL.ev (Ev.assign rfl) rfl ?_
      refine WL.nil (kr27 _ _ _ ?_)
      refine kh26 _ _ _ ?_
      refine CW.seq fun kK28 kh28 => ?_
      refine CW.region fun kR29 kr29 => ?_  -- region 14
      refine WL.ev (Ev.move rfl) rfl ?_
      refine WL.call hasF13 rfl rfl (tc_Entries hU2) fun vb w7 he => ?_
      obtain ⟨lb, hlb, hob, hcb, hfb⟩ := he
      obtain rfl := hlb.uniq sl_U4
      obtain ⟨ab, capb, rfl⟩ := own_form hob
      have hT3 := hT2.keep hcb (by simp) (by simp)
      have hU3 := hU2.keep hcb (by simp) (by simp)
      refine WL.ev (Ev.assign rfl) rfl ?_
      refine WL.nil (kr29 _ _ _ ?_)
      refine kh28 _ _ _ ?_
      refine CW.seq fun kK30 kh30 => ?_
      refine CW.region fun kR31 kr31 => ?_  -- region 15
      refine WL.ev (Ev.move rfl) rfl ?_
      refine WL.call hasF21 rfl rfl (tc_Often hT3 sl_T4) fun v w8 h' => ?_
      obtain ⟨rfl, hco⟩ := h'
      have hob2 := own_keep hob hco (by simp)
      have hT4 := hT3.keep hco (by simp) (by simp)
      have hU4 := hU3.keep hco (by simp) (by simp)
      have sca := hca.size
      have scb := hcb.size
      have sco := hco.size
      have shi := hi.chg.size
      obtain ⟨lT1, lT2, _⟩ := hT.lt
      obtain ⟨lU1, lU2, _⟩ := hU.lt
      refine WL.ev (Ev.move rfl) rfl ?_
      refine WL.ev (Ev.extract rfl rfl) rfl ?_
      refine WL.ev (Ev.extract rfl rfl) rfl ?_
      refine WL.alloc (l := [.float .f64 0, .int .i64 0]) rfl rfl fun b9 w9 n9 => ?_
      refine WL.storeAgg (vs := [.float .f64 4611686018427387904, .int .i64 2]) rfl rfl rfl (by simp [Value.oneCell']) n9.at_ (by simp) fun w10 u10 => ?_
      have hn9 := n9.is
      have hT5 := (hT4.keep n9.chg (by simp) (by simp)).keep u10.chg (by simp; omega) (by simp; omega)
      have hU5 := (hU4.keep n9.chg (by simp) (by simp)).keep u10.chg (by simp; omega) (by simp; omega)
      have hob3 := own_keep (own_keep hob2 n9.chg (by simp)) u10.chg (fun x hx hm => by have := own_lt hob2 hx; simp only [List.mem_singleton] at hm; omega)
      obtain ⟨gg, rfl, k1, k2⟩ := own_ptr (i := 0) (p := (0, 2)) hob3 rfl
      have hfe : (FloatKind.f64.format.order 4611686018427387904 4611686018427387904 == some .eq) = true := by rw [order_self_eq]; decide
      refine WL.ev (Ev.assign rfl) rfl ?_
      refine WL.nil (kr31 _ _ _ ?_)
      refine kh30 _ _ _ ?_
      refine CW.seq fun kK32 kh32 => ?_
      refine CW.region fun kR33 kr33 => ?_  -- region 16
      refine WL.ev (Ev.move rfl) rfl ?_
      refine WL.ev (Ev.len rfl) rfl ?_
      refine WL.ev (Ev.eql rfl rfl) rfl ?_
      refine WL.ev (Ev.move rfl) rfl ?_
      refine WL.want rfl rfl rfl rfl ?_
      refine WL.ev (Ev.move rfl) rfl ?_
      refine WL.want rfl rfl rfl rfl ?_
      refine WL.ev (Ev.len rfl) rfl ?_
      refine WL.want rfl rfl rfl rfl ?_
      refine WL.ev (Ev.eql rfl rfl) rfl ?_
      refine WL.ev (Ev.pickT rfl rfl rfl) rfl ?_
      refine WL.ev (Ev.move rfl) rfl ?_
      refine WL.want rfl rfl rfl rfl ?_
      refine WL.ev (Ev.move rfl) rfl ?_
      refine WL.want rfl rfl rfl rfl ?_
      refine WL.ev (Ev.indexAddr rfl rfl (by decide) (by decide)) rfl ?_
      refine WL.want rfl rfl rfl rfl ?_
      refine WL.ev (Ev.fieldAddr rfl) rfl ?_
      refine WL.want rfl rfl rfl rfl ?_
      refine WL.ev (Ev.load rfl rfl (k2)) rfl ?_
      refine WL.want rfl rfl rfl rfl ?_
      refine WL.ev (Ev.eql rfl rfl) rfl ?_
      refine WL.ev (Ev.pickT rfl rfl rfl) rfl ?_
      refine WL.ev (Ev.move rfl) rfl ?_
      refine WL.want rfl rfl rfl rfl ?_
      refine WL.ev (Ev.move rfl) rfl ?_
      refine WL.ev (Ev.pickT rfl rfl rfl) rfl ?_
      refine WL.ev (Ev.move rfl) rfl ?_
      refine WL.want rfl rfl rfl rfl ?_
      refine WL.ev (Ev.fieldAddr rfl) rfl ?_
      refine WL.want rfl rfl rfl rfl ?_
      refine WL.ev (Ev.load rfl rfl ((by rw [cell_at u10.at_]; rfl))) rfl ?_
      refine WL.want rfl rfl rfl rfl ?_
      refine WL.ev (Ev.feql rfl rfl) rfl ?_
      refine WL.ev (Ev.pickT rfl rfl rfl) rfl ?_
      refine WL.ev (Ev.move rfl) rfl ?_
      refine WL.want rfl rfl rfl (by rw [hfe]; rfl) ?_
      refine WL.ev (Ev.fieldAddr rfl) rfl ?_
      refine WL.want rfl rfl rfl (by rw [hfe]; rfl) ?_
      refine WL.ev (Ev.load rfl rfl ((by rw [cell_at u10.at_]; rfl))) rfl ?_
      refine WL.want rfl rfl rfl (by rw [hfe]; rfl) ?_
      refine WL.ev (Ev.eql rfl rfl) rfl ?_
      refine WL.ev (Ev.pickT rfl hfe rfl) rfl ?_
      refine WL.ev (Ev.move rfl) rfl ?_
      refine WL.want rfl rfl rfl rfl ?_
      refine WL.ev (Ev.move rfl) rfl ?_
      refine WL.want rfl rfl rfl rfl ?_
      refine WL.call hasF15 rfl rfl (tc_All hT5) fun v w9 h' => ?_
      obtain ⟨rfl, rfl⟩ := h'
      refine WL.want rfl rfl rfl rfl ?_
      refine WL.ev (Ev.eql rfl rfl) rfl ?_
      refine WL.ev (Ev.pickT rfl rfl rfl) rfl ?_
      refine WL.ev (Ev.move rfl) rfl ?_
      refine WL.want rfl rfl rfl rfl ?_
      refine WL.ev (Ev.move rfl) rfl ?_
      refine WL.want rfl rfl rfl rfl ?_
      refine WL.call hasF19 rfl rfl (tc_Unlike hT5 sl_T4) fun v w10 h' => ?_
      obtain ⟨rfl, rfl⟩ := h'
      refine WL.want rfl rfl rfl rfl ?_
      refine WL.ev (Ev.eql rfl rfl) rfl ?_
      refine WL.ev (Ev.pickT rfl rfl rfl) rfl ?_
      refine WL.ev (Ev.move rfl) rfl ?_
      refine WL.want rfl rfl rfl rfl ?_
      refine WL.ev (Ev.move rfl) rfl ?_
      refine WL.want rfl rfl rfl rfl ?_
      refine WL.call hasF20 rfl rfl (steelyardref01_Of_spec _ _) fun v w11 h' => ?_
      obtain ⟨rfl, rfl⟩ := h'
      refine WL.want rfl rfl rfl rfl ?_
      refine WL.call hasF18 rfl rfl (tc_Count (by decide) hU5) fun v w12 h' => ?_
      obtain ⟨rfl, rfl⟩ := h'
      refine WL.want rfl rfl rfl rfl ?_
      refine WL.ev (Ev.eql rfl rfl) rfl ?_
      refine WL.ev (Ev.pickT rfl rfl rfl) rfl ?_
      refine WL.ev (Ev.assign rfl) rfl ?_
      refine WL.nil (kr33 _ _ _ ?_)
      refine kh32 _ _ _ ?_
      refine CW.ret ?_
      refine bodyA.ret1 rfl rfl ?_
      refine ⟨?_, ?_⟩
      · rfl
      · exact ((((((hi.chg.trans hca).trans hcb).trans hco).trans n9.chg).step u10.chg (fun x hx => .inr (by simp only [List.mem_singleton] at hx; omega))).trans (Chg.drew _ _))

end Go.Proofs.Ytjlmenmlpmfokaa
