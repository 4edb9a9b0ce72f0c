/- Part 5 of what the proof rests on. No condition. -/
import Derived.Test.YtbplehaogncjoaaGreatDoorSl4
import Derived.WalkKit
import Derived.ProofKit
import Derived.OpenShut
import Derived.ChangeOld
import Derived.Below
import Derived.Deep.Slices
import Derived.Laws.Cover2
import Derived.LaidMore
import Derived.SizedLaws
import Derived.SevenTiedAt
import Derived.Stop.Joined
import Derived.Test.YtbplehaogncjoaaGreatDoorRows
import Derived.LaidHandle
import Derived.ChangeMaps5
import Derived.Stop.ErrReads
set_option linter.unusedVariables false
set_option linter.unusedSimpArgs false
set_option maxRecDepth 100000
set_option maxHeartbeats 4000000
namespace Go.Proofs.YtbplehaogncjoaaGreatDoor
/- Package steelyardlaw22: one. No condition. -/
section
open Go Sx Wd Fl

/-- The shard of some numbers. -/
def oneStep (S : Sh) (x : Nat) : Sh := if 1099511627776 < S.s.al + 1 then S else S.merge (Sh.one x)
def oneL (l : List Nat) : Sh := l.foldl oneStep Sh.zero
theorem oneL_take {l : List Nat} {i : Nat} (h : i < l.length) : oneL (l.take (i + 1)) = oneStep (oneL (l.take i)) (l.getD i 0) := by
  rw [take_step h]; simp [oneL]
theorem one_cnt (x : Nat) : (Sh.one x).cnt := by
  show (countP SP.zero (kindP x)).na + (countP SP.zero (kindP x)).up + (countP SP.zero (kindP x)).dn + (countP SP.zero (kindP x)).mi + (countP SP.zero (kindP x)).pl ≤ (countP SP.zero (kindP x)).al
  simp only [countP, SP.zero]
  repeat (first | omega | split)
theorem one_al (x : Nat) : (Sh.one x).s.al = 1 := rfl
theorem oneAdd {T : TypeId} {S : Sh} {x b : Nat} {w w' : World} {u : Value} (h : (1099511627776 < S.s.al + 1 ∧ u = .int .i64 2 ∧ ShM T w' b S ∧ Chg [b] w w') ∨ (S.s.al + 1 ≤ 1099511627776 ∧ u = .int .i64 0 ∧ ShM T w' b (S.merge (Sh.one x)) ∧ Chg [b] w w')) : ShM T w' b (oneStep S x) ∧ Chg [b] w w' := by
  unfold oneStep
  rcases h with ⟨h1, _, h2, h3⟩ | ⟨h1, _, h2, h3⟩
  · rw [if_pos h1]; exact ⟨h2, h3⟩
  · rw [if_neg (by omega)]; exact ⟨h2, h3⟩
theorem oneStep_ok {S : Sh} {x : Nat} (hx : x < 18446744073709551616) (hS : S.wf) (hc : S.cnt) : (oneStep S x).wf ∧ (oneStep S x).cnt := by
  unfold oneStep
  split
  · exact ⟨hS, hc⟩
  · exact cnt_wf hS (one_wf hx) hc (one_cnt x) (by rw [one_al]; omega)
theorem oneL_ok {l : List Nat} (hw : ∀ x ∈ l, x < 18446744073709551616) : (oneL l).wf ∧ (oneL l).cnt := by
  unfold oneL
  have key : ∀ (l : List Nat) (S : Sh), S.wf → S.cnt → (∀ x ∈ l, x < 18446744073709551616) → (l.foldl oneStep S).wf ∧ (l.foldl oneStep S).cnt := by
    intro l
    induction l with
    | nil => intro S h1 h2 _; exact ⟨h1, h2⟩
    | cons x l ih =>
      intro S h1 h2 hw
      obtain ⟨a, b⟩ := oneStep_ok (hw x (List.mem_cons_self ..)) h1 h2
      exact ih _ a b fun y hy => hw y (List.mem_cons_of_mem _ hy)
  exact key l Sh.zero Sh.wf.zero (Nat.le_refl _) hw

theorem l22one_spec (al : Option Addr) (l : List Nat) (cl : Nat) (w : World) (hrl : RW w al (l.map f64v)) (hWl : ∀ x ∈ l, x < 18446744073709551616) (hll : l.length ≤ 70368744177664) (hg0 : GW w) : Ret Tryz.prog 10 [.slice al l.length cl] w fun u w' => (∃ b, u = .pointer (some ⟨b, 0, none⟩) ∧ ShM 66 w' b (oneL l) ∧ w.heap.size ≤ b) ∧ Chg [] w w' := by
 have hch : Chg [] w w := Chg.refl _ _;refine zE1 Tryz.func10 rfl ?_;refine Sr fun _ kh1 => za rfl (zz (kh1 (Sr fun _ kh3 => ?_)));refine WL.call hasF11 rfl rfl (shNew_spec _) fun v w1 h' => ?_;obtain ⟨⟨bt, rfl, hbt, hget⟩, hC⟩ := h';have hch := hch.ta hC;refine za rfl (zz (kh3 (zc fun _ kh5 => Sr fun _ kh6 => zm rfl ?_)));refine WL.ev (Ev.eqlPtrNil rfl rfl) rfl ?_;refine zz (kh6 ?_);refine CW.condF rfl ?_;refine zkk ?_;refine kh5 (zc fun _ kh8 => Sr fun _ kh9 => za rfl (zz (kh9 ?_)));refine CW.block ?_;refine CW.loop (S := fun i : Nat => [(0, .slice al l.length cl), (3, .pointer (some ⟨bt, 0, none⟩)), (4, .int .i64 (i : Int))]) (Inv := fun i w1 => i ≤ l.length ∧ ShM 66 w1 bt (oneL (l.take i)) ∧ Chg [] w w1) (mu := fun i => l.length - i) (0) ?_ ?_ ?_
 ·exact ⟨Nat.zero_le _, hbt, hch⟩
 ·exact SLp
 ·rintro i wr ⟨hi, hbt, hch⟩;refine zc fun _ kh11 => Sr fun _ kh12 => zm rfl (zm rfl (zn rfl ?_));refine WL.ev (Ev.lss rfl rfl) rfl ?_;refine zz (kh12 ?_);refine zy rfl ?_ ?_<;>intro hc1<;>try simp only [qs] at hc1
  ·have hok := oneL_ok (l := l.take i) (fun x hx => hWl x (List.mem_of_mem_take hx));have hxi : l.getD i 0 < 18446744073709551616 := by rw [List.getD_eq_getElem?_getD, List.getElem?_eq_getElem (by omega)]; exact hWl _ (List.getElem_mem _)
   refine zkk ?_;refine kh11 (zc fun _ kh14 => ?_);refine CW.block ?_;refine zR fun _ kr15 => ?_;refine zm rfl (zm rfl (zm rfl ?_));refine WL.ev (Ev.ixR (i) rfl rfl (hrl.keep0 hch) (by omega) (by omega) (by simp; omega)) rfl ?_;refine WL.ev (Ev.load rfl rfl ((hrl.keep0 hch).f64 (by first | omega | (simp; omega)))) rfl ?_;refine WL.call hasF25 rfl rfl (shAdd_spec bt _ _ _ hbt hok.1 hxi (hg0.keep hch (fun b hb => by cases hb))) fun v w2 h' => ?_;obtain ⟨hbt, hC⟩ := oneAdd h';have hch := hch.step hC (fun y hy => by rw [List.mem_singleton.1 hy]; exact .inr hget);refine WL.nil (kr15 _ _ _ (kh14 ?_));refine zR fun _ kr16 => ?_;refine zm rfl ?_;(first | refine zi rfl rfl ?_ | refine zo rfl rfl ?_);refine za rfl ?_;refine WL.nil (kr16 _ _ _ ?_);refine ⟨rfl, i + 1, ?_, ?_, ?_⟩
   ·exact SLp
   ·exact ⟨by omega, by rw [oneL_take (by omega)]; exact hbt, hch⟩
   ·show l.length - (i + 1) < l.length - i; omega
  ·have hiX : i = l.length := by omega
   subst hiX;rw [List.take_length] at hbt;refine CW.exit ?_;refine kh8 (Sr fun _ kh17 => zm rfl (za rfl (zz (kh17 ?_))));refine zr (zr1 rfl rfl ?_);exact ⟨⟨bt, rfl, hbt, hget⟩, hch⟩

end

/- A log's bytes, read again, are its records. No condition. -/
section
open Go Sx Wd Fl

theorem rdRec_laid {nm dat : List Nat} (rest : List Nat) (h1 : 1 ≤ nm.length) (h2 : nm.length ≤ 64) (hl : dat.length < 16777216) (hs : decS dat ≠ none) : rdRec (laidB nm dat ++ rest) = (0, nm, dat) := by
  obtain ⟨bs, hbs⟩ : ∃ bs, laidB nm dat ++ rest = bs := ⟨_, rfl⟩
  have e1 : bs = [nm.length % 256] ++ (nm ++ (leB dat.length 3 ++ (dat ++ (leB (fnv (recB nm dat)) 4 ++ rest)))) := by
    obtain ⟨F, hF⟩ : ∃ F, fnv (recB nm dat) = F := ⟨_, rfl⟩
    rw [← hbs]; unfold laidB; rw [hF]; unfold recB
    simp only [List.append_assoc]
  have e2 : bs = ([nm.length % 256] ++ nm) ++ (leB dat.length 3 ++ (dat ++ (leB (fnv (recB nm dat)) 4 ++ rest))) := by rw [e1, List.append_assoc]
  have e3 : bs = (([nm.length % 256] ++ nm) ++ leB dat.length 3) ++ (dat ++ (leB (fnv (recB nm dat)) 4 ++ rest)) := by rw [e2, List.append_assoc (_ ++ nm)]
  have e4 : bs = recB nm dat ++ (leB (fnv (recB nm dat)) 4 ++ rest) := by rw [← hbs]; unfold laidB; rw [List.append_assoc]
  have hlen : bs.length = 8 + nm.length + dat.length + rest.length := by rw [← hbs, List.length_append, laidB_len]
  have h0 : bs.getD 0 0 = nm.length := by
    rw [e1]; show nm.length % 256 = nm.length; exact Nat.mod_eq_of_lt (by omega)
  have hd1 : (bs.drop 1).take nm.length = nm := by
    rw [e1, List.drop_left' (by rfl), List.take_left' rfl]
  have hd2 : leV ((bs.drop (1 + nm.length)).take 3) = dat.length := by
    rw [e2, List.drop_left' (by rw [List.length_append]; rfl), List.take_left' (leB_len _ _), leV_leB]; exact Nat.mod_eq_of_lt (by omega)
  have hd3 : (bs.drop (4 + nm.length)).take dat.length = dat := by
    rw [e3, List.drop_left' (by simp only [List.length_append, leB_len, List.length_cons, List.length_nil]; omega), List.take_left' rfl]
  have hd4 : (bs.drop (4 + nm.length + dat.length)).take 4 = leB (fnv (recB nm dat)) 4 := by
    rw [e4, List.drop_left' (recB_len _ _), List.take_left' (leB_len _ _)]
  have hd5 : bs.take (4 + nm.length + dat.length) = recB nm dat := by
    rw [e4, List.take_left' (recB_len _ _)]
  unfold rdRec
  rw [hbs, h0, hd2, if_neg (by omega), if_neg (by omega), if_neg (by omega), hd4, hd5, if_neg (by simp), hd3, if_neg hs, hd1]
/-- Records that a log keeps, which read again. -/
structure GoodG (G : List RG) : Prop where
  g : ∀ g ∈ G, 1 ≤ (sB g.1).length ∧ (sB g.1).length ≤ 64 ∧ B8 g.2.1 ∧ decS g.2.1 ≠ none
  tot : totG G ≤ 1048576
theorem bytG_append (A B : List RG) : bytG (A ++ B) = bytG A ++ bytG B := by simp [bytG]
theorem bytG_at {G : List RG} {i : Nat} {g : RG} (h : G[i]? = some g) : (bytG G).drop (totG (G.take i)) = laidB (sB g.1) g.2.1 ++ bytG (G.drop (i + 1)) := by
  have hlt : i < G.length := (List.getElem?_eq_some_iff.1 h).1
  have e : G = G.take i ++ (g :: G.drop (i + 1)) := by
    conv => lhs; rw [← List.take_append_drop i G]
    rw [List.drop_eq_getElem_cons hlt]
    congr 2
    exact (List.getElem?_eq_some_iff.1 h).2
  have e2 : bytG G = bytG (G.take i) ++ (laidB (sB g.1) g.2.1 ++ bytG (G.drop (i + 1))) := by
    conv => lhs; rw [e]
    rw [bytG_append]; rfl
  rw [e2, List.drop_left' (bytG_len _)]
theorem bytG_B8 {G : List RG} (h : ∀ g ∈ G, B8 g.2.1) : B8 (bytG G) := by
  intro x hx
  obtain ⟨m, hm, hx⟩ := List.mem_flatten.1 hx
  obtain ⟨g, hg, rfl⟩ := List.mem_map.1 hm
  unfold laidB recB at hx
  exact ((((B8.append (fun x hx => by rw [List.mem_singleton.1 hx]; exact Nat.mod_lt _ (by decide)) (sB_lt g.1)).append (leB_B8 _ _)).append (h g hg)).append (leB_B8 _ _)) x hx
theorem totG_take_lt {G : List RG} {i : Nat} (h : i < G.length) : totG (G.take i) < totG G := by
  have h1 := totG_take G (i + 1)
  rw [List.take_add_one, List.getElem?_eq_getElem h] at h1
  simp only [Option.toList_some] at h1
  rw [totG_snoc] at h1
  unfold szG at h1
  omega
theorem GoodG.read {G : List RG} (h : GoodG G) {i : Nat} {g : RG} (hg : G[i]? = some g) : rdRec ((bytG G).drop (totG (G.take i))) = (0, sB g.1, g.2.1) := by
  obtain ⟨a, b, c, d⟩ := h.g g (List.mem_of_getElem? hg)
  have hs := szG_le (List.mem_of_getElem? hg)
  have ht := h.tot
  rw [bytG_at hg]
  exact rdRec_laid _ a b (by unfold szG at hs; omega) d
theorem GoodG.wk {G : List RG} (h : GoodG G) {R : List (ByteArray × List Nat)} {p : Nat} (hw : Wk (bytG G) R p) : ∃ i, i ≤ G.length ∧ R = tellG (G.take i) ∧ p = totG (G.take i) := by
  induction hw with
  | nil => exact ⟨0, Nat.zero_le _, rfl, rfl⟩
  | @step R p nm dat hw hp hr ih =>
    obtain ⟨i, hi, rfl, rfl⟩ := ih
    rw [bytG_len] at hp
    have hlt : i < G.length := by
      rcases Nat.lt_or_ge i G.length with q | q
      · exact q
      · rw [List.take_of_length_le q] at hp; omega
    obtain ⟨g, hg⟩ : ∃ g, G[i]? = some g := ⟨_, List.getElem?_eq_getElem hlt⟩
    rw [h.read hg] at hr
    injection hr with _ hr
    injection hr with h1 h2
    subst h1; subst h2
    refine ⟨i + 1, hlt, ?_, ?_⟩
    · rw [List.take_add_one, hg, Option.toList_some, tellG_snoc, bA_sB]
    · rw [List.take_add_one, hg, Option.toList_some, totG_snoc]; unfold szG; omega
theorem GoodG.all {G : List RG} (h : GoodG G) {R : List (ByteArray × List Nat)} (hw : Wk (bytG G) R (bytG G).length) : R = tellG G := by
  obtain ⟨i, hi, rfl, hp⟩ := h.wk hw
  rw [bytG_len] at hp
  rcases Nat.lt_or_ge i G.length with q | q
  · have := totG_take_lt q; omega
  · rw [List.take_of_length_le q]
theorem GoodG.good {G : List RG} (h : GoodG G) : ∀ R p, Wk (bytG G) R p → p < (bytG G).length → (rdRec ((bytG G).drop p)).1 = 0 := fun R p hw hp => by
  obtain ⟨i, hi, rfl, rfl⟩ := h.wk hw
  rw [bytG_len] at hp
  rcases Nat.lt_or_ge i G.length with q | q
  · obtain ⟨g, hg⟩ : ∃ g, G[i]? = some g := ⟨_, List.getElem?_eq_getElem q⟩
    rw [h.read hg]
  · rw [List.take_of_length_le q] at hp; omega
theorem tell_one {G : List RG} {nm : ByteArray} {d : List Nat} (h : tellG G = [(nm, d)]) : ∃ v, G = [(nm, d, v)] := by
  match G, h with
  | [(a, b, v)], h => cases h; exact ⟨v, rfl⟩
end

/- Package steelyardlaw22: live. No condition. -/
section
open Go Sx Wd Fl

def l12 : List Nat := [4607182418800017408, 4611686018427387904]
def lgr : List Nat := [9218868437227405311, 1]
theorem ex0 : Sh.zero.ex := ⟨by decide, by decide, by show (wd 0).length ≤ 160; rw [wd_zero]; decide, by show (wd 0).length ≤ 160; rw [wd_zero]; decide⟩
theorem ex12 : (oneL l12).ex := by constructor <;> decide +kernel
theorem exgr_v : -4096 ≤ (oneL lgr).V.e ∧ (oneL lgr).V.e ≤ 61439 := by decide +kernel
theorem exgr_q : -4096 ≤ (oneL lgr).Q.e ∧ (oneL lgr).Q.e ≤ 61439 := by decide +kernel
theorem wlenA {n k : Nat} (h : ∀ a, a = 32 * k → n < 2 ^ a) : (wd n).length ≤ k := wd_length_le.2 (h _ rfl)
theorem exgr_lv : ∀ a, a = 32 * 160 → (oneL lgr).V.m < 2 ^ a := by
  intro a h; subst h; decide +kernel
theorem exgr_lq : ∀ a, a = 32 * 160 → (oneL lgr).Q.m < 2 ^ a := by
  intro a h; subst h; decide +kernel
theorem exgr : (oneL lgr).ex := ⟨exgr_v, exgr_q, wlenA exgr_lv, wlenA exgr_lq⟩
theorem w12 : ∀ x ∈ l12, x < 18446744073709551616 := by decide
theorem wgr : ∀ x ∈ lgr, x < 18446744073709551616 := by decide
theorem back12 : (oneL l12).back := ⟨(oneL_ok w12).1, ex12, fun h => absurd (by decide +kernel : (oneL l12).some) h, by decide +kernel, by decide +kernel, fun _ => by decide +kernel⟩
theorem dec12 : decS (encS (oneL l12)) = some (oneL l12) := decS_encS back12
theorem tot12 (nm : ByteArray) (dv : Value) : totW nm [(nm, encS (oneL l12), dv)] = .ok (Sh.zero.merge (oneL l12), true) := by
  have h : ¬ 1099511627776 < Sh.zero.s.al + (oneL l12).s.al := by decide +kernel
  show totStep nm (.ok (Sh.zero, false)) (nm, encS (oneL l12), dv) = _
  unfold totStep
  dsimp only
  rw [if_pos rfl, dec12]
  dsimp only
  rw [if_neg h]
theorem al12 : (Sh.zero.merge (oneL l12)).s.al = 2 := by decide +kernel
theorem sBa : sB ⟨#[97]⟩ = [97] := by decide
theorem enc12_len : 58 ≤ (encS (oneL l12)).length := by
  unfold encS
  simp only [List.length_append, leB_len, encD_len]
  omega
theorem good12 (dv : Value) : GoodG [(⟨#[97]⟩, encS (oneL l12), dv)] := by
  refine ⟨fun g hg => ?_, ?_⟩
  · rw [List.mem_singleton.1 hg]
    dsimp only
    rw [sBa, dec12]
    exact ⟨by decide, by decide, encS_B8 _, by simp⟩
  · have := encS_len ex12
    show szG _ + 0 ≤ _
    unfold szG
    dsimp only
    rw [sBa]
    simp only [List.length_cons, List.length_nil]
    omega

theorem l22live_spec (w : World) (ea : Nat → Addr) (hg0 : GW w) (hE0 : GE w (evV ea)) : Ret Tryz.prog 8 [] w fun u w' => u = .bool true ∧ Chg [] w w' := by
 have hch : Chg [] w w := Chg.refl _ _;refine zE0 Tryz.func8 rfl ?_;refine Sr fun _ kh1 => za rfl (zz (kh1 (Sr fun _ kh3 => ?_)));refine WL.call hasF9 rfl rfl (stNew_spec _) fun v w1 h' => ?_;obtain ⟨⟨bl, rfl, hbl0, hgel⟩, hC⟩ := h';have hL : LgM w.heap.size _ bl [] := LgM.new hbl0;have hch := hch.ta hC;refine za rfl (zz (kh3 (Sr fun _ kh5 => ?_)));refine WL.buildSlice (m := 2) (cs := [f64v (4607182418800017408), f64v (4611686018427387904)]) (by decide) (by decide) rfl (by kernel_rfl) rfl fun b11 w11 hn11 => ?_;have hcm11 := hn11.chg;have hge11 := hn11.ge;have hb11 : FB w11 b11 _ [4607182418800017408, 4611686018427387904] := hn11.at_;have hgehch11 := Nat.le_trans hch.size hge11;have hch := hch.ta hcm11;have hL := hL.keep0 hcm11;refine WL.call hasF10 rfl rfl (l22one_spec _ l12 2 _ hb11.row w12 (by decide) (hg0.keep hch (fun b hb => by cases hb))) fun v w2 h' => ?_;obtain ⟨⟨bs1, rfl, hbs, hges⟩, hC⟩ := h';have hch := hch.ta hC;have hL := hL.keep0 hC;refine za rfl (zz (kh5 (zc fun _ kh7 => Sr fun _ kh8 => zm rfl ?_)));refine WL.ev (Ev.eqlPtrNil rfl rfl) rfl ?_;refine zm rfl (zw rfl (zm rfl (zw rfl ?_)));refine WL.ev (Ev.eqlPtrNil rfl rfl) rfl ?_;refine ze rfl rfl (zz (kh8 ?_));refine CW.condF rfl ?_;refine zkk ?_;refine kh7 (Sr fun _ kh10 => zm rfl (zm rfl ?_));refine WL.call hasF13 rfl rfl (stAppend_spec bl w.heap.size [] ⟨#[97]⟩ bs1 _ w _ hL hbs (oneL_ok w12).1 ex12 (Chg.any hch) (Nat.le_refl _) hch.size) fun v w3 h' => ?_;rcases h' with ⟨hbad, _⟩ | ⟨_, hbig, _⟩ | ⟨_, hle, rfl, ⟨dv, hL⟩, hch⟩
 · rw [sBa] at hbad; exact absurd hbad (by decide)
 · have := encS_len ex12; rw [sBa] at hbig; simp only [totG, List.map_nil, List.sum_nil, List.length_cons, List.length_nil] at hbig; omega
 have hch := hch.drop hgel;rw [List.nil_append] at hL;refine za rfl (zz (kh10 (Sr fun _ kh12 => zm rfl ?_)));refine WL.call hasF14 rfl rfl (stBytes_spec bl w.heap.size [(⟨#[97]⟩, encS (oneL l12), dv)] _ hL) fun v w4 h' => ?_;obtain ⟨hgb, hC⟩ := h';have hGd := good12 dv;have hbl58 := enc12_len;have hlenB := bytG_len [(⟨#[97]⟩, encS (oneL l12), dv)];have htotB : totG [(⟨#[97]⟩, encS (oneL l12), dv)] = 9 + (encS (oneL l12)).length := by show szG _ + 0 = _; unfold szG; dsimp only; rw [sBa]; rfl
 have htB := hGd.tot;have hB0 : (bytG [(⟨#[97]⟩, encS (oneL l12), dv)]).getD 0 0 = 1 := rfl;have hB1 : (bytG [(⟨#[97]⟩, encS (oneL l12), dv)]).getD 1 0 = 97 := rfl;obtain ⟨bs, hbs⟩ : ∃ bs, bytG [(⟨#[97]⟩, encS (oneL l12), dv)] = bs := ⟨_, rfl⟩;rw [hbs] at hgb hlenB hB0 hB1;obtain ⟨a23, c23, rfl, hcap23, hr23⟩ := hgb.row;have hch := hch.ta hC;refine za rfl (zz (kh12 (Sr fun _ kh14 => zm rfl ?_)));refine WL.call hasF17 rfl rfl (stReplayOk_spec a23 bs c23 _ ea hr23 hcap23 (by rw [← hbs]; exact bytG_B8 (fun g hg => (hGd.g g hg).2.2.1)) (by omega) (hE0.keep0 hch) (hg0.keep hch (fun b hb => by cases hb)) (by rw [← hbs]; exact hGd.good)) fun v w5 h' => ?_;obtain ⟨⟨bl2, G2, rfl, hWk, hL2, hge2⟩, hC⟩ := h';obtain ⟨dv2, rfl⟩ := tell_one (by rw [← hbs] at hWk; exact (hGd.all hWk : tellG G2 = tellG [(⟨#[97]⟩, encS (oneL l12), dv)]));have hch := hch.ta hC;have hr23 := hr23.keep0 hC;refine zm rfl (zx rfl rfl (zx rfl rfl (zx rfl rfl (za rfl (za rfl (za rfl (zz (kh14 (zc fun _ kh16 => Sr fun _ kh17 => zm rfl ?_)))))))));refine WL.ev (Ev.neq rfl rfl) rfl ?_;rw [decide_eq_false (by simp)];refine zm rfl (zw rfl (zm rfl (zw rfl ?_)));refine WL.ev (Ev.neq rfl rfl) rfl ?_;rw [decide_eq_false (by simp)];refine ze rfl rfl (zm rfl (zw rfl (zm rfl (zw rfl ?_))));refine WL.ev (Ev.eqlPtrNil rfl rfl) rfl ?_;refine ze rfl rfl (zm rfl (zw rfl (zm rfl (zw rfl (zm rfl (zw rfl (zn rfl (zw rfl ?_))))))));refine WL.ev (Ev.neq rfl rfl) rfl ?_;rw [decide_eq_false (by simp)];refine ze rfl rfl (zm rfl (zw rfl (zm rfl (zw rfl ?_))));refine WL.ev (Ev.lss rfl rfl) rfl ?_;rw [decide_eq_false (by omega)];refine ze rfl rfl (zz (kh17 ?_));refine CW.condF rfl ?_;refine zkk ?_;refine kh16 (Sr fun _ kh19 => zm rfl ?_);refine WL.call hasF21 rfl rfl (stTotal_spec bl2 _ _ ⟨#[97]⟩ _ hL2 (hg0.keep hch (fun b hb => by cases hb))) fun v w6 h' => ?_;obtain ⟨hu, hC⟩ := h';rw [tot12] at hu;rcases hu with ⟨S, bt, hS, rfl, hbt, hwt, _⟩ | ⟨S, hS, _⟩ | ⟨e, hS, _⟩
 rotate_left
 · cases hS
 · cases hS
 obtain rfl : Sh.zero.merge (oneL l12) = S := by injection hS with hS; injection hS
 have hch := hch.ta hC;have hr23 := hr23.keep0 hC;refine zm rfl (zx rfl rfl (zx rfl rfl (za rfl (za rfl (zz (kh19 (Sr fun _ kh21 => zm rfl (zq rfl rfl (zm rfl (zw rfl (zm rfl (zw rfl ?_))))))))))));refine WL.ev (Ev.neqPtrNil rfl rfl) rfl ?_;refine zt rfl rfl (zm rfl (zw rfl (zm rfl (zw rfl ?_))));refine WL.call hasF24 rfl rfl (Count_spec_ bt _ _ hbt hwt.1) fun v w7 h' => ?_;obtain ⟨rfl, hC⟩ := h';rw [al12];have hch := hch.ta hC;have hr23 := hr23.keep0 hC;refine zw rfl (zq rfl rfl (zt rfl rfl (zm rfl (zw rfl (zm rfl (zw rfl ?_))))));refine WL.ev (Ev.ixR (0) rfl rfl hr23 (by omega) (by omega) (by simp; omega)) rfl ?_;refine zw rfl ?_;refine WL.ev (Ev.load rfl rfl (hr23.u8 (by omega))) rfl ?_;rw [hB0];refine zw rfl (zq rfl rfl (zt rfl rfl (zm rfl (zw rfl (zm rfl (zw rfl ?_))))));refine WL.ev (Ev.ixR (1) rfl rfl hr23 (by omega) (by omega) (by simp; omega)) rfl ?_;refine zw rfl ?_;refine WL.ev (Ev.load rfl rfl (hr23.u8 (by omega))) rfl ?_;rw [hB1];refine zw rfl (zq rfl rfl (zt rfl rfl (za rfl (zz (kh21 ?_)))));refine zr (zr1 rfl rfl ?_);exact ⟨rfl, hch⟩

end

/- Package steelyardlaw22: StoreLong. No condition. -/
section
open Go Sx Wd Fl

theorem LgM.newS {w : World} {b : Nat} (h : BK w b 57 [.slice none 0 0, .int .i64 0]) : LgM w.heap.size w b [] := LgM.new h
theorem BK.refl_ {w : World} {b : Nat} {T : TypeId} {cs : List Value} (h : BK w b T cs) : Chg [b] w w := Chg.refl _ _
theorem ShM.keepL {w w' : World} {b c : Nat} {S : Sh} (h : ShM 66 w c S) (hb : BK w b 57 [.slice none 0 0, .int .i64 0]) (hc : Chg [b] w w') : ShM 66 w' c S := h.keepBK hb hc (by intro v hv; simp only [List.mem_cons, List.not_mem_nil, or_false] at hv; rcases hv with rfl | rfl <;> rfl)
theorem Sx.Chg.keep0 {T : List Nat} {w w' w'' : World} (h : Chg T w w') (hc : Chg [] w' w'') : Chg T w w'' := h.trans (Chg.any hc)
theorem rep_lt (n : Nat) : ∀ x ∈ List.replicate n 0, x < 256 := fun x hx => by rw [List.eq_of_mem_replicate hx]; decide

theorem StoreLong_spec (nm : ByteArray) (w : World) (ea : Nat → Addr) (hg0 : GW w) (hE0 : GE w (evV ea)) : Ret Tryz.prog 3 [.string nm] w fun u w' => u = .bool true ∧ Chg [] w w' := by
 have hch : Chg [] w w := Chg.refl _ _;refine zE1 Tryz.func3 rfl ?_;refine Sr fun _ kh1 => za rfl (zz (kh1 (Sr fun _ kh3 => ?_)));refine WL.call hasF8 rfl rfl (l22live_spec _ ea (hg0.keep hch (fun b hb => by cases hb)) (hE0.keep0 hch)) fun v w1 h' => ?_;obtain ⟨rfl, hC⟩ := h';have hch := hch.ta hC;refine za rfl (zz (kh3 (zc fun _ kh5 => ?_)));refine CW.seqM 20 (decide ((sB nm).length < 1 ∨ 64 < (sB nm).length)) ?_ ?_
 ·refine zR fun _ kr6 => ?_;refine zm rfl ?_;refine WL.ev (Ev.lenS rfl) rfl ?_;refine WL.ev (Ev.lss rfl rfl) rfl ?_;refine zm rfl ?_;refine zb ?_ ?_<;>intro hg1<;>try simp only [qs] at hg1
  ·refine zv rfl (zv rfl (zv rfl (zt rfl rfl ?_)));refine WL.nil (kr6 _ _ _ ?_);refine ⟨rfl, rfl, Subs.consB rfl ?_ ?_⟩
   ·first | (refine (decide_eq_true (.inl ?_)).symm; omega) | (refine decide_eq_decide.2 ?_; omega)
   ·exact SMg
  ·refine zw rfl (zm rfl (zw rfl ?_));refine WL.ev (Ev.lenS rfl) rfl ?_
   refine zw rfl ?_;refine WL.ev (Ev.gtr rfl rfl) rfl ?_;refine ze rfl rfl ?_;refine WL.nil (kr6 _ _ _ ?_);refine ⟨rfl, rfl, Subs.consB rfl ?_ ?_⟩
   ·first | (refine (decide_eq_true (.inl ?_)).symm; omega) | (refine decide_eq_decide.2 ?_; omega)
   ·exact SMg
 ·refine zy rfl ?_ ?_<;>intro hc2<;>try simp only [qs] at hc2
  ·refine Sr fun _ kh7 => zm rfl (za rfl (zz (kh7 ?_)));refine zr (zr1 rfl rfl ?_);exact ⟨rfl, hch⟩
  ·have hn : ¬ ((sB nm).length < 1 ∨ 64 < (sB nm).length) := hc2
   refine zkk ?_;refine kh5 (Sr fun _ kh9 => ?_);refine WL.call hasF9 rfl rfl (stNew_spec _) fun v w2 h' => ?_;obtain ⟨⟨bl, rfl, hbl0, hgel⟩, hC⟩ := h';have hgel : w.heap.size ≤ bl := Nat.le_trans hch.size hgel;have hch := hch.ta hC;refine za rfl (zz (kh9 (Sr fun _ kh11 => ?_)));refine WL.buildSlice (m := 2) (cs := [f64v (9218868437227405311), f64v (1)]) (by decide) (by decide) rfl (by kernel_rfl) rfl fun b23 w23 hn23 => ?_;have hcm23 := hn23.chg;have hge23 := hn23.ge;have hb23 : FB w23 b23 _ [9218868437227405311, 1] := hn23.at_;have hgehch23 := Nat.le_trans hch.size hge23;have hch := hch.ta hcm23;have hnebl23 := zdd hbl0.lt hge23;have hbl0 := hbl0.keep0 hcm23;refine WL.call hasF10 rfl rfl (l22one_spec _ lgr 2 _ hb23.row wgr (by decide) (hg0.keep hch (fun b hb => by cases hb))) fun v w3 h' => ?_;obtain ⟨⟨bg, rfl, hgr, hgeg⟩, hC⟩ := h';have hch := hch.ta hC;have hbl0 := hbl0.keep0 hC;refine za rfl (zz (kh11 (Sr fun _ kh13 => ?_)));refine WL.call hasF11 rfl rfl (shNew_spec _) fun v w4 h' => ?_;obtain ⟨⟨bsm, rfl, hsm, hgesm⟩, hC⟩ := h';have hch := hch.ta hC;have hbl0 := hbl0.keep0 hC;have hgr := hgr.keep0 hC;have hL := LgM.newS hbl0;have hcS := BK.refl_ hbl0;have hblS := hbl0;have hgrS := hgr;have hsmS := hsm;have hchS := hch;refine za rfl (zz (kh13 (zc fun _ kh15 => Sr fun _ kh16 => zm rfl ?_)));refine WL.ev (Ev.eqlPtrNil rfl rfl) rfl ?_;refine zm rfl (zw rfl (zm rfl (zw rfl ?_)));refine WL.ev (Ev.eqlPtrNil rfl rfl) rfl ?_;refine ze rfl rfl (zm rfl (zw rfl (zm rfl (zw rfl ?_))));refine WL.ev (Ev.eqlPtrNil rfl rfl) rfl ?_;refine ze rfl rfl (zz (kh16 ?_));refine CW.condF rfl ?_;refine zkk ?_;refine kh15 (Sr fun _ kh18 => zm rfl ?_);refine WL.ev (Ev.lenS rfl) rfl ?_;(first | refine zi rfl rfl ?_ | refine zo rfl rfl ?_);refine zm rfl ?_;refine WL.call hasF12 rfl rfl (shEncode_spec bg (oneL lgr) _ (ShM.keepL hgrS hblS hcS) (oneL_ok wgr).1 exgr) fun v w5 h' => ?_;obtain ⟨hge, hC⟩ := h';obtain ⟨ae, ce, rfl, hcape, hre⟩ := hge.row;have hel1 := encS_len exgr;obtain ⟨E1, hE1⟩ : ∃ E1, (encS (oneL lgr)).length = E1 := ⟨_, rfl⟩;rw [hE1] at hel1;rw [hE1];have hL := hL.keep0 hC;have hcS := hcS.keep0 hC;refine zn rfl ?_;(first | refine zi rfl rfl ?_ | refine zo rfl rfl ?_);refine za rfl (zz (kh18 (Sr fun _ kh20 => zm rfl ?_)));refine WL.call hasF12 rfl rfl (shEncode_spec bsm Sh.zero _ (ShM.keepL hsmS hblS hcS) Sh.wf.zero ex0) fun v w6 h' => ?_;obtain ⟨hge, hC⟩ := h';obtain ⟨ae, ce, rfl, hcape, hre⟩ := hge.row;have hel0 := encS_len ex0;obtain ⟨E0, hE0L⟩ : ∃ E0, (encS Sh.zero).length = E0 := ⟨_, rfl⟩;rw [hE0L] at hel0;rw [hE0L];have hL := hL.keep0 hC;have hcS := hcS.keep0 hC;refine zn rfl (za rfl (zz (kh20 (zc fun _ kh22 => ?_))));have sBa1 : (sB ⟨#[97]⟩).length = 1 := by rw [sBa]; rfl
   obtain ⟨wS, hL, hcS, hblS, hgrS, hsmS, hchS⟩ : ∃ wS, LgM wS.heap.size _ bl [] ∧ Chg [bl] wS _ ∧ BK wS bl 57 [.slice none 0 0, .int .i64 0] ∧ ShM 66 wS bg (oneL lgr) ∧ ShM 66 wS bsm Sh.zero ∧ Chg [] w wS := ⟨_, hL, hcS, hblS, hgrS, hsmS, hchS⟩;obtain ⟨lo, hlo⟩ : ∃ lo, wS.heap.size = lo := ⟨_, rfl⟩;rw [hlo] at hL;refine zR fun _ kr23 => ?_;refine za rfl ?_;refine WL.nil (kr23 _ _ _ (kh22 ?_));refine zc fun _ kh24 => ?_;refine CW.block ?_;refine CW.loop (S := fun G : List RG => [(0, .string nm), (3, .bool true), (4, .pointer (some ⟨bl, 0, none⟩)), (5, .pointer (some ⟨bg, 0, none⟩)), (6, .pointer (some ⟨bsm, 0, none⟩)), (7, .int .i64 ((8 + (sB nm).length + E1 : Nat) : Int)), (8, .int .i64 (E0 : Int)), (9, .int .i64 ((totG G : Nat) : Int))]) (Inv := fun G w1 => LgM lo w1 bl G ∧ Chg [bl] wS w1) (mu := fun G => 1048576 - totG G) ([]) ?_ ?_ ?_
   ·exact ⟨hL, hcS⟩
   ·exact SLp
   ·rintro G wr ⟨hL, hcS⟩;have htG := hL.tot;refine zc fun _ kh25 => Sr fun _ kh26 => zm rfl (zm rfl ?_);(first | refine zi rfl rfl ?_ | refine zo rfl rfl ?_);refine WL.ev (Ev.leq rfl rfl) rfl ?_;refine zz (kh26 ?_);refine zy rfl ?_ ?_<;>intro hc3<;>try simp only [qs] at hc3
    ·refine zkk ?_
     refine kh25 ?_;refine CW.block ?_;refine zc fun _ kh28 => Sr fun _ kh29 => zm rfl (zm rfl (zm rfl ?_));refine WL.call hasF13 rfl rfl (stAppend_spec bl _ _ nm bg (oneL lgr) _ _ hL (ShM.keepL hgrS hblS hcS) (oneL_ok wgr).1 exgr hcS (by omega) (by have := hcS.size; omega)) fun v w7 h' => ?_;rcases h' with ⟨hbad, _⟩ | ⟨_, hbig, rfl, hL, hcS⟩ | ⟨_, hle, rfl, ⟨dv, hL⟩, hcS⟩
     · exact absurd hbad hn
     · rw [hE1] at hbig; omega
     rw [hE1] at hle;have ht : totG (G ++ [(nm, encS (oneL lgr), dv)]) = totG G + (8 + (sB nm).length + E1) := by rw [totG_snoc]; unfold szG; dsimp only; rw [hE1]
     refine WL.ev (Ev.neq rfl rfl) rfl ?_;rw [decide_eq_false (by simp)];refine zz (kh29 ?_);refine CW.condF rfl ?_;refine zkk ?_;refine kh28 ?_;refine zR fun _ kr31 => ?_;refine zm rfl (zm rfl ?_);(first | refine zi rfl rfl ?_ | refine zo rfl rfl ?_);refine za rfl ?_;refine WL.nil (kr31 _ _ _ ?_);refine ⟨rfl, G ++ [(nm, encS (oneL lgr), dv)], ?_, ?_, ?_⟩
     ·exact SLp
     ·exact ⟨hL, hcS⟩
     ·show 1048576 - totG _ < 1048576 - totG G; rw [ht]; omega
    ·have hstop : 1048576 < totG G + (8 + (sB nm).length + E1) := by have := hc3; omega
     refine CW.exit ?_;refine kh24 (zc fun _ kh32 => Sr fun _ kh33 => zm rfl (zm rfl (zm rfl ?_)));refine WL.call hasF13 rfl rfl (stAppend_spec bl _ _ nm bg (oneL lgr) _ _ hL (ShM.keepL hgrS hblS hcS) (oneL_ok wgr).1 exgr hcS (by omega) (by have := hcS.size; omega)) fun v w8 h' => ?_;rcases h' with ⟨hbad, _⟩ | ⟨_, hbig, rfl, hL, hcS⟩ | ⟨_, hle, _, _, _⟩
     rotate_left
     rotate_left
     · rw [hE1] at hle; omega
     · exact absurd hbad hn
     refine WL.ev (Ev.neq rfl rfl) rfl ?_;rw [decide_eq_false (by simp)];refine zz (kh33 ?_);refine CW.condF rfl ?_;refine zkk ?_;refine kh32 (zc fun _ kh35 => ?_);refine CW.block ?_;refine CW.loop (S := fun G : List RG => [(0, .string nm), (3, .bool true), (4, .pointer (some ⟨bl, 0, none⟩)), (5, .pointer (some ⟨bg, 0, none⟩)), (6, .pointer (some ⟨bsm, 0, none⟩)), (7, .int .i64 ((8 + (sB nm).length + E1 : Nat) : Int)), (8, .int .i64 (E0 : Int)), (9, .int .i64 ((totG G : Nat) : Int))]) (Inv := fun G w1 => LgM lo w1 bl G ∧ Chg [bl] wS w1) (mu := fun G => 1048576 - totG G) (G) ?_ ?_ ?_
     ·exact ⟨hL, hcS⟩
     ·exact SLp
     ·rintro G wr ⟨hL, hcS⟩;have htG := hL.tot;refine zc fun _ kh36 => Sr fun _ kh37 => zm rfl ?_;refine WL.ev (Ev.subIn rfl rfl (by omega)) rfl ?_;refine zm rfl ?_;(first | refine zi rfl rfl ?_ | refine zo rfl rfl ?_);refine WL.ev (Ev.gtr rfl rfl) rfl ?_;refine zz (kh37 ?_);refine zy rfl ?_ ?_<;>intro hc4<;>try simp only [qs] at hc4
      ·refine zkk ?_
       refine kh36 ?_;refine CW.block ?_;refine zc fun _ kh39 => Sr fun _ kh40 => zm rfl (zm rfl ?_);refine WL.call hasF13 rfl rfl (stAppend_spec bl _ _ ⟨#[97]⟩ bsm Sh.zero _ _ hL (ShM.keepL hsmS hblS hcS) Sh.wf.zero ex0 hcS (by omega) (by have := hcS.size; omega)) fun v w9 h' => ?_;rcases h' with ⟨hbad, _⟩ | ⟨_, hbig, rfl, hL, hcS⟩ | ⟨_, hle, rfl, ⟨dv, hL⟩, hcS⟩
       · rw [sBa1] at hbad; omega
       · rw [hE0L, sBa1] at hbig; omega
       rw [hE0L, sBa1] at hle;have ht : totG (G ++ [(⟨#[97]⟩, encS Sh.zero, dv)]) = totG G + (8 + (sB ⟨#[97]⟩).length + E0) := by rw [totG_snoc]; unfold szG; dsimp only; rw [hE0L]
       rw [sBa1] at ht;refine WL.ev (Ev.neq rfl rfl) rfl ?_;rw [decide_eq_false (by simp)];refine zz (kh40 ?_);refine CW.condF rfl ?_;refine zkk ?_;refine kh39 ?_;refine zR fun _ kr42 => ?_;refine zm rfl ?_;(first | refine zi rfl rfl ?_ | refine zo rfl rfl ?_);refine zm rfl ?_;(first | refine zi rfl rfl ?_ | refine zo rfl rfl ?_);refine za rfl ?_;refine WL.nil (kr42 _ _ _ ?_);refine ⟨rfl, G ++ [(⟨#[97]⟩, encS Sh.zero, dv)], ?_, ?_, ?_⟩
       ·exact SLp
       ·exact ⟨hL, hcS⟩
       ·show 1048576 - totG _ < 1048576 - totG G; rw [ht]; omega
      ·refine CW.exit ?_
       refine kh35 (Sr fun _ kh43 => zm rfl ?_);refine WL.ev (Ev.subIn rfl rfl (by omega)) rfl ?_;rw [show (1048576 : Int) - ((totG G : Nat) : Int) = ((1048576 - totG G : Nat) : Int) from by omega];refine za rfl (zz (kh43 (zc fun _ kh45 => Sr fun _ kh46 => zm rfl (zm rfl ?_))));(first | refine zi rfl rfl ?_ | refine zo rfl rfl ?_);refine WL.ev (Ev.geq rfl rfl) rfl ?_;refine zz (kh46 ?_);refine zy rfl ?_ ?_<;>intro hc5<;>try simp only [qs] at hc5
       ·have hrest : 9 + E0 ≤ 1048576 - totG G := by have := hc5; omega
        refine Sr fun _ kh48 => zm rfl ?_;refine WL.ev (Ev.subIn rfl rfl (by omega)) rfl ?_;refine zm rfl ?_;refine WL.ev (Ev.subIn rfl rfl (by omega)) rfl ?_;obtain ⟨LN, hLN⟩ : ∃ LN, 1048576 - totG G - 8 - E0 = LN := ⟨_, rfl⟩;rw [show ((1048576 - totG G : Nat) : Int) - 8 - (E0 : Int) = (LN : Int) from by omega];refine WL.makeY LN LN rfl rfl rfl rfl (Nat.le_refl _) (by omega) (by omega) rfl fun b86 w86 hb86 hcm86 hge86 => ?_;have hL := hL.keep0 hcm86;have hcS := hcS.keep0 hcm86;have hLNs : (sB (bA (List.replicate LN 0))).length = LN := by rw [sB_bA (rep_lt LN), List.length_replicate]
        refine WL.ev (Ev.toStr (l := List.replicate LN 0) rfl (by simp) hb86.row) rfl ?_;refine za rfl (zz (kh48 (Sr fun _ kh50 => zm rfl (zm rfl (zm rfl ?_)))));refine WL.call hasF13 rfl rfl (stAppend_spec bl _ _ (bA (List.replicate LN 0)) bsm Sh.zero _ _ hL (ShM.keepL hsmS hblS hcS) Sh.wf.zero ex0 hcS (by omega) (by have := hcS.size; omega)) fun v w10 h' => ?_;rcases h' with ⟨hbad, _⟩ | ⟨_, hbig, rfl, hL, hcS⟩ | ⟨_, hle, rfl, ⟨dv, hL⟩, hcS⟩
        · rw [hLNs] at hbad; omega
        · rw [hE0L, hLNs] at hbig; omega
        rw [hE0L, hLNs] at hle;have ht : totG (G ++ [((bA (List.replicate LN 0)), encS Sh.zero, dv)]) = totG G + (8 + (sB (bA (List.replicate LN 0))).length + E0) := by rw [totG_snoc]; unfold szG; dsimp only; rw [hE0L]
        rw [hLNs] at ht;have htF : totG (G ++ [(bA (List.replicate LN 0), encS Sh.zero, dv)]) = 1048576 := by rw [ht]; omega
        obtain ⟨GF, hGF⟩ : ∃ GF, G ++ [(bA (List.replicate LN 0), encS Sh.zero, dv)] = GF := ⟨_, rfl⟩;rw [hGF] at hL htF;refine WL.ev (Ev.neq rfl rfl) rfl ?_;rw [decide_eq_false (by simp)];refine zm rfl (zw rfl (zm rfl (zw rfl ?_)));refine WL.call hasF14 rfl rfl (stBytes_spec bl _ GF _ hL) fun v w11 h' => ?_;obtain ⟨hgb, hC⟩ := h';obtain ⟨a95, c95, rfl, hcap95, hr95⟩ := hgb.row;have hlen95 := bytG_len GF;rw [htF] at hlen95;rw [hlen95];have hcS := hcS.ta hC;have hL := hL.keep0 hC;refine zw rfl (zn rfl (zw rfl ?_));refine WL.ev (Ev.neq rfl rfl) rfl ?_;rw [decide_eq_false (by simp)];refine ze rfl rfl (zz (kh50 ?_));refine CW.condF rfl ?_;refine zkk ?_;refine kh45 (Sr fun _ kh52 => zm rfl (zm rfl (zw rfl (zm rfl (zw rfl (zm rfl (zw rfl ?_)))))));refine WL.call hasF13 rfl rfl (stAppend_spec bl _ _ ⟨#[97]⟩ bsm Sh.zero _ _ hL (ShM.keepL hsmS hblS hcS) Sh.wf.zero ex0 hcS (by omega) (by have := hcS.size; omega)) fun v w12 h' => ?_;rcases h' with ⟨hbad, _⟩ | ⟨_, hbig, rfl, hL, hcS⟩ | ⟨_, hle, _, _, _⟩
        rotate_left
        rotate_left
        · rw [htF] at hle; omega
        · rw [sBa1] at hbad; omega
        refine zw rfl (zq rfl rfl (zt rfl rfl (za rfl (zz (kh52 ?_)))));refine zr (zr1 rfl rfl ?_);exact ⟨rfl, ((Chg.any hchS).trans hcS).drop hgel⟩
       ·have hrest : ¬ 9 + E0 ≤ 1048576 - totG G := by have := hc5; omega
        refine zkk ?_;refine kh45 (Sr fun _ kh54 => zm rfl (zm rfl (zw rfl (zm rfl (zw rfl (zm rfl (zw rfl ?_)))))));refine WL.call hasF13 rfl rfl (stAppend_spec bl _ _ ⟨#[97]⟩ bsm Sh.zero _ _ hL (ShM.keepL hsmS hblS hcS) Sh.wf.zero ex0 hcS (by omega) (by have := hcS.size; omega)) fun v w13 h' => ?_;rcases h' with ⟨hbad, _⟩ | ⟨_, hbig, rfl, hL, hcS⟩ | ⟨_, hle, _, _, _⟩
        rotate_left
        rotate_left
        · rw [hE0L, sBa1] at hle; omega
        · rw [sBa1] at hbad; omega
        refine zw rfl (zq rfl rfl (zt rfl rfl (za rfl (zz (kh54 ?_)))));refine zr (zr1 rfl rfl ?_);exact ⟨rfl, ((Chg.any hchS).trans hcS).drop hgel⟩

end

/- What came in, opened; the listed table, opened. No condition. -/
section
open Go Sx Wd
open Go.ChangeShapes Go.WideShapes Go.ChangeAt Go.WideMaps Go.WideElems Go.RowKit

theorem own : ownKnob Tryz.prog.godebug = none := by kernel_rfl
theorem laidOut : laidOutB Tryz.prog = true := by kernel_rfl
theorem gDeb : Tryz.prog.globalNamed "math/bits.deBruijn32tab" = some 6 := by kernel_rfl
theorem tDeb : (Tryz.prog.globals[6]?).map (·.type) = some 205 := by kernel_rfl
theorem deb_data {H : Type} : (Rows.laid_math_bits_deBruijn32tab : DataW H) = .agg (deb.map fun n : Nat => .lit (.int .u8 (n : Int))) := rfl
end

/- The listed variables of the store, opened: the table, the errors. No condition. -/
section
open Go Sx Wd
open Go.ChangeShapes Go.WideShapes Go.ChangeAt Go.WideMaps Go.WideElems Go.RowKit

theorem door_metS (os : Os) (args : Array Value) : laidMetH Tryz.prog [("math/bits.deBruijn32tab", Rows.laid_math_bits_deBruijn32tab), ("errors.errorType", Rows.laid_errors_errorType), ("steelyard/store.errForm", Rows.laid_steelyard_store_errForm), ("steelyard/store.errTorn", Rows.laid_steelyard_store_errTorn), ("steelyard/store.errSum", Rows.laid_steelyard_store_errSum), ("steelyard/store.errShard", Rows.laid_steelyard_store_errShard)] ((World.doorLaid Tryz.prog 400 os).forCall (fun _ _ => 0) ⟨#[], args, []⟩).memory :=
  laidMetH_of_parts3 (fuel := 8) (laidMet_of_run' 8 (by kernel_rfl) (by kernel_rfl)) (by kernel_rfl) (by kernel_rfl)
theorem gw_of_trod {W : World} {g0 : Nat} {t0 : TypeId} {cs0 : Array Value} {f0 : Nat} {p0 : List MemPlace} (hg0 : Tryz.prog.globalNamed "math/bits.deBruijn32tab" = some g0) (ht0 : (Tryz.prog.globals[g0]?).map (·.type) = some t0) (hv0 : W.var? Tryz.prog "math/bits.deBruijn32tab" = some cs0) (hd0 : DataW.trod (fun _ => ()) Tryz.prog W 0 (fun _ => true) false f0 t0 cs0.toList = some (Rows.laid_math_bits_deBruijn32tab, p0)) : GW W := by
  obtain rfl := Option.some.inj (gDeb.symm.trans hg0)
  obtain rfl := Option.some.inj (tDeb.symm.trans ht0)
  obtain ⟨xs, m1, rfl, hx1, hlen, hn3, hel⟩ := DataW.trod_array Tryz.underlying205 hd0
  have c8 : Tryz.prog.cellsOf 5 = 1 := by kernel_rfl
  simp only [Prod.mk.injEq] at hx1
  intro i hi
  have hi' := hel i hi
  rw [c8, Nat.mul_one] at hi'
  have hxi : xs[i]? = some (xs[i]'(by omega)) := List.getElem?_eq_getElem (by omega)
  rw [hxi] at hi'
  obtain ⟨k, e1, e2, _⟩ := DataW.trod_int Tryz.underlying5 hi'
  have hxs : (deb.map fun n : Nat => (DataW.lit (.int .u8 (n : Int)) : DataW Unit)) = xs.map (·.1) := by
    have := hx1.1
    rw [deb_data] at this
    exact DataW.agg.inj this
  have hdat : (deb.map fun n : Nat => (DataW.lit (.int .u8 (n : Int)) : DataW Unit))[i]? = some (.lit (.int .u8 ((deb.getD i 0 : Nat) : Int))) := by
    rw [List.getElem?_map, List.getElem?_eq_getElem (show i < deb.length from hi), List.getD_eq_getElem?_getD, List.getElem?_eq_getElem (show i < deb.length from hi)]; rfl
  rw [hxs, List.getElem?_map, hxi] at hdat
  simp only [Option.map_some] at hdat
  rw [e2] at hdat
  have hk : k = ((deb.getD i 0 : Nat) : Int) := by
    have := Option.some.inj hdat
    simp only [DataW.lit.injEq, Lit.int.injEq, true_and] at this
    exact this
  subst hk
  have hc : cs0[i]? = some (.int .u8 ((deb.getD i 0 : Nat) : Int)) := by
    have h3 : (cs0.toList.drop i)[0]? = some (.int .u8 ((deb.getD i 0 : Nat) : Int)) := by
      have := congrArg (fun l : List Value => l[0]?) e1
      simpa using this
    simpa using h3
  have := World.var?_cell hg0 hv0 i
  rw [hc] at this
  exact this

theorem star_es : "*" ++ "errors.errorString" = "*errors.errorString" := by decide
theorem row_es (u : TypeId) (h : Tryz.prog.typeName? 3 u = some "*errors.errorString") : u = 206 :=
  typeName_ptr_named (nm := "errors.errorString") (by rw [star_es]; kernel_rfl) (by kernel_rfl) (by decide) u (by rw [star_es]; exact h)
theorem c1_es : Tryz.prog.cellsOf 226 = 1 := by kernel_rfl
theorem c1_str : Tryz.prog.cellsOf 9 = 1 := by kernel_rfl
theorem g_errForm : Tryz.prog.globalNamed "steelyard/store.errForm" = some 2 := by kernel_rfl
theorem t_errForm : (Tryz.prog.globals[2]?).map (·.type) = some 80 := by kernel_rfl
theorem g_errTorn : Tryz.prog.globalNamed "steelyard/store.errTorn" = some 3 := by kernel_rfl
theorem t_errTorn : (Tryz.prog.globals[3]?).map (·.type) = some 80 := by kernel_rfl
theorem g_errSum : Tryz.prog.globalNamed "steelyard/store.errSum" = some 4 := by kernel_rfl
theorem t_errSum : (Tryz.prog.globals[4]?).map (·.type) = some 80 := by kernel_rfl
theorem g_errShard : Tryz.prog.globalNamed "steelyard/store.errShard" = some 5 := by kernel_rfl
theorem t_errShard : (Tryz.prog.globals[5]?).map (·.type) = some 80 := by kernel_rfl
theorem nodup_mem {α : Type} {A B : List α} {x : α} (h : (A ++ B).Nodup) (ha : x ∈ A) (hb : x ∈ B) : False := (List.nodup_append.1 h).2.2 x ha x hb rfl
/-- The table and the errors, as they lie when the call begins. -/
structure LaidG (W : World) (ea : Nat → Addr) : Prop where
  gw : GW W
  ge : GE W (evV ea)
  cell : ∀ c, 1 ≤ c → c ≤ 4 → ∃ cs t, W.heap[(ea c).block]? = some (.cells cs t (0, 0))
  ne : ∀ c d, 1 ≤ c → c ≤ 4 → 1 ≤ d → d ≤ 4 → c ≠ d → ea c ≠ ea d
theorem laidG {W : World} (h : laidMetH Tryz.prog [("math/bits.deBruijn32tab", Rows.laid_math_bits_deBruijn32tab), ("errors.errorType", Rows.laid_errors_errorType), ("steelyard/store.errForm", Rows.laid_steelyard_store_errForm), ("steelyard/store.errTorn", Rows.laid_steelyard_store_errTorn), ("steelyard/store.errSum", Rows.laid_steelyard_store_errSum), ("steelyard/store.errShard", Rows.laid_steelyard_store_errShard)] W) : ∃ ea, LaidG W ea := by
  have h' : laidMet Tryz.prog [("math/bits.deBruijn32tab", Rows.laid_math_bits_deBruijn32tab), ("steelyard/store.errForm", Rows.laid_steelyard_store_errForm), ("steelyard/store.errTorn", Rows.laid_steelyard_store_errTorn), ("steelyard/store.errSum", Rows.laid_steelyard_store_errSum), ("steelyard/store.errShard", Rows.laid_steelyard_store_errShard)] W ∧ handlesMet Tryz.prog [("errors.errorType", Rows.laid_errors_errorType)] W := h
  obtain ⟨⟨ps, ⟨g0, t0, cs0, f0, p0, q0, hg0, ht0, hv0, hd0, hch, e0⟩, hnd, hrows⟩, _⟩ := h'
  have hGW := gw_of_trod hg0 ht0 hv0 hd0
  obtain ⟨g1, t1, cs1, f1, p1, q1, hg1, ht1, hv1, hd1, hch1, e1⟩ := hch
  obtain ⟨g2, t2, cs2, f2, p2, q2, hg2, ht2, hv2, hd2, hch2, e2⟩ := hch1
  obtain ⟨g3, t3, cs3, f3, p3, q3, hg3, ht3, hv3, hd3, hch3, e3⟩ := hch2
  obtain ⟨g4, t4, cs4, f4, p4, q4, hg4, ht4, hv4, hd4, hch4, e4⟩ := hch3
  have hq4 : q4 = [] := hch4
  obtain rfl := Option.some.inj (g_errForm.symm.trans hg1)
  obtain rfl := Option.some.inj (t_errForm.symm.trans ht1)
  obtain rfl := Option.some.inj (g_errTorn.symm.trans hg2)
  obtain rfl := Option.some.inj (t_errTorn.symm.trans ht2)
  obtain rfl := Option.some.inj (g_errSum.symm.trans hg3)
  obtain rfl := Option.some.inj (t_errSum.symm.trans ht3)
  obtain rfl := Option.some.inj (g_errShard.symm.trans hg4)
  obtain rfl := Option.some.inj (t_errShard.symm.trans ht4)
  subst hq4
  subst e4; subst e3; subst e2; subst e1; subst e0
  obtain ⟨l1⟩ := cs1
  have ok1 : ∀ u v, l1 = [.iface u v] → Value.okWide Tryz.prog W .any 0 u v := fun u v e => by
    subst e
    exact (hrows 2 0 (by simp [MemPlace.row])).2 u v (by simpa using World.var?_cell hg1 hv1 0)
  obtain ⟨a1, s1, rfl, hc1, hs1, hz1, rfl⟩ := errorString_of_trod Tryz.underlying80 row_es Tryz.underlying206 Tryz.underlying226 rfl rfl Tryz.underlying9 c1_es c1_str hd1 ok1
  obtain ⟨c1, u1, hb1⟩ := (hrows a1.block a1.off (by simp [MemPlace.row])).1
  have hw1 : W.cell? ⟨2, 0, none⟩ = some (.iface 206 (.pointer (some a1))) := by simpa using World.var?_cell hg1 hv1 0
  obtain ⟨l2⟩ := cs2
  have ok2 : ∀ u v, l2 = [.iface u v] → Value.okWide Tryz.prog W .any 0 u v := fun u v e => by
    subst e
    exact (hrows 3 0 (by simp [MemPlace.row])).2 u v (by simpa using World.var?_cell hg2 hv2 0)
  obtain ⟨a2, s2, rfl, hc2, hs2, hz2, rfl⟩ := errorString_of_trod Tryz.underlying80 row_es Tryz.underlying206 Tryz.underlying226 rfl rfl Tryz.underlying9 c1_es c1_str hd2 ok2
  obtain ⟨c2, u2, hb2⟩ := (hrows a2.block a2.off (by simp [MemPlace.row])).1
  have hw2 : W.cell? ⟨3, 0, none⟩ = some (.iface 206 (.pointer (some a2))) := by simpa using World.var?_cell hg2 hv2 0
  obtain ⟨l3⟩ := cs3
  have ok3 : ∀ u v, l3 = [.iface u v] → Value.okWide Tryz.prog W .any 0 u v := fun u v e => by
    subst e
    exact (hrows 4 0 (by simp [MemPlace.row])).2 u v (by simpa using World.var?_cell hg3 hv3 0)
  obtain ⟨a3, s3, rfl, hc3, hs3, hz3, rfl⟩ := errorString_of_trod Tryz.underlying80 row_es Tryz.underlying206 Tryz.underlying226 rfl rfl Tryz.underlying9 c1_es c1_str hd3 ok3
  obtain ⟨c3, u3, hb3⟩ := (hrows a3.block a3.off (by simp [MemPlace.row])).1
  have hw3 : W.cell? ⟨4, 0, none⟩ = some (.iface 206 (.pointer (some a3))) := by simpa using World.var?_cell hg3 hv3 0
  obtain ⟨l4⟩ := cs4
  have ok4 : ∀ u v, l4 = [.iface u v] → Value.okWide Tryz.prog W .any 0 u v := fun u v e => by
    subst e
    exact (hrows 5 0 (by simp [MemPlace.row])).2 u v (by simpa using World.var?_cell hg4 hv4 0)
  obtain ⟨a4, s4, rfl, hc4, hs4, hz4, rfl⟩ := errorString_of_trod Tryz.underlying80 row_es Tryz.underlying206 Tryz.underlying226 rfl rfl Tryz.underlying9 c1_es c1_str hd4 ok4
  obtain ⟨c4, u4, hb4⟩ := (hrows a4.block a4.off (by simp [MemPlace.row])).1
  have hw4 : W.cell? ⟨5, 0, none⟩ = some (.iface 206 (.pointer (some a4))) := by simpa using World.var?_cell hg4 hv4 0
  refine ⟨fun c => if c = 1 then a1 else if c = 2 then a2 else if c = 3 then a3 else a4, hGW, ⟨hw1, hw2, hw3, hw4⟩, fun c h1 h4 => ?_, fun c d hc1 hc4 hd1 hd4 hne he => ?_⟩
  · have : c = 1 ∨ c = 2 ∨ c = 3 ∨ c = 4 := by omega
    rcases this with rfl | rfl | rfl | rfl
    · exact ⟨_, _, hb1⟩
    · exact ⟨_, _, hb2⟩
    · exact ⟨_, _, hb3⟩
    · exact ⟨_, _, hb4⟩
  · have hn1 := (List.nodup_append.1 hnd).2.1
    have hn2 := (List.nodup_append.1 hn1).2.1
    have hn3 := (List.nodup_append.1 hn2).2.1
    have n12 : a1 ≠ a2 := fun e => nodup_mem hn1 (x := .cell a1.block a1.off) (by simp [MemPlace.row]) (by rw [e]; simp [MemPlace.row])
    have n13 : a1 ≠ a3 := fun e => nodup_mem hn1 (x := .cell a1.block a1.off) (by simp [MemPlace.row]) (by rw [e]; simp [MemPlace.row])
    have n14 : a1 ≠ a4 := fun e => nodup_mem hn1 (x := .cell a1.block a1.off) (by simp [MemPlace.row]) (by rw [e]; simp [MemPlace.row])
    have n23 : a2 ≠ a3 := fun e => nodup_mem hn2 (x := .cell a2.block a2.off) (by simp [MemPlace.row]) (by rw [e]; simp [MemPlace.row])
    have n24 : a2 ≠ a4 := fun e => nodup_mem hn2 (x := .cell a2.block a2.off) (by simp [MemPlace.row]) (by rw [e]; simp [MemPlace.row])
    have n34 : a3 ≠ a4 := fun e => nodup_mem hn3 (x := .cell a3.block a3.off) (by simp [MemPlace.row]) (by rw [e]; simp [MemPlace.row])
    have hc : c = 1 ∨ c = 2 ∨ c = 3 ∨ c = 4 := by omega
    have hd : d = 1 ∨ d = 2 ∨ d = 3 ∨ d = 4 := by omega
    rcases hc with rfl | rfl | rfl | rfl <;> rcases hd with rfl | rfl | rfl | rfl <;> first | exact hne rfl | exact n12 he | exact n13 he | exact n14 he | exact n23 he | exact n24 he | exact n34 he | exact n12 he.symm | exact n13 he.symm | exact n14 he.symm | exact n23 he.symm | exact n24 he.symm | exact n34 he.symm
end

/- A row's joined facts, one by one. No condition. -/
section
open Go
def jf1 (P : Program) (f : FuncId) (fn : Func) (s : ChangeSpec) (c : OpenClaim) : Bool := c.wf (OpenSpec.ofChange s)
def jf2 (P : Program) (f : FuncId) (fn : Func) (s : ChangeSpec) (c : OpenClaim) : Bool := laidOutB P
def jf3 (P : Program) (f : FuncId) (fn : Func) (s : ChangeSpec) (c : OpenClaim) : Bool := mapsRowed P
def jf4 (P : Program) (f : FuncId) (fn : Func) (s : ChangeSpec) (c : OpenClaim) : Bool := fn.params.all (P.readableRec ·)
def jf5 (P : Program) (f : FuncId) (fn : Func) (s : ChangeSpec) (c : OpenClaim) : Bool := namedTie P c.named s.vars
def jf6 (P : Program) (f : FuncId) (fn : Func) (s : ChangeSpec) (c : OpenClaim) : Bool := (c.stops == [])
def jf7 (P : Program) (f : FuncId) (fn : Func) (s : ChangeSpec) (c : OpenClaim) : Bool := (P.stops == [])
def jf8 (P : Program) (f : FuncId) (fn : Func) (s : ChangeSpec) (c : OpenClaim) : Bool := (c.knobs == [])
def jf9 (P : Program) (f : FuncId) (fn : Func) (s : ChangeSpec) (c : OpenClaim) : Bool := (P.stopKnobs == [])
def jf10 (P : Program) (f : FuncId) (fn : Func) (s : ChangeSpec) (c : OpenClaim) : Bool := (c.inPlace == P.inPlace f)
def jf11 (P : Program) (f : FuncId) (fn : Func) (s : ChangeSpec) (c : OpenClaim) : Bool := (c.unfollowed == P.unfollowed f)
def jf12 (P : Program) (f : FuncId) (fn : Func) (s : ChangeSpec) (c : OpenClaim) : Bool := (c.recurses == P.recurses f)
def jf13 (P : Program) (f : FuncId) (fn : Func) (s : ChangeSpec) (c : OpenClaim) : Bool := (c.named == P.varsNamed f)
def jf14 (P : Program) (f : FuncId) (fn : Func) (s : ChangeSpec) (c : OpenClaim) : Bool := (c.maps == (fn.params.toList ++ s.plain.varTypes P).any (P.mapsRec ·))
def jf15 (P : Program) (f : FuncId) (fn : Func) (s : ChangeSpec) (c : OpenClaim) : Bool := (c.ifaces == (fn.params.toList ++ s.plain.varTypes P).any (P.ifacesRec ·))
def jf16 (P : Program) (f : FuncId) (fn : Func) (s : ChangeSpec) (c : OpenClaim) : Bool := (c.mapsOut == P.mapsAmong fn.resultTypes.toList)
def jf17 (P : Program) (f : FuncId) (fn : Func) (s : ChangeSpec) (c : OpenClaim) : Bool := (c.loops == (fn.params.toList ++ s.plain.varTypes P).any (P.loopsFrom ·))
def jf18 (P : Program) (f : FuncId) (fn : Func) (s : ChangeSpec) (c : OpenClaim) : Bool := (c.wideKeys == (fn.params.toList ++ s.plain.varTypes P ++ fn.resultTypes.toList).any (P.wideKeysFrom ·))
def jf19 (P : Program) (f : FuncId) (fn : Func) (s : ChangeSpec) (c : OpenClaim) : Bool := s.vars.all (P.varReadable ·)
def jf20 (P : Program) (f : FuncId) (fn : Func) (s : ChangeSpec) (c : OpenClaim) : Bool := fn.resultTypes.all (fun t => P.readableRec t && decide (t < P.types.size))
def jf21 (P : Program) (f : FuncId) (fn : Func) (s : ChangeSpec) (c : OpenClaim) : Bool := (c.ifacesOut == fn.resultTypes.toList.any (P.ifacesRec ·))
def jf22 (P : Program) (f : FuncId) (fn : Func) (s : ChangeSpec) (c : OpenClaim) : Bool := (c.loopsOut == fn.resultTypes.toList.any (P.loopsFrom ·))
def jf23 (P : Program) (f : FuncId) (fn : Func) (s : ChangeSpec) (c : OpenClaim) : Bool := (c.plainKeys == P.plainKeys)
def jf24 (P : Program) (f : FuncId) (fn : Func) (s : ChangeSpec) (c : OpenClaim) : Bool := c.shortTexts.isNone
def jf25 (P : Program) (f : FuncId) (fn : Func) (s : ChangeSpec) (c : OpenClaim) : Bool := P.stopsHeard
def jf26 (P : Program) (f : FuncId) (fn : Func) (s : ChangeSpec) (c : OpenClaim) : Bool := P.mayEnter
def jf27 (P : Program) (f : FuncId) (fn : Func) (s : ChangeSpec) (c : OpenClaim) : Bool := (c.lifted == P.liftsFinal)
def jf28 (P : Program) (f : FuncId) (fn : Func) (s : ChangeSpec) (c : OpenClaim) : Bool := (P.make == some c.make)
def jf29 (P : Program) (f : FuncId) (fn : Func) (s : ChangeSpec) (c : OpenClaim) : Bool := (c.kinds == (if c.domain.isEmpty then [] else fn.params.toList.map fun t => match P.underlying t with | some (.int k) => some k | _ => none))
def jf30 (P : Program) (f : FuncId) (fn : Func) (s : ChangeSpec) (c : OpenClaim) : Bool := (c.pinned == c.pinnedBy)
def jf31 (P : Program) (f : FuncId) (fn : Func) (s : ChangeSpec) (c : OpenClaim) : Bool := (c.veiled == (fn.params.toList ++ s.plain.varTypes P ++ fn.resultTypes.toList).any (P.veiledRec ·))
def jf32 (P : Program) (f : FuncId) (fn : Func) (s : ChangeSpec) (c : OpenClaim) : Bool := c.veiledFits P fn.params.toList (fn.params.toList ++ s.plain.varTypes P ++ fn.resultTypes.toList)
theorem joined_of {P : Program} {f : FuncId} {fn : Func} {s : ChangeSpec} {c : OpenClaim}
    (h1 : jf1 P f fn s c = true)
    (h2 : jf2 P f fn s c = true)
    (h3 : jf3 P f fn s c = true)
    (h4 : jf4 P f fn s c = true)
    (h5 : jf5 P f fn s c = true)
    (h6 : jf6 P f fn s c = true)
    (h7 : jf7 P f fn s c = true)
    (h8 : jf8 P f fn s c = true)
    (h9 : jf9 P f fn s c = true)
    (h10 : jf10 P f fn s c = true)
    (h11 : jf11 P f fn s c = true)
    (h12 : jf12 P f fn s c = true)
    (h13 : jf13 P f fn s c = true)
    (h14 : jf14 P f fn s c = true)
    (h15 : jf15 P f fn s c = true)
    (h16 : jf16 P f fn s c = true)
    (h17 : jf17 P f fn s c = true)
    (h18 : jf18 P f fn s c = true)
    (h19 : jf19 P f fn s c = true)
    (h20 : jf20 P f fn s c = true)
    (h21 : jf21 P f fn s c = true)
    (h22 : jf22 P f fn s c = true)
    (h23 : jf23 P f fn s c = true)
    (h24 : jf24 P f fn s c = true)
    (h25 : jf25 P f fn s c = true)
    (h26 : jf26 P f fn s c = true)
    (h27 : jf27 P f fn s c = true)
    (h28 : jf28 P f fn s c = true)
    (h29 : jf29 P f fn s c = true)
    (h30 : jf30 P f fn s c = true)
    (h31 : jf31 P f fn s c = true)
    (h32 : jf32 P f fn s c = true)
    : joinedFacts P f fn s c = true := by
  unfold joinedFacts
  simp only [Bool.and_eq_true]
  exact ⟨⟨⟨⟨⟨⟨⟨⟨⟨⟨⟨⟨⟨⟨⟨⟨⟨⟨⟨⟨⟨⟨⟨⟨⟨⟨⟨⟨⟨⟨⟨h1, h2⟩, h3⟩, h4⟩, h5⟩, h6⟩, h7⟩, h8⟩, h9⟩, h10⟩, h11⟩, h12⟩, h13⟩, h14⟩, h15⟩, h16⟩, h17⟩, h18⟩, h19⟩, h20⟩, h21⟩, h22⟩, h23⟩, h24⟩, h25⟩, h26⟩, h27⟩, h28⟩, h29⟩, h30⟩, h31⟩, h32⟩
end

end Go.Proofs.YtbplehaogncjoaaGreatDoor