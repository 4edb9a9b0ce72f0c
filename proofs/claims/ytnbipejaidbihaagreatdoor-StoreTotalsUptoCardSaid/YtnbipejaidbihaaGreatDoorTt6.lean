/- Part 6 of what the proof rests on. No condition. -/
import Derived.Test.YtnbipejaidbihaaGreatDoorTt5
import Derived.Shelf.SlGeneric
import Derived.Shelf.Slices.In.CompactS
import Derived.Shelf.Slices.In.SortNone
import Derived.Ground.NamesProg
import Derived.Test.YtnbipejaidbihaaGreatDoorProg
import Derived.Sort.EveryDepth
import Derived.Sort.OwnSorted
import Derived.Sort.Grow
import Derived.Lib.OwnBridge
import Derived.WalkKit
import Derived.LaidEql
import Derived.Stop.Asserts
import Derived.RowKitTokens
import Derived.ChangeKeysEq
import Derived.Laws.StructEq
import Derived.ProofKit
import Derived.OpenShut
import Derived.ChangeOld
import Derived.Below
import Derived.Deep.Slices
import Derived.Laws.Cover2
import Derived.LaidMore
import Derived.SizedLaws
import Derived.SevenTiedAt
import Derived.Stop.Joined
import Derived.Test.YtnbipejaidbihaaGreatDoorRows
import Derived.LaidHandle
import Derived.ChangeMaps5
import Derived.Stop.ErrReads
import Derived.Deep.Strs
import Derived.Deep.DeepHandedRow
import Derived.Deep.DeepWitnessRowRef
set_option linter.unusedVariables false
set_option linter.unusedSimpArgs false
set_option maxRecDepth 100000
set_option maxHeartbeats 4000000
namespace Go.Proofs.YtnbipejaidbihaaGreatDoor
end Go.Proofs.YtnbipejaidbihaaGreatDoor
/-
  DERIVED: THE SHELF's CONTRACTS AT THIS DUMP, IN PLAIN WORDS (tools/lay-plain.mjs out of 'TmpSortStr.lean', which tools/lay-shelf.mjs wrote): THE SAME DECLARATIONS UNDER THE SAME NAMES: 'import', 'namespace', 'open', 'def', 'theorem' AND NOTHING ELSE: no command of the shelf's: FOR A HAND-IN. Each laying: the table of numbers ('.._ren') and one theorem, a field a fact of the dump's own or the kernel's comparison; each contract: ONE APPLICATION.
-/
namespace Go.Proofs
open Go.Shelf
def Tryz.laysSort_ren : Go.Shelf.Ren := ⟨fun | 190 => 129 | 125 => 215 | 258 => 214 | 128 => 267 | 129 => 298 | 302 => 289 | 303 => 290 | 304 => 291 | 305 => 292 | 306 => 293 | 307 => 294 | 308 => 295 | 309 => 296 | 310 => 297 | 333 => 332 | 329 => 333 | 330 => 334 | 334 => 335 | 335 => 336 | 336 => 337 | 344 => 354 | n => n, fun | 31 => 27 | 9 => 9 | 3 => 3 | 46 => 265 | 0 => 0 | 51 => 209 | 53 => 112 | 4 => 4 | 183 => 349 | 182 => 348 | 131 => 354 | 5 => 5 | 218 => 385 | 222 => 146 | 228 => 400 | 229 => 401 | n => n, fun | n => n⟩
theorem Tryz.laysSort : Go.Proofs.Lays.n190 Tryz.prog Tryz.laysSort_ren := {
  mixed := by kernel_rfl
  f125 := Tryz.func215.trans (congrArg some (by kernel_rfl))
  f128 := Tryz.func267.trans (congrArg some (by kernel_rfl))
  f129 := Tryz.func298.trans (congrArg some (by kernel_rfl))
  f190 := Tryz.func129.trans (congrArg some (by kernel_rfl))
  f258 := Tryz.func214.trans (congrArg some (by kernel_rfl))
  f302 := Tryz.func289.trans (congrArg some (by kernel_rfl))
  f303 := Tryz.func290.trans (congrArg some (by kernel_rfl))
  f304 := Tryz.func291.trans (congrArg some (by kernel_rfl))
  f305 := Tryz.func292.trans (congrArg some (by kernel_rfl))
  f306 := Tryz.func293.trans (congrArg some (by kernel_rfl))
  f307 := Tryz.func294.trans (congrArg some (by kernel_rfl))
  f308 := Tryz.func295.trans (congrArg some (by kernel_rfl))
  f309 := Tryz.func296.trans (congrArg some (by kernel_rfl))
  f310 := Tryz.func297.trans (congrArg some (by kernel_rfl))
  f329 := Tryz.func333.trans (congrArg some (by kernel_rfl))
  f330 := Tryz.func334.trans (congrArg some (by kernel_rfl))
  f333 := Tryz.func332.trans (congrArg some (by kernel_rfl))
  f334 := Tryz.func335.trans (congrArg some (by kernel_rfl))
  f335 := Tryz.func336.trans (congrArg some (by kernel_rfl))
  f336 := Tryz.func337.trans (congrArg some (by kernel_rfl))
  f344 := Tryz.func354.trans (congrArg some (by kernel_rfl))
  t0 := Tryz.underlying0
  a0 := Tryz.isAgg0
  z0 := Tryz.sizeOf0
  v0 := Tryz.zeroValue0
  t3 := Tryz.underlying3
  a3 := Tryz.isAgg3
  z3 := Tryz.sizeOf3
  v3 := Tryz.zeroValue3
  t4 := Tryz.underlying4
  a4 := Tryz.isAgg4
  z4 := Tryz.sizeOf4
  v4 := Tryz.zeroValue4
  t5 := Tryz.underlying5
  a5 := Tryz.isAgg5
  z5 := Tryz.sizeOf5
  v5 := Tryz.zeroValue5
  t9 := Tryz.underlying9
  a9 := Tryz.isAgg9
  z9 := Tryz.sizeOf9
  v9 := Tryz.zeroValue9
  t31 := Tryz.underlying27
  a31 := Tryz.isAgg27
  z31 := Tryz.sizeOf27
  v31 := Tryz.zeroValue27
  t46 := Tryz.underlying265
  a46 := Tryz.isAgg265
  z46 := Tryz.sizeOf265
  v46 := Tryz.zeroValue265
  t51 := Tryz.underlying209
  a51 := Tryz.isAgg209
  z51 := Tryz.sizeOf209
  v51 := Tryz.zeroValue209
  t53 := Tryz.underlying112
  a53 := Tryz.isAgg112
  z53 := Tryz.sizeOf112
  v53 := Tryz.zeroValue112
  t131 := Tryz.underlying354
  a131 := Tryz.isAgg354
  z131 := Tryz.sizeOf354
  v131 := Tryz.zeroValue354
  t182 := Tryz.underlying348
  a182 := Tryz.isAgg348
  z182 := Tryz.sizeOf348
  v182 := Tryz.zeroValue348
  t183 := Tryz.underlying349
  a183 := Tryz.isAgg349
  z183 := Tryz.sizeOf349
  v183 := Tryz.zeroValue349
  t218 := Tryz.underlying385
  a218 := Tryz.isAgg385
  z218 := Tryz.sizeOf385
  v218 := Tryz.zeroValue385
  t222 := Tryz.underlying146
  a222 := Tryz.isAgg146
  z222 := Tryz.sizeOf146
  v222 := Tryz.zeroValue146
  t228 := Tryz.underlying400
  a228 := Tryz.isAgg400
  z228 := Tryz.sizeOf400
  v228 := Tryz.zeroValue400
  t229 := Tryz.underlying401
  a229 := Tryz.isAgg401
  z229 := Tryz.sizeOf401
  v229 := Tryz.zeroValue401 }
def Tryz.laysCompact_ren : Go.Shelf.Ren := ⟨fun | 194 => 130 | n => n, fun | 31 => 27 | 9 => 9 | 3 => 3 | 4 => 4 | 0 => 0 | n => n, fun | n => n⟩
theorem Tryz.laysCompact : Go.Proofs.Lays.n194 Tryz.prog Tryz.laysCompact_ren := {
  mixed := by kernel_rfl
  f194 := Tryz.func130.trans (congrArg some (by kernel_rfl))
  t0 := Tryz.underlying0
  a0 := Tryz.isAgg0
  z0 := Tryz.sizeOf0
  v0 := Tryz.zeroValue0
  t3 := Tryz.underlying3
  a3 := Tryz.isAgg3
  z3 := Tryz.sizeOf3
  v3 := Tryz.zeroValue3
  t4 := Tryz.underlying4
  a4 := Tryz.isAgg4
  z4 := Tryz.sizeOf4
  v4 := Tryz.zeroValue4
  t9 := Tryz.underlying9
  a9 := Tryz.isAgg9
  z9 := Tryz.sizeOf9
  v9 := Tryz.zeroValue9
  t31 := Tryz.underlying27
  a31 := Tryz.isAgg27
  z31 := Tryz.sizeOf27
  v31 := Tryz.zeroValue27 }
end Go.Proofs

namespace Go.Proofs.YtnbipejaidbihaaGreatDoor
/- Strings sorted, and each kept once: the library's two functions by their contracts. No condition. -/
section
open Go Sx Wd Go.Shelf Go.Sort

abbrev leS : List UInt8 → List UInt8 → Bool := fun x y => decide (x ≤ y)
theorem chg_putRow (w : World) (g q : Nat) (d : Array (List UInt8)) : Chg [g] w (putRow encStr (Sort.ahead w q) g 0 d) :=
  ⟨rfl, rfl, rfl, by simp [putRow, mapBlock, Sort.ahead], fun k hk hn => by
    have : g ≠ k := fun e => hn (by rw [e]; simp)
    simp [putRow, mapBlock, Sort.ahead, Array.getElem?_modify, this]⟩
/-- slices.Sort of strings. -/
theorem sortS_spec (v : Value) (m lo : Nat) (ss : List (List UInt8)) (w : World) (hg : GRc w 9 1 lo [] v m (ss.map encStr)) (hm : m < 4611686018427387904) : Ret Tryz.prog 129 [v] w fun u w' => GRc w' 9 1 lo [] v m ((ss.mergeSort leS).map encStr) ∧ Chg v.ownBlock.toList w w' := by
  have hlen : ss.length = m := by have := hg.1.1; simpa using this
  have hsl : (ss.mergeSort leS).length = ss.length := List.length_mergeSort ss
  by_cases hv : v = .slice none 0 0
  · subst hv
    have h0 : ss = [] := by
      rcases hg.1.2 with ⟨_, h⟩ | ⟨_, _, _, h, _⟩
      · exact List.length_eq_zero_iff.1 (by omega)
      · cases h
    subst h0;refine Calls.mono (calls_of_every_depth fun D => AnyS.slices_Sort_string_none_alone Tryz.laysSort D none 0 w) fun e w' ⟨he, hw⟩ => ⟨_, he, ?_⟩;subst hw;exact ⟨by rw [show ([] : List (List UInt8)).mergeSort leS = [] from by simp]; exact hg, Chg.refl _ _⟩
  · obtain ⟨g, cap, rfl, hb, hgl, hn, hcm, hl, hH⟩ := Lib.holds_of_ownsRow hg.1 hv
    subst hlen;refine Calls.mono (calls_of_every_depth fun D => AnyS.slices_Sort_string_alone Tryz.laysSort D g 0 cap ss w hH hgl hm) fun e w' ⟨he, nn, os, hw⟩ => ⟨_, he, ?_⟩;subst hw;rcases hg.1.2 with ⟨h0, _⟩ | ⟨g', cap', cur, e0, hbase, hheap, h1, h2, h3, h4⟩
    · cases h0
    · cases e0
      exact ⟨⟨ownsRow_sorted hsl hbase hheap h1 h2 h3, hg.2⟩, Chg.of_grown (grownBy_sorted _)⟩
/-- slices.Compact of strings. -/
theorem compactS_spec (v : Value) (m lo : Nat) (ss : List (List UInt8)) (w : World) (hg : GRc w 9 1 lo [] v m (ss.map encStr)) (hm : m ≤ 4611686018427387904) : Ret Tryz.prog 130 [v] w fun u w' => GRc w' 9 1 lo [] u (Lib.compact ss).length ((Lib.compact ss).map encStr) ∧ Chg v.ownBlock.toList w w' := by
  have hlen : ss.length = m := by have := hg.1.1; simpa using this
  have hle := Lib.compact_length_le ss
  by_cases hv : v = .slice none 0 0
  · subst hv
    have h0 : ss = [] := by
      rcases hg.1.2 with ⟨_, h⟩ | ⟨_, _, _, h, _⟩
      · exact List.length_eq_zero_iff.1 (by omega)
      · cases h
    subst h0;refine Calls.mono (calls_of_every_depth fun D => AnyS.slices_Compact_string_empty_in Tryz.laysCompact D none 0 w) fun e w' ⟨he, hw⟩ => ⟨_, he, ?_⟩;subst hw;exact ⟨GRc.nil, Chg.refl _ _⟩
  · obtain ⟨g, cap, rfl, hb, hgl, hn, hcm, hl, hH⟩ := Lib.holds_of_ownsRow hg.1 hv
    subst hlen;refine Calls.mono (calls_of_every_depth fun D => AnyS.slices_Compact_string_in Tryz.laysCompact D g 0 cap ss w hH (by omega) hn) fun e w' ⟨he, q, hw⟩ => ⟨_, he, ?_⟩;subst hw;have hc := Lib.ownsRow_putRow (q := q) (k := (Lib.compact ss).length) (ys := Lib.compact ss ++ List.replicate (ss.length - (Lib.compact ss).length) []) hg.1 (by simp; omega) hle;rw [List.take_left] at hc;exact ⟨⟨hc, fun b hb => by
      have := hg.2 b (by simpa [Value.ownBlock] using hb);exact this⟩, chg_putRow _ _ _ _⟩
end

/- Store: Names. No condition. -/
section
open Go Sx Wd Go.Sort Fl

/-- The names of a log's records, as bytes; sorted, each once. -/
def nmS (G : List RG) : List (List UInt8) := G.map fun g => g.1.data.toList
def nmL (G : List RG) : List (List UInt8) := Lib.compact ((nmS G).mergeSort leS)
theorem enc_nm (nm : ByteArray) : encStr nm.data.toList = .string nm := by
  show Value.string ⟨nm.data.toList.toArray⟩ = _
  rw [Array.toArray_toList]
theorem nmS_take {G : List RG} {i : Nat} {g : RG} (h : G[i]? = some g) : (nmS (G.take (i + 1))).map encStr = (nmS (G.take i)).map encStr ++ [Value.string g.1] := by
  rw [List.take_add_one, h]
  unfold nmS
  simp only [Option.toList_some, List.map_append, List.map_cons, List.map_nil] <;> rw [enc_nm]

theorem stNames_spec (b lo : Nat) (G : List RG) (w : World) (hL : LgM lo w b G) : Ret Tryz.prog 43 [.pointer (some ⟨b, 0, none⟩)] w fun u w' => GRc w' 9 1 w.heap.size [] u (nmL G).length ((nmL G).map encStr) ∧ Chg [] w w' := by
 obtain ⟨⟨v0, hb, hgc⟩, hda, htot⟩ := hL;obtain ⟨av, cv, rfl, hcapv, hrv, -⟩ := hgc.row;have hGl := totG_len G;have hch : Chg [] w w := Chg.refl _ _;refine zE1 Tryz.func43 rfl ?_;refine Sr fun _ kh1 => za rfl (zz (kh1 (Sr fun _ kh3 => za rfl (zz (kh3 (zc fun _ kh5 => Sr fun _ kh6 => zm rfl ?_))))));refine WL.ev (Ev.nilPtr rfl) rfl ?_;refine zf rfl ?_;refine WL.ev (Ev.load (v := .slice av G.length cv) rfl rfl (hb.at_ rfl)) rfl ?_;refine zn rfl (zm rfl (zz (kh6 ?_)));refine CW.block ?_;refine CW.loop (S := fun g : Nat × Value => [(3, g.2), (9, .slice av G.length cv), (10, .int .i64 (G.length : Int)), (11, .int .i64 (g.1 : Int))]) (Inv := fun g w1 => g.1 ≤ G.length ∧ GRc w1 9 1 w.heap.size [] g.2 g.1 ((nmS (G.take g.1)).map encStr) ∧ Chg [] w w1) (mu := fun g => G.length - g.1) ((0, .slice none 0 0)) ?_ ?_ ?_
 ·exact ⟨Nat.zero_le _, GRc.nil, hch⟩
 ·exact SLp
 ·rintro ⟨i, vi⟩ wr ⟨hi, hgr, hch⟩;dsimp only at hi hgr;dsimp only;refine Sr fun _ kh8 => ?_;refine WL.ev (Ev.lss rfl rfl) rfl ?_;refine zz (kh8 (zc fun _ kh10 => ?_));refine zy rfl ?_ ?_<;>intro hc1<;>try simp only [qs] at hc1
  ·obtain ⟨⟨nm, data, dv⟩, hg⟩ : ∃ g, G[i]? = some g := ⟨_, List.getElem?_eq_getElem (by omega : i < G.length)⟩
   have hm := List.mem_of_getElem? hg;obtain ⟨q, rfl, -⟩ := hgc.at2 hg;obtain ⟨q2, e2, hcell⟩ := (hgc.keep0 hch).at2 hg;cases e2;obtain ⟨hd1, hB⟩ := hda _ hm;dsimp only at hd1 hB;obtain ⟨ad, cd, rfl, hcapd, hrd⟩ := hd1.row;refine zkk ?_;refine kh10 (zc fun _ kh11 => ?_);refine CW.block ?_;refine Sr fun _ kh12 => ?_;refine WL.ev (Ev.indexAddr rfl rfl (by omega) (by omega)) rfl ?_;refine WL.ev (Ev.loadAgg (cs := [.string nm, .slice ad data.length cd]) rfl rfl rfl hcell) rfl ?_;refine WL.allocB (l := [.string ⟨#[]⟩, .slice none 0 0]) rfl rfl fun b5 wm5 hb5 hcm5 hge5 => ?_;have hgehch5 := Nat.le_trans hch.size hge5;have hch := hch.ta hcm5;have hgr := hgr.keep0 hcm5;refine zss rfl rfl ao hb5 rfl fun ws6 hb5_ hcs6 => ?_;(try simp only [Sx.splice, qt] at hb5_);have hch := hch.s1 hcs6;have hgr := hgr.keepBK hb5 hcs6 an;have hb5 := hb5_;refine zz (kh12 ?_);refine zR fun _ kr14 => ?_;refine zm rfl (zf rfl (zl hb5 rfl rfl ?_));refine WL.buildSlice (m := 1) (cs := [.string nm]) (by decide) (by decide) rfl (by kernel_rfl) rfl fun b18 w18 hn18 => ?_;have hb18 := RW.of_heap hn18.at_;have hgr := hgr.keep0 hn18.chg;have hch := hch.trans (Chg.any hn18.chg);refine WL.growC (news := [.string nm]) (mm := 1) (by rfl) (by decide) (by intro u hu; rw [List.mem_singleton.1 hu]; rfl) rfl rfl hgr rfl hb18 (by have := hch.size; omega) (by omega) (by omega) rfl fun v19 w19 hg19 hc19 => ?_;have hch := hgr.frame hc19 hch (Nat.le_refl _);have hgr := hg19;refine za rfl ?_;refine WL.nil (kr14 _ _ _ (kh11 ?_));refine zR fun _ kr15 => ?_;(first | refine zi rfl rfl ?_ | refine zo rfl rfl ?_);refine zm rfl ?_;refine WL.nil (kr15 _ _ _ ?_);refine ⟨rfl, (i + 1, v19), ?_, ?_, ?_⟩
   ·exact SLp
   ·exact ⟨by dsimp only; omega, by rw [nmS_take hg]; exact hgr, hch⟩
   ·show G.length - (i + 1) < G.length - i; omega
  ·have hiX : i = G.length := by omega
   subst hiX;rw [List.take_length] at hgr;refine CW.exit ?_;refine kh5 (Sr fun _ kh16 => zm rfl ?_);refine WL.call hasF129 rfl rfl (sortS_spec _ _ _ _ _ hgr (by omega)) fun v w1 h' => ?_;obtain ⟨hg22, hc22⟩ := h';have hch := hgr.frame hc22 hch (Nat.le_refl _);have hgr := hg22;refine zz (kh16 (Sr fun _ kh18 => zm rfl ?_));refine WL.call hasF130 rfl rfl (compactS_spec _ _ _ _ _ hgr (by omega)) fun v w2 h' => ?_;obtain ⟨hg24, hc24⟩ := h';have hch := hgr.frame hc24 hch (Nat.le_refl _);refine za rfl (zz (kh18 ?_));refine zr (zr1 rfl rfl ?_);exact ⟨hg24, hch⟩

end

/- Package steelyardlaw22: one. No condition. -/
section
open Go Sx Wd Fl

/-- The shard of some numbers. -/
def oneStep (S : Sh) (x : Nat) : Sh := if 1099511627776 < S.s.al + 1 then S else S.merge (Sh.one x)
def oneL (l : List Nat) : Sh := l.foldl oneStep Sh.zero
theorem oneL_take {l : List Nat} {i : Nat} (h : i < l.length) : oneL (l.take (i + 1)) = oneStep (oneL (l.take i)) (l.getD i 0) := by
  rw [take_step h]; simp [oneL]
theorem one_cnt (x : Nat) : (Sh.one x).cnt := by
  show (countP SP.zero (kindP x)).na + (countP SP.zero (kindP x)).up + (countP SP.zero (kindP x)).dn + (countP SP.zero (kindP x)).mi + (countP SP.zero (kindP x)).pl ≤ (countP SP.zero (kindP x)).al
  simp only [countP, SP.zero]
  repeat (first | omega | split)
theorem one_al (x : Nat) : (Sh.one x).s.al = 1 := rfl
theorem oneAdd {T : TypeId} {S : Sh} {x b : Nat} {w w' : World} {u : Value} (h : (1099511627776 < S.s.al + 1 ∧ u = .int .i64 2 ∧ ShM T w' b S ∧ Chg [b] w w') ∨ (S.s.al + 1 ≤ 1099511627776 ∧ u = .int .i64 0 ∧ ShM T w' b (S.merge (Sh.one x)) ∧ Chg [b] w w')) : ShM T w' b (oneStep S x) ∧ Chg [b] w w' := by
  unfold oneStep
  rcases h with ⟨h1, _, h2, h3⟩ | ⟨h1, _, h2, h3⟩
  · rw [if_pos h1]; exact ⟨h2, h3⟩
  · rw [if_neg (by omega)]; exact ⟨h2, h3⟩
theorem oneStep_ok {S : Sh} {x : Nat} (hx : x < 18446744073709551616) (hS : S.wf) (hc : S.cnt) : (oneStep S x).wf ∧ (oneStep S x).cnt := by
  unfold oneStep
  split
  · exact ⟨hS, hc⟩
  · exact cnt_wf hS (one_wf hx) hc (one_cnt x) (by rw [one_al]; omega)
theorem oneL_ok {l : List Nat} (hw : ∀ x ∈ l, x < 18446744073709551616) : (oneL l).wf ∧ (oneL l).cnt := by
  unfold oneL
  have key : ∀ (l : List Nat) (S : Sh), S.wf → S.cnt → (∀ x ∈ l, x < 18446744073709551616) → (l.foldl oneStep S).wf ∧ (l.foldl oneStep S).cnt := by
    intro l
    induction l with
    | nil => intro S h1 h2 _; exact ⟨h1, h2⟩
    | cons x l ih =>
      intro S h1 h2 hw
      obtain ⟨a, b⟩ := oneStep_ok (hw x (List.mem_cons_self ..)) h1 h2
      exact ih _ a b fun y hy => hw y (List.mem_cons_of_mem _ hy)
  exact key l Sh.zero Sh.wf.zero (Nat.le_refl _) hw

theorem l22one_spec (al : Option Addr) (l : List Nat) (cl : Nat) (w : World) (hrl : RW w al (l.map f64v)) (hWl : ∀ x ∈ l, x < 18446744073709551616) (hll : l.length ≤ 70368744177664) (hg0 : GW w) : Ret Tryz.prog 45 [.slice al l.length cl] w fun u w' => (∃ b, u = .pointer (some ⟨b, 0, none⟩) ∧ ShM 109 w' b (oneL l) ∧ w.heap.size ≤ b) ∧ Chg [] w w' := by
 have hch : Chg [] w w := Chg.refl _ _;refine zE1 Tryz.func45 rfl ?_;refine Sr fun _ kh1 => za rfl (zz (kh1 (Sr fun _ kh3 => ?_)));refine WL.call hasF47 rfl rfl (shNew_spec _) fun v w1 h' => ?_;obtain ⟨⟨bt, rfl, hbt, hget⟩, hC⟩ := h';have hch := hch.ta hC;refine za rfl (zz (kh3 (zc fun _ kh5 => Sr fun _ kh6 => zm rfl ?_)));refine WL.ev (Ev.eqlPtrNil rfl rfl) rfl ?_;refine zz (kh6 ?_);refine CW.condF rfl ?_;refine zkk ?_;refine kh5 (zc fun _ kh8 => Sr fun _ kh9 => za rfl (zz (kh9 ?_)));refine CW.block ?_;refine CW.loop (S := fun i : Nat => [(0, .slice al l.length cl), (3, .pointer (some ⟨bt, 0, none⟩)), (4, .int .i64 (i : Int))]) (Inv := fun i w1 => i ≤ l.length ∧ ShM 109 w1 bt (oneL (l.take i)) ∧ Chg [] w w1) (mu := fun i => l.length - i) (0) ?_ ?_ ?_
 ·exact ⟨Nat.zero_le _, hbt, hch⟩
 ·exact SLp
 ·rintro i wr ⟨hi, hbt, hch⟩;refine zc fun _ kh11 => Sr fun _ kh12 => zm rfl (zm rfl (zn rfl ?_));refine WL.ev (Ev.lss rfl rfl) rfl ?_;refine zz (kh12 ?_);refine zy rfl ?_ ?_<;>intro hc1<;>try simp only [qs] at hc1
  ·have hok := oneL_ok (l := l.take i) (fun x hx => hWl x (List.mem_of_mem_take hx));have hxi : l.getD i 0 < 18446744073709551616 := by rw [List.getD_eq_getElem?_getD, List.getElem?_eq_getElem (by omega)]; exact hWl _ (List.getElem_mem _)
   refine zkk ?_;refine kh11 (zc fun _ kh14 => ?_);refine CW.block ?_;refine zR fun _ kr15 => ?_;refine zm rfl (zm rfl (zm rfl ?_));refine WL.ev (Ev.ixR (i) rfl rfl (hrl.keep0 hch) (by omega) (by omega) (by simp; omega)) rfl ?_;refine WL.ev (Ev.load rfl rfl ((hrl.keep0 hch).f64 (by first | omega | (simp; omega)))) rfl ?_;refine WL.call hasF48 rfl rfl (shAdd_spec bt _ _ _ hbt hok.1 hxi (hg0.keep hch (fun b hb => by cases hb))) fun v w2 h' => ?_;obtain ⟨hbt, hC⟩ := oneAdd h';have hch := hch.step hC (fun y hy => by rw [List.mem_singleton.1 hy]; exact .inr hget);refine WL.nil (kr15 _ _ _ (kh14 ?_));refine zR fun _ kr16 => ?_;refine zm rfl ?_;(first | refine zi rfl rfl ?_ | refine zo rfl rfl ?_);refine za rfl ?_;refine WL.nil (kr16 _ _ _ ?_);refine ⟨rfl, i + 1, ?_, ?_, ?_⟩
   ·exact SLp
   ·exact ⟨by omega, by rw [oneL_take (by omega)]; exact hbt, hch⟩
   ·show l.length - (i + 1) < l.length - i; omega
  ·have hiX : i = l.length := by omega
   subst hiX;rw [List.take_length] at hbt;refine CW.exit ?_;refine kh8 (Sr fun _ kh17 => zm rfl (za rfl (zz (kh17 ?_))));refine zr (zr1 rfl rfl ?_);exact ⟨⟨bt, rfl, hbt, hget⟩, hch⟩

end

/- What a shard of some numbers is: by its list. No condition. -/
section
open Go Sx Wd Fl
set_option exponentiation.threshold 9000

/-- How many numbers of a kind there are. -/
def cntK (j : Nat) (L : List Nat) : Nat := (L.filter fun x => kindP x == j).length
theorem cntK_cons (j : Nat) (L : List Nat) (x : Nat) : cntK j (x :: L) = (if kindP x = j then 1 else 0) + cntK j L := by
  unfold cntK
  by_cases h : kindP x = j
  · simp [h]; omega
  · simp [h]
theorem cntK_pos {j : Nat} {L : List Nat} : 0 < cntK j L ↔ ∃ y ∈ L, kindP y = j := by
  unfold cntK
  rw [List.length_pos_iff_exists_mem]
  constructor
  · rintro ⟨y, hy⟩
    rw [List.mem_filter] at hy
    exact ⟨y, hy.1, by simpa using hy.2⟩
  · rintro ⟨y, hy, hk⟩
    exact ⟨y, List.mem_filter.2 ⟨hy, by simpa using hk⟩⟩
theorem cntK_sum (L : List Nat) : cntK 0 L + cntK 1 L + cntK 2 L + cntK 3 L + cntK 4 L + cntK 5 L = L.length := by
  induction L with
  | nil => rfl
  | cons x L ih =>
    rw [cntK_cons, cntK_cons, cntK_cons, cntK_cons, cntK_cons, cntK_cons, List.length_cons]
    have := kindP_le5 x
    have h : kindP x = 0 ∨ kindP x = 1 ∨ kindP x = 2 ∨ kindP x = 3 ∨ kindP x = 4 ∨ kindP x = 5 := by omega
    rcases h with h | h | h | h | h | h <;> rw [h] <;> simp <;> omega
theorem nan_kind {x : Nat} (hx : x < 18446744073709551616) : isNaN x = true ↔ kindP x = 5 := by
  rw [kindP_bits hx]
  unfold isNaN
  rw [decide_eq_true_eq]
  constructor
  · intro h; rw [if_pos h]
  · intro h
    apply Classical.byContradiction
    intro q
    rw [if_neg q] at h
    split at h
    · omega
    split at h
    · omega
    split at h
    · omega
    split at h <;> omega
theorem fv_kind {x : Nat} (hx : x < 18446744073709551616) : fvI x ≠ 0 ↔ kindP x = 0 := by
  have hb := kindP_bits hx
  by_cases hc : (splitP x).cls ≤ 2
  · rw [ne_eq, fvI_nought hc hx]
    have hk := kind_cls.2 hc
    rw [hb] at hk ⊢
    by_cases a : 9218868437227405312 < x % 9223372036854775808
    · rw [if_pos a] at hk; omega
    rw [if_neg a] at hk ⊢
    by_cases b : x % 9223372036854775808 = 9218868437227405312 ∧ x / 9223372036854775808 = 1
    · rw [if_pos b] at hk; omega
    rw [if_neg b] at hk ⊢
    by_cases c : x % 9223372036854775808 = 9218868437227405312
    · rw [if_pos c] at hk; omega
    rw [if_neg c]
    by_cases d : x % 9223372036854775808 = 0
    · rw [if_pos d]
      split <;> simp [d]
    · rw [if_neg (fun q => d q.1), if_neg d]; simp [d]
  · have hk : ¬ kindP x ≤ 2 := fun q => hc (kind_cls.1 q)
    rw [fvI_zero (fun q => hc (by omega))]
    constructor
    · intro h; exact absurd rfl h
    · intro h; omega
/-- A number's square, in units of two to the power of -2148. -/
def sqI (x : Nat) : Int := if kindP x = 0 then thv (prodP x x) else 0
theorem k0_cls {x : Nat} (h : kindP x = 0) : (splitP x).cls ≤ 2 := kind_cls.1 (by omega)
theorem sq_mul {x : Nat} (hx : x < 18446744073709551616) : sqI x * (2 ^ 2148 : Nat) = fvI x * fvI x := by
  unfold sqI
  by_cases h : kindP x = 0
  · rw [if_pos h]; exact thv_prod (k0_cls h) (k0_cls h)
  · have h0 : fvI x = 0 := Classical.byContradiction fun q => h ((fv_kind hx).1 q)
    rw [if_neg h, h0, Int.zero_mul, Int.zero_mul]
theorem mul_self_nonneg (a : Int) : 0 ≤ a * a := by
  rcases Int.le_total 0 a with h | h
  · exact Int.mul_nonneg h h
  · exact Int.mul_nonneg_of_nonpos_of_nonpos h h
theorem sq_pos {x : Nat} (hx : x < 18446744073709551616) : 0 ≤ sqI x ∧ (kindP x = 0 → 0 < sqI x) := by
  have h := sq_mul hx
  have hn := mul_self_nonneg (fvI x)
  have hp : (0 : Int) < ((2 ^ 2148 : Nat) : Int) := by have := Nat.two_pow_pos 2148; omega
  constructor
  · apply Classical.byContradiction
    intro q
    have := Int.mul_neg_of_neg_of_pos (show sqI x < 0 by omega) hp
    omega
  · intro hk
    apply Classical.byContradiction
    intro q
    have h0 := (fv_kind hx).2 hk
    have hne : fvI x * fvI x ≠ 0 := fun e => by rcases Int.mul_eq_zero.1 e with e | e <;> exact h0 e
    rcases Int.lt_or_eq_of_le (show sqI x ≤ 0 by omega) with e | e
    · have := Int.mul_neg_of_neg_of_pos e hp
      omega
    · rw [e, Int.zero_mul] at h; exact hne h.symm
theorem sq_lt {x : Nat} (hx : x < 18446744073709551616) : sqI x < ((2 ^ 4196 : Nat) : Int) := by
  have hp := Nat.two_pow_pos 4196
  unfold sqI
  by_cases h : kindP x = 0
  · rw [if_pos h]
    have := thv_prod_lt (k0_cls h) (k0_cls h)
    omega
  · rw [if_neg h]; omega
def sqS (L : List Nat) : Int := (L.map sqI).sum
/-- The sums' bounds, by how many numbers are no noughts. -/
theorem sq_bounds {L : List Nat} (hw : ∀ x ∈ L, x < 18446744073709551616) : 0 ≤ sqS L ∧ (0 < cntK 0 L → 0 < sqS L) ∧ (cntK 0 L = 0 → sqS L = 0 ∧ sumI L = 0) ∧ (0 < cntK 0 L → sqS L < (cntK 0 L : Int) * ((2 ^ 4196 : Nat) : Int)) ∧ sumI L * sumI L ≤ (cntK 0 L : Int) * (sqS L * ((2 ^ 2148 : Nat) : Int)) := by
  induction L with
  | nil => exact ⟨Int.le_refl _, fun h => absurd h (by decide), fun _ => ⟨rfl, rfl⟩, fun h => absurd h (by decide), by simp [sumI, sqS, cntK]⟩
  | cons x L ih =>
    obtain ⟨i1, i2, i3, i4, i5⟩ := ih fun y hy => hw y (List.mem_cons_of_mem _ hy)
    have hx := hw x (List.mem_cons_self ..)
    obtain ⟨p1, p2⟩ := sq_pos hx
    have hlt := sq_lt hx
    have hm := sq_mul hx
    have eS : sqS (x :: L) = sqI x + sqS L := by simp [sqS]
    have eA : sumI (x :: L) = fvI x + sumI L := by simp [sumI]
    rw [eS, eA, cntK_cons]
    generalize hM : ((2 ^ 4196 : Nat) : Int) = M at *
    generalize hT : ((2 ^ 2148 : Nat) : Int) = T at *
    generalize hA : sumI L = A at *
    generalize hQ : sqS L = Q at *
    generalize ha : fvI x = a at *
    generalize hq : sqI x = q at *
    by_cases hk : kindP x = 0
    · rw [if_pos hk]
      have hq0 := p2 hk
      refine ⟨by omega, fun _ => by omega, fun h => by omega, fun _ => ?_, ?_⟩
      · push_cast
        rw [Int.add_mul, Int.one_mul]
        by_cases hc : cntK 0 L = 0
        · have := (i3 hc).1
          rw [hc]; simp; omega
        · have := i4 (by omega)
          omega
      · -- (a + A)^2 <= (1 + k)(q + Q)T, with A^2 <= k Q T and q T = a^2
        push_cast
        generalize hkk : ((cntK 0 L : Nat) : Int) = k at *
        have hk0 : 0 ≤ k := by omega
        have hQT : 0 ≤ Q * T := Int.mul_nonneg i1 (by rw [← hT]; omega)
        generalize hz : Q * T = Z at *
        have hqz : (q + Q) * T = a * a + Z := by rw [Int.add_mul, hm, hz]
        rw [hqz]
        by_cases hk1 : k = 0
        · rw [hk1, Int.zero_mul] at i5
          have hA0 : A = 0 := Classical.byContradiction fun hne => by
            have : 0 < A * A := by
              have h1 := mul_self_nonneg A
              rcases Int.lt_or_eq_of_le h1 with h | h
              · exact h
              · rcases Int.mul_eq_zero.1 h.symm with h | h <;> exact absurd h hne
            omega
          rw [hA0, hk1]
          simp only [Int.add_zero, Int.one_mul]
          omega
        · have hs := mul_self_nonneg (k * a - A)
          have e1 : (k * a - A) * (k * a - A) = k * (k * (a * a)) - 2 * (k * (a * A)) + A * A := by
            rw [Int.sub_mul, Int.mul_sub, Int.mul_sub]
            have q1 : k * a * (k * a) = k * (k * (a * a)) := by rw [Int.mul_assoc, Int.mul_left_comm a k a]
            have q2 : A * (k * a) = k * (a * A) := by rw [Int.mul_left_comm, Int.mul_comm A a]
            have q3 : k * a * A = k * (a * A) := Int.mul_assoc ..
            rw [q1, q2, q3]; omega
          rw [e1] at hs
          have e2 : 0 ≤ k * (k * (a * a) - 2 * (a * A) + Z) := by
            have : k * (k * (a * a) - 2 * (a * A) + Z) = k * (k * (a * a)) - 2 * (k * (a * A)) + k * Z := by
              rw [Int.mul_add, Int.mul_sub, Int.mul_left_comm k 2]
            rw [this]; omega
          have e3 : 0 ≤ k * (a * a) - 2 * (a * A) + Z := by
            apply Classical.byContradiction
            intro hneg
            have := Int.mul_neg_of_pos_of_neg (show 0 < k by omega) (show k * (a * a) - 2 * (a * A) + Z < 0 by omega)
            omega
          have e4 : (a + A) * (a + A) = a * a + 2 * (a * A) + A * A := by
            rw [Int.add_mul, Int.mul_add, Int.mul_add, Int.mul_comm A a]; omega
          have e5 : (1 + k) * (a * a + Z) = a * a + Z + (k * (a * a) + k * Z) := by rw [Int.add_mul, Int.one_mul, Int.mul_add]
          rw [e4, e5]
          omega
    · rw [if_neg hk]
      have hf0 : a = 0 := Classical.byContradiction fun h => hk ((fv_kind hx).1 (by rw [ha]; exact h))
      have hq0 : q = 0 := by rw [← hq]; unfold sqI; rw [if_neg hk]
      rw [hf0, hq0, Nat.zero_add, Int.zero_add, Int.zero_add]
      exact ⟨i1, i2, i3, i4, i5⟩
theorem pow4236 : ∀ a, a = 4196 → (2 : Nat) ^ (a + 42) = 4398046511104 * 2 ^ a := by
  intro a _; rw [Nat.pow_add, Nat.mul_comm]
theorem sq_in {L : List Nat} (hw : ∀ x ∈ L, x < 18446744073709551616) (hn : L.length ≤ 1099511627776) : InB (sqS L) := by
  obtain ⟨i1, i2, i3, i4, i5⟩ := sq_bounds hw
  have hk : cntK 0 L ≤ L.length := by have := cntK_sum L; omega
  have hp := pow4236 4196 rfl
  have hb : ((16384 * BB : Nat) : Int) = 4398046511104 * ((2 ^ 4196 : Nat) : Int) := by
    have h1 : (16384 * BB : Nat) = 4398046511104 * 2 ^ 4196 := by rw [BB_pow] <;> exact hp
    rw [h1, Int.natCast_mul] <;> rfl
  have h0 : (0 : Int) < ((2 ^ 4196 : Nat) : Int) := by have := Nat.two_pow_pos 4196; omega
  unfold InB
  rw [hb]
  generalize ((2 ^ 4196 : Nat) : Int) = M at *
  refine ⟨by omega, ?_⟩
  by_cases hc : cntK 0 L = 0
  · rw [(i3 hc).1]; omega
  · have h1 := i4 (by omega)
    have h2 : ((cntK 0 L : Nat) : Int) * M ≤ 1099511627776 * M := Int.mul_le_mul_of_nonneg_right (by omega) (by omega)
    omega
end

/- A shard of some numbers is one that its bytes give back. No condition. -/
section
open Go Sx Wd Fl

theorem cntK_app (j : Nat) (L K : List Nat) : cntK j (L ++ K) = cntK j L + cntK j K := by
  unfold cntK; rw [List.filter_append, List.length_append]
theorem sqS_app (L K : List Nat) : sqS (L ++ K) = sqS L + sqS K := by
  induction L with
  | nil => simp [sqS]
  | cons x L ih =>
    show sqI x + sqS (L ++ K) = sqI x + sqS L + sqS K
    rw [ih]; omega
theorem sumI_app (L K : List Nat) : sumI (L ++ K) = sumI L + sumI K := by
  induction L with
  | nil => simp [sumI]
  | cons x L ih =>
    have e : ∀ M, sumI (x :: M) = fvI x + sumI M := fun M => by simp [sumI]
    rw [List.cons_append, e, e, ih]; omega
/-- A shard of the numbers of a list. -/
structure Mk (S : Sh) (L : List Nat) : Prop where
  w : ∀ x ∈ L, x < 18446744073709551616
  n : L.length ≤ 1099511627776
  s : S.s = ⟨cntK 5 L, cntK 3 L, cntK 4 L, cntK 1 L, cntK 2 L, L.length⟩
  V : S.V = sumD (sumI L)
  Q : S.Q = sumD (sqS L)
  e : cntK 5 L = L.length ∨ (S.lo ∈ L ∧ kindP S.lo ≠ 5 ∧ S.hi ∈ L ∧ kindP S.hi ≠ 5 ∧ ∀ y ∈ L, kindP y ≠ 5 → key S.lo ≤ key y ∧ key y ≤ key S.hi)
theorem cntK_le (j : Nat) (L : List Nat) : cntK j L ≤ L.length := List.length_filter_le ..
theorem Mk.some_iff {S : Sh} {L : List Nat} (h : Mk S L) : S.some ↔ cntK 5 L < L.length := by
  unfold Sh.some; rw [h.s]
theorem Mk.zero : Mk Sh.zero [] := ⟨fun x hx => (by cases hx), (by decide), rfl, rfl, rfl, .inl rfl⟩
theorem Mk.one {x : Nat} (hx : x < 18446744073709551616) : Mk (Sh.one x) [x] := by
  refine ⟨fun y hy => by rw [List.mem_singleton.1 hy]; exact hx, by simp, ?_, ?_, ?_, ?_⟩
  · show countP SP.zero (kindP x) = _
    have e : ∀ j, cntK j [x] = if kindP x = j then 1 else 0 := fun j => by rw [cntK_cons]; rfl
    rw [e, e, e, e, e]
    unfold countP SP.zero
    simp
  · show fdy x = _
    have e : sumI [x] = fvI x := by simp [sumI]
    rw [e]
    unfold fdy
    split
    · rfl
    · rename_i hc; rw [fvI_zero (fun q => hc (by omega))]; rfl
  · show (mulD (fdy x) (fdy x)).getD Dy.zero = _
    have e : sqS [x] = sqI x := by simp [sqS]
    rw [e]
    unfold sqI fdy
    by_cases hk : kindP x = 0
    · have hc := k0_cls hk
      rw [if_pos hc, if_pos hk, mulD_sum hc hc]; rfl
    · have h0 : fvI x = 0 := Classical.byContradiction fun q => hk ((fv_kind hx).1 q)
      rw [if_neg hk, h0]
      have : ∀ d, d = Dy.zero → (mulD d d).getD Dy.zero = sumD 0 := fun d hd => by subst hd; unfold mulD; rw [show Dy.zero.m * Dy.zero.m = 0 from rfl, formD_zero]; split <;> rfl
      refine this _ ?_
      split <;> rfl
  · by_cases hk : kindP x = 5
    · exact .inl (by rw [cntK_cons, if_pos hk]; rfl)
    · exact .inr ⟨List.mem_singleton.2 rfl, hk, List.mem_singleton.2 rfl, hk, fun y hy _ => by rw [List.mem_singleton.1 hy]; exact ⟨Int.le_refl _, Int.le_refl _⟩⟩
theorem all_nan {L : List Nat} (h : cntK 5 L = L.length) : ∀ y ∈ L, kindP y = 5 := by
  intro y hy
  apply Classical.byContradiction
  intro q
  have h1 := cntK_sum L
  have h2 := kindP_le5 y
  have h3 : 0 < cntK (kindP y) L := cntK_pos.2 ⟨y, hy, rfl⟩
  have h4 : kindP y = 0 ∨ kindP y = 1 ∨ kindP y = 2 ∨ kindP y = 3 ∨ kindP y = 4 := by omega
  rcases h4 with e | e | e | e | e <;> rw [e] at h3 <;> omega
theorem Mk.merge {S U : Sh} {L K : List Nat} (h : Mk S L) (g : Mk U K) (hn : L.length + K.length ≤ 1099511627776) : Mk (S.merge U) (L ++ K) := by
  have hw : ∀ x ∈ L ++ K, x < 18446744073709551616 := fun x hx => by
    rcases List.mem_append.1 hx with q | q
    · exact h.w x q
    · exact g.w x q
  have hl : (L ++ K).length ≤ 1099511627776 := by rw [List.length_append]; omega
  refine ⟨hw, hl, ?_, ?_, ?_, ?_⟩
  · show S.s.add U.s = _
    rw [h.s, g.s]
    unfold SP.add
    rw [cntK_app, cntK_app, cntK_app, cntK_app, cntK_app, List.length_append]
  · show (addD S.V U.V).getD Dy.zero = _
    rw [h.V, g.V, addD_sum (sumI_in h.n) (sumI_in g.n) (by rw [← sumI_app]; exact sumI_in hl), sumI_app]; rfl
  · show (addD S.Q U.Q).getD Dy.zero = _
    rw [h.Q, g.Q, addD_sum (sq_in h.w h.n) (sq_in g.w g.n) (by rw [← sqS_app]; exact sq_in hw hl), sqS_app]; rfl
  · have hs := h.some_iff
    have gs := g.some_iff
    have c1 := cntK_le 5 L
    have c2 := cntK_le 5 K
    rcases h.e with he | ⟨a1, a2, a3, a4, a5⟩
    · have nS : ¬ S.some := fun q => by have := hs.1 q; omega
      rcases g.e with ge | ⟨b1, b2, b3, b4, b5⟩
      · exact .inl (by rw [cntK_app, List.length_append]; omega)
      · have hU : U.some := gs.2 (by
          apply Classical.byContradiction
          intro q
          exact b2 (all_nan (by omega) _ b1))
        have e1 : (S.merge U).lo = U.lo := if_pos ⟨hU, .inl nS⟩
        have e2 : (S.merge U).hi = U.hi := if_pos ⟨hU, .inl nS⟩
        rw [e1, e2]
        refine .inr ⟨List.mem_append_right _ b1, b2, List.mem_append_right _ b3, b4, fun y hy hk => ?_⟩
        rcases List.mem_append.1 hy with q | q
        · exact absurd (all_nan he y q) hk
        · exact b5 y q hk
    · have hS : S.some := hs.2 (by
        apply Classical.byContradiction
        intro q
        exact a2 (all_nan (by omega) _ a1))
      rcases g.e with ge | ⟨b1, b2, b3, b4, b5⟩
      · have nU : ¬ U.some := fun q => by have := gs.1 q; omega
        have e1 : (S.merge U).lo = S.lo := if_neg fun q => nU q.1
        have e2 : (S.merge U).hi = S.hi := if_neg fun q => nU q.1
        rw [e1, e2]
        refine .inr ⟨List.mem_append_left _ a1, a2, List.mem_append_left _ a3, a4, fun y hy hk => ?_⟩
        rcases List.mem_append.1 hy with q | q
        · exact a5 y q hk
        · exact absurd (all_nan ge y q) hk
      · have hU : U.some := gs.2 (by
          apply Classical.byContradiction
          intro q
          exact b2 (all_nan (by omega) _ b1))
        have e1 : (S.merge U).lo = if key U.lo < key S.lo then U.lo else S.lo := by
          show (if U.some ∧ (¬ S.some ∨ key U.lo < key S.lo) then U.lo else S.lo) = _
          by_cases q : key U.lo < key S.lo
          · rw [if_pos ⟨hU, .inr q⟩, if_pos q]
          · rw [if_neg (fun z => z.2.elim (fun z => z hS) q), if_neg q]
        have e2 : (S.merge U).hi = if key S.hi < key U.hi then U.hi else S.hi := by
          show (if U.some ∧ (¬ S.some ∨ key S.hi < key U.hi) then U.hi else S.hi) = _
          by_cases q : key S.hi < key U.hi
          · rw [if_pos ⟨hU, .inr q⟩, if_pos q]
          · rw [if_neg (fun z => z.2.elim (fun z => z hS) q), if_neg q]
        rw [e1, e2]
        refine .inr ⟨?_, ?_, ?_, ?_, fun y hy hk => ?_⟩
        · split
          · exact List.mem_append_right _ b1
          · exact List.mem_append_left _ a1
        · split
          · exact b2
          · exact a2
        · split
          · exact List.mem_append_right _ b3
          · exact List.mem_append_left _ a3
        · split
          · exact b4
          · exact a4
        · rcases List.mem_append.1 hy with q | q
          · have := a5 y q hk
            constructor <;> split <;> omega
          · have := b5 y q hk
            constructor <;> split <;> omega
/-- Where all are no numbers, the ends are noughts. -/
def Sh.noE (S : Sh) : Prop := ¬ S.some → S.lo = 0 ∧ S.hi = 0
theorem Mk.noE {S U : Sh} {L K : List Nat} (h : Mk S L) (g : Mk U K) (hS : S.noE) : (S.merge U).noE := by
  intro q
  have c1 := cntK_le 5 L
  have c2 := cntK_le 5 K
  have q2 : ¬ (S.s.na + U.s.na < S.s.al + U.s.al) := q
  rw [h.s, g.s] at q2
  dsimp only at q2
  have nS : ¬ S.some := fun z => by have := h.some_iff.1 z; omega
  have nU : ¬ U.some := fun z => by have := g.some_iff.1 z; omega
  have e1 : (S.merge U).lo = S.lo := if_neg fun z => nU z.1
  have e2 : (S.merge U).hi = S.hi := if_neg fun z => nU z.1
  rw [e1, e2]; exact hS nS
end

/- A shard of some numbers: its bytes give it back. No condition. -/
section
open Go Sx Wd Fl
set_option exponentiation.threshold 9000

theorem kd {x : Nat} (hx : x < 18446744073709551616) : (kindP x = 5 ↔ 9218868437227405312 < x % 9223372036854775808) ∧ (kindP x = 4 ↔ x = 18442240474082181120) ∧ (kindP x = 3 ↔ x = 9218868437227405312) ∧ (kindP x = 1 ↔ x = 9223372036854775808) ∧ (kindP x = 2 ↔ x = 0) := by
  rw [kindP_bits hx]
  refine ⟨?_, ?_, ?_, ?_, ?_⟩ <;> (repeat' split) <;> constructor <;> intro h <;> omega
theorem key5 {x : Nat} (hx : x < 18446744073709551616) (h : kindP x ≠ 5) : isNaN x = false ∧ x % 9223372036854775808 ≤ 9218868437227405312 ∧ key x = if 9223372036854775808 ≤ x then -1 - ((x : Int) - 9223372036854775808) else x := by
  have hn : isNaN x = false := by
    cases q : isNaN x with
    | false => rfl
    | true => exact absurd ((nan_kind hx).1 q) h
  refine ⟨hn, ?_, ?_⟩
  · have := (kd hx).1
    omega
  · unfold key; rw [hn]; simp
theorem mulD_comm (x y : Dy) : mulD x y = mulD y x := by
  unfold mulD
  rw [Nat.mul_comm x.m y.m, Int.add_comm x.e y.e]
  have : (x.neg != y.neg) = (y.neg != x.neg) := by cases x.neg <;> cases y.neg <;> rfl
  rw [this]
theorem wlenB {n k : Nat} (h : ∀ c, c = 32 * k → n < 2 ^ c) : (wd n).length ≤ k := wd_length_le.2 (h _ rfl)
/-- Two odd numbers' product is in its form. -/
theorem mulD_odd {x y : Dy} (hx : x.m % 2 = 1) (hy : y.m % 2 = 1) (h1 : x.m < 2 ^ 4300) (h2 : y.m < 2 ^ 4300) (h3 : -100000 ≤ x.e ∧ x.e ≤ 100000) (h4 : -100000 ≤ y.e ∧ y.e ≤ 100000) : mulD x y = some ⟨x.neg != y.neg, x.m * y.m, x.e + y.e⟩ := by
  have ho : x.m * y.m % 2 = 1 := by rw [Nat.mul_mod, hx, hy]
  have h0 : x.m * y.m ≠ 0 := fun e => by rw [e] at ho; cases ho
  have ht := tz_odd ho
  have hlen : (wd (x.m * y.m)).length ≤ 8192 := wlenB fun c hc => by
    have a : x.m * y.m < 2 ^ 4300 * 2 ^ 4300 := Nat.mul_lt_mul'' h1 h2
    rw [← Nat.pow_add] at a
    exact Nat.lt_of_lt_of_le a (Nat.pow_le_pow_right (by omega) (by omega))
  unfold mulD
  rw [if_neg (by omega), formD_some h0 (by rw [ht]; rw [Nat.pow_zero, Nat.div_one]; omega), ht, Nat.pow_zero, Nat.div_one]
  simp
theorem sgn_le0 {a b : Nat} (h : a ≤ b) : sgn a b ≤ 0 := by
  unfold sgn
  repeat' split
  all_goals omega
theorem sumD_in {S : Int} (h : InB S) (h0 : S ≠ 0) : ∃ a : Nat, S.natAbs = (sumD S).m * 2 ^ a ∧ (sumD S).e = -2148 + (a : Int) ∧ (sumD S).neg = decide (S < 0) ∧ (sumD S).m % 2 = 1 ∧ (sumD S).m < 2 ^ 4238 ∧ a < 4238 := by
  obtain ⟨a, h1, h2, h3⟩ := sumD_up h h0
  have hok := rsumD_ok h
  have hm : (sumD S).m ≠ 0 := fun e => h0 ((rsumD_m0 h).1 e)
  have hl := h.lt
  have hp := Nat.two_pow_pos a
  have hle : (sumD S).m ≤ S.natAbs := by rw [h1]; exact Nat.le_mul_of_pos_right _ hp
  refine ⟨a, h1, h2, h3, hok.odd hm, Nat.lt_of_le_of_lt hle hl, ?_⟩
  have h5 : 2 ^ a ≤ S.natAbs := by rw [h1]; exact Nat.le_mul_of_pos_left _ (by omega)
  exact (Nat.pow_lt_pow_iff_right (by omega)).1 (Nat.lt_of_le_of_lt h5 hl)
theorem Mk.fin {S : Sh} {L : List Nat} (h : Mk S L) : S.fin = (cntK 0 L : Int) + cntK 1 L + cntK 2 L ∧ S.pln = cntK 0 L := by
  have hc := cntK_sum L
  unfold Sh.pln Sh.fin
  rw [h.s]
  dsimp only
  omega
theorem Mk.wf {S : Sh} {L : List Nat} (h : Mk S L) (hn : S.noE) : S.wf := by
  have c0 := cntK_sum L
  have hl := h.n
  refine ⟨?_, ?_, ?_, ?_, ?_⟩
  · rw [h.s]; refine ⟨?_, ?_, ?_, ?_, ?_, ?_⟩ <;> dsimp only <;> omega
  · rw [h.V]; exact rsumD_ok (sumI_in h.n)
  · rw [h.Q]; exact rsumD_ok (sq_in h.w h.n)
  · rcases h.e with q | q
    · rw [(hn (fun z => by have := h.some_iff.1 z; omega)).1]; omega
    · exact h.w _ q.1
  · rcases h.e with q | q
    · rw [(hn (fun z => by have := h.some_iff.1 z; omega)).2]; omega
    · exact h.w _ q.2.2.1
theorem ex_of {S : Int} (h : InB S) : (-4096 ≤ (sumD S).e ∧ (sumD S).e ≤ 61439) ∧ (wd (sumD S).m).length ≤ 160 := by
  by_cases h0 : S = 0
  · subst h0
    rw [sumD_zero]
    exact ⟨by decide, by show (wd 0).length ≤ 160; rw [wd_zero]; decide⟩
  · obtain ⟨a, h1, h2, h3, h4, h5, h6⟩ := sumD_in h h0
    refine ⟨by omega, wd_length_le.2 (Nat.lt_of_lt_of_le h5 (Nat.pow_le_pow_right (by omega) (by omega)))⟩
theorem Mk.ex {S : Sh} {L : List Nat} (h : Mk S L) : S.ex := by
  have h1 := ex_of (sumI_in h.n)
  have h2 := ex_of (sq_in h.w h.n)
  rw [← h.V] at h1
  rw [← h.Q] at h2
  exact ⟨h1.1, h2.1, h1.2, h2.2⟩
/-- The least of some numbers, told by its kind. -/
theorem lo_end {lo n c0 c1 c2 c3 c4 c5 : Nat} {hi : Int} (lw : lo < 18446744073709551616) (l2 : lo % 9223372036854775808 ≤ 9218868437227405312) (l3 : key lo = if 9223372036854775808 ≤ lo then -1 - ((lo : Int) - 9223372036854775808) else lo)
    (lk : (kindP lo = 5 ↔ 9218868437227405312 < lo % 9223372036854775808) ∧ (kindP lo = 4 ↔ lo = 18442240474082181120) ∧ (kindP lo = 3 ↔ lo = 9218868437227405312) ∧ (kindP lo = 1 ↔ lo = 9223372036854775808) ∧ (kindP lo = 2 ↔ lo = 0)) (l5 : kindP lo ≤ 5) (a2 : kindP lo ≠ 5)
    (k0 : kindP lo = 0 → 0 < c0) (k1 : kindP lo = 1 → 0 < c1) (k2 : kindP lo = 2 → 0 < c2) (k3 : kindP lo = 3 → 0 < c3) (k4 : kindP lo = 4 → 0 < c4) (hc : c0 + c1 + c2 + c3 + c4 + c5 = n)
    (g1 : 0 < c1 → ∃ y, kindP y = 1 ∧ y < 18446744073709551616 ∧ y % 9223372036854775808 ≤ 9218868437227405312 ∧ key lo ≤ key y ∧ key y ≤ hi ∧ key y = (if 9223372036854775808 ≤ y then -1 - ((y : Int) - 9223372036854775808) else y)) (g4 : 0 < c4 → ∃ y, kindP y = 4 ∧ y < 18446744073709551616 ∧ y % 9223372036854775808 ≤ 9218868437227405312 ∧ key lo ≤ key y ∧ key y ≤ hi ∧ key y = (if 9223372036854775808 ≤ y then -1 - ((y : Int) - 9223372036854775808) else y))
    (fy : 0 < (c0 : Int) + c1 + c2 → ∃ y, y < 18446744073709551616 ∧ y % 9223372036854775808 < 9218868437227405312 ∧ key lo ≤ key y ∧ key y ≤ hi ∧ key y = (if 9223372036854775808 ≤ y then -1 - ((y : Int) - 9223372036854775808) else y)) :
    if 0 < c4 then isInfP lo (-1) else if (c0 : Int) + c1 + c2 = 0 then 0 < c3 ∧ isInfP lo (- -1) else if isInfP lo 0 then False else if (0 : Int) < c0 then True else lo % 9223372036854775808 = 0 ∧ (9223372036854775808 ≤ lo ↔ ((-1 : Int) < 0 ↔ 0 < c1)) := by
  rw [l3] at g1 g4 fy
  generalize kindP lo = kl at *
  clear l3
  by_cases q4 : 0 < c4
  · rw [if_pos q4]
    obtain ⟨y, y1, y2, y3, y4, y5, y6⟩ := g4 q4
    have yk := (kd y2).2.1.1 y1
    unfold isInfP
    rw [if_neg (by omega), if_pos (by omega)]
    rw [y6, yk] at y4
    simp at y4
    split at y4 <;> omega
  · rw [if_neg q4]
    by_cases qf : (c0 : Int) + c1 + c2 = 0
    · rw [if_pos qf]
      have l3' : kl = 3 := by omega
      refine ⟨k3 l3', ?_⟩
      unfold isInfP
      rw [if_neg (by omega), if_neg (by omega)]
      omega
    · rw [if_neg qf]
      obtain ⟨y, y2, y3, y4, y5, y6⟩ := fy (by omega)
      have ninf : ¬ lo % 9223372036854775808 = 9218868437227405312 := by
        intro q
        rw [y6] at y4
        split at y4 <;> split at y4 <;> omega
      have ninf' : ¬ isInfP lo 0 := by unfold isInfP; rw [if_pos rfl]; exact ninf
      rw [if_neg ninf']
      by_cases qp : (0 : Int) < c0
      · rw [if_pos qp]; trivial
      · rw [if_neg qp]
        by_cases q1 : 0 < c1
        · obtain ⟨z, z1, z2, z3, z4, z5, z6⟩ := g1 q1
          have zk := (kd z2).2.2.2.1.1 z1
          rw [z6, zk] at z4
          simp at z4
          have hl : 9223372036854775808 ≤ lo := by
            split at z4 <;> omega
          refine ⟨by omega, ?_⟩
          simp [q1, hl]
        · have lo0 : lo = 0 := by omega
          rw [lo0]
          simp [q1]
/-- The greatest of some numbers, told by its kind. -/
theorem hi_end {hi n c0 c1 c2 c3 c4 c5 : Nat} {lo : Int} (lw : hi < 18446744073709551616) (l2 : hi % 9223372036854775808 ≤ 9218868437227405312) (l3 : key hi = if 9223372036854775808 ≤ hi then -1 - ((hi : Int) - 9223372036854775808) else hi)
    (lk : (kindP hi = 5 ↔ 9218868437227405312 < hi % 9223372036854775808) ∧ (kindP hi = 4 ↔ hi = 18442240474082181120) ∧ (kindP hi = 3 ↔ hi = 9218868437227405312) ∧ (kindP hi = 1 ↔ hi = 9223372036854775808) ∧ (kindP hi = 2 ↔ hi = 0)) (l5 : kindP hi ≤ 5) (a2 : kindP hi ≠ 5)
    (k0 : kindP hi = 0 → 0 < c0) (k1 : kindP hi = 1 → 0 < c1) (k2 : kindP hi = 2 → 0 < c2) (k3 : kindP hi = 3 → 0 < c3) (k4 : kindP hi = 4 → 0 < c4) (hc : c0 + c1 + c2 + c3 + c4 + c5 = n)
    (g2 : 0 < c2 → ∃ y, kindP y = 2 ∧ y < 18446744073709551616 ∧ y % 9223372036854775808 ≤ 9218868437227405312 ∧ lo ≤ key y ∧ key y ≤ key hi ∧ key y = (if 9223372036854775808 ≤ y then -1 - ((y : Int) - 9223372036854775808) else y)) (g3 : 0 < c3 → ∃ y, kindP y = 3 ∧ y < 18446744073709551616 ∧ y % 9223372036854775808 ≤ 9218868437227405312 ∧ lo ≤ key y ∧ key y ≤ key hi ∧ key y = (if 9223372036854775808 ≤ y then -1 - ((y : Int) - 9223372036854775808) else y))
    (fy : 0 < (c0 : Int) + c1 + c2 → ∃ y, y < 18446744073709551616 ∧ y % 9223372036854775808 < 9218868437227405312 ∧ lo ≤ key y ∧ key y ≤ key hi ∧ key y = (if 9223372036854775808 ≤ y then -1 - ((y : Int) - 9223372036854775808) else y)) :
    if 0 < c3 then isInfP hi 1 else if (c0 : Int) + c1 + c2 = 0 then 0 < c4 ∧ isInfP hi (-1) else if isInfP hi 0 then False else if (0 : Int) < c0 then True else hi % 9223372036854775808 = 0 ∧ (9223372036854775808 ≤ hi ↔ ((1 : Int) < 0 ↔ 0 < c2)) := by
  rw [l3] at g2 g3 fy
  generalize kindP hi = kl at *
  clear l3
  by_cases q4 : 0 < c3
  · rw [if_pos q4]
    obtain ⟨y, y1, y2, y3, y4, y5, y6⟩ := g3 q4
    have yk := (kd y2).2.2.1.1 y1
    unfold isInfP
    rw [if_neg (by omega), if_neg (by omega)]
    rw [y6, yk] at y5
    simp at y5
    split at y5 <;> omega
  · rw [if_neg q4]
    by_cases qf : (c0 : Int) + c1 + c2 = 0
    · rw [if_pos qf]
      have l3' : kl = 4 := by omega
      refine ⟨k4 l3', ?_⟩
      unfold isInfP
      rw [if_neg (by omega), if_pos (by omega)]
      omega
    · rw [if_neg qf]
      obtain ⟨y, y2, y3, y4, y5, y6⟩ := fy (by omega)
      have ninf : ¬ hi % 9223372036854775808 = 9218868437227405312 := by
        intro q
        rw [y6] at y5
        split at y5 <;> split at y5 <;> omega
      have ninf' : ¬ isInfP hi 0 := by unfold isInfP; rw [if_pos rfl]; exact ninf
      rw [if_neg ninf']
      by_cases qp : (0 : Int) < c0
      · rw [if_pos qp]; trivial
      · rw [if_neg qp]
        by_cases q1 : 0 < c2
        · obtain ⟨z, z1, z2, z3, z4, z5, z6⟩ := g2 q1
          have zk := (kd z2).2.2.2.2.1 z1
          rw [z6, zk] at z5
          simp at z5
          have hl : ¬ 9223372036854775808 ≤ hi := by
            split at z5 <;> omega
          refine ⟨by omega, ?_⟩
          simp [q1, hl]
        · have lo0 : hi = 9223372036854775808 := by omega
          rw [lo0]
          simp [q1]
theorem Mk.ends {S : Sh} {L : List Nat} (h : Mk S L) (hs : S.some) : endsP S := by
  have hc := cntK_sum L
  have hsm := h.some_iff.1 hs
  obtain ⟨f1, f2⟩ := h.fin
  rcases h.e with he | ⟨a1, a2, a3, a4, a5⟩
  · omega
  obtain ⟨l1, l2, l3⟩ := key5 (h.w _ a1) a2
  obtain ⟨u1, u2, u3⟩ := key5 (h.w _ a3) a4
  have lk := kd (h.w _ a1)
  have uk := kd (h.w _ a3)
  have lw := h.w _ a1
  have uw := h.w _ a3
  have lu := a5 _ a3 a4
  have hex : ∀ j, 0 < cntK j L → ∃ y ∈ L, kindP y = j := fun j => cntK_pos.1
  have hin : ∀ y ∈ L, 0 < cntK (kindP y) L := fun y hy => cntK_pos.2 ⟨y, hy, rfl⟩
  have il := hin _ a1
  have iu := hin _ a3
  have l5 := kindP_le5 S.lo
  have u5 := kindP_le5 S.hi
  have of_kind : ∀ j, j ≠ 5 → 0 < cntK j L → ∃ y, kindP y = j ∧ y < 18446744073709551616 ∧ y % 9223372036854775808 ≤ 9218868437227405312 ∧ key S.lo ≤ key y ∧ key y ≤ key S.hi ∧ key y = (if 9223372036854775808 ≤ y then -1 - ((y : Int) - 9223372036854775808) else y) := fun j hj hp => by
    obtain ⟨y, hy, hk⟩ := hex j hp
    have hk5 : kindP y ≠ 5 := by rw [hk]; exact hj
    obtain ⟨b1, b2, b3⟩ := key5 (h.w _ hy) hk5
    exact ⟨y, hk, h.w _ hy, b2, (a5 y hy hk5).1, (a5 y hy hk5).2, b3⟩
  have fin_y : 0 < S.fin → ∃ y, y < 18446744073709551616 ∧ y % 9223372036854775808 < 9218868437227405312 ∧ key S.lo ≤ key y ∧ key y ≤ key S.hi ∧ key y = (if 9223372036854775808 ≤ y then -1 - ((y : Int) - 9223372036854775808) else y) := fun hf => by
    have : ∃ j, j ≤ 2 ∧ 0 < cntK j L := by
      by_cases q0 : 0 < cntK 0 L
      · exact ⟨0, by omega, q0⟩
      by_cases q1 : 0 < cntK 1 L
      · exact ⟨1, by omega, q1⟩
      · exact ⟨2, by omega, by omega⟩
    obtain ⟨j, hj, hp⟩ := this
    obtain ⟨y, y1, y2, y3, y4, y5, y6⟩ := of_kind j (by omega) hp
    have yk := kd y2
    exact ⟨y, y2, by omega, y4, y5, y6⟩
  have g1 := of_kind 1 (by omega)
  have g2 := of_kind 2 (by omega)
  have g3 := of_kind 3 (by omega)
  have g4 := of_kind 4 (by omega)
  have lk' : ∀ j, kindP S.lo = j → 0 < cntK j L := fun j e => by rw [← e]; exact il
  have uk' : ∀ j, kindP S.hi = j → 0 < cntK j L := fun j e => by rw [← e]; exact iu
  have lk0 := lk' 0
  have lk1 := lk' 1
  have lk2 := lk' 2
  have lk3 := lk' 3
  have lk4 := lk' 4
  have uk0 := uk' 0
  have uk1 := uk' 1
  have uk2 := uk' 2
  have uk3 := uk' 3
  have uk4 := uk' 4
  clear lk' uk' il iu of_kind hin hex
  refine ⟨?_, ?_, ?_⟩
  · rw [l1, u1]
    simp
    omega
  · unfold endP
    rw [f1, f2, h.s]
    dsimp only
    rw [f1] at fin_y
    exact lo_end lw l2 l3 lk l5 a2 lk0 lk1 lk2 lk3 lk4 hc g1 g4 fin_y
  · unfold endP
    rw [f1, f2, h.s]
    dsimp only
    rw [f1] at fin_y
    exact hi_end uw u2 u3 uk u5 a4 uk0 uk1 uk2 uk3 uk4 hc g2 g3 fin_y
end

/- A shard of some numbers: its sums may be. No condition. -/
section
open Go Sx Wd Fl
set_option exponentiation.threshold 9000

theorem sumI_dvd {L : List Nat} (hw : ∀ x ∈ L, x < 18446744073709551616) : ∀ a, a = 1074 → ∃ z : Int, sumI L = z * ((2 ^ a : Nat) : Int) := by
  intro a ha
  induction L with
  | nil => exact ⟨0, by simp [sumI]⟩
  | cons x L ih =>
    obtain ⟨z, hz⟩ := ih fun y hy => hw y (List.mem_cons_of_mem _ hy)
    have hx := hw x (List.mem_cons_self ..)
    have e : sumI (x :: L) = fvI x + sumI L := by simp [sumI]
    obtain ⟨q, hq⟩ : ∃ q : Int, fvI x = q * ((2 ^ a : Nat) : Int) := by
      by_cases hc : (splitP x).cls ≤ 2
      · rw [fvI_nz hc hx, ha]
        split
        · exact ⟨-(nz (x % 9223372036854775808) : Int), by rw [Int.natCast_mul, Int.neg_mul]⟩
        · exact ⟨(nz (x % 9223372036854775808) : Int), by rw [Int.natCast_mul]⟩
      · exact ⟨0, by rw [fvI_zero (fun q => hc (by omega)), Int.zero_mul]⟩
    exact ⟨q + z, by rw [e, hz, hq, Int.add_mul]⟩
theorem odd_dvd {m a b : Nat} {z : Nat} (h : m * 2 ^ a = z * 2 ^ b) (hm : m % 2 = 1) (hz : z ≠ 0) : b ≤ a := by
  apply Classical.byContradiction
  intro q
  have e : 2 ^ b = 2 ^ (b - a) * 2 ^ a := by rw [← Nat.pow_add]; congr 1; omega
  rw [e, ← Nat.mul_assoc] at h
  have h1 := Nat.eq_of_mul_eq_mul_right (Nat.two_pow_pos a) h
  rw [h1, show b - a = (b - a - 1) + 1 by omega, Nat.pow_succ, ← Nat.mul_assoc, Nat.mul_mod_left] at hm
  cases hm
theorem sumD_low {S : Int} (h : InB S) (h0 : S ≠ 0) (hd : ∀ a, a = 1074 → ∃ z : Int, S = z * ((2 ^ a : Nat) : Int)) : -1074 ≤ (sumD S).e := by
  obtain ⟨a, h1, h2, h3, h4, h5, h6⟩ := sumD_in h h0
  obtain ⟨z, hz⟩ := hd 1074 rfl
  have hz' : S.natAbs = z.natAbs * 2 ^ 1074 := by rw [hz, Int.natAbs_mul, Int.natAbs_natCast]
  have := odd_dvd (h1.symm.trans hz') h4 (by
    intro e
    have : z = 0 := by omega
    rw [this, Int.zero_mul] at hz
    exact h0 hz)
  omega
theorem cmpY_sum {S T : Int} (hS : InB S) (hT : InB T) : cmpY (sumD S) (sumD T) = if S < T then -1 else if T < S then 1 else 0 := cmpD_sum hS hT
theorem topD_sum : ∀ a, a = 4196 → topD = sumD ((2 ^ a : Nat) : Int) := by
  intro a ha
  have hp : (0 : Int) < ((2 ^ a : Nat) : Int) := by have := Nat.two_pow_pos a; omega
  have hin : InB ((2 ^ a : Nat) : Int) := by
    subst ha
    have h : 2 ^ 4196 < 16384 * BB := by rw [BB_pow]; exact Nat.pow_lt_pow_right (by decide) (by decide)
    unfold InB
    omega
  rw [sumD_val hin (by omega), Int.natAbs_natCast]
  have ht : tz (2 ^ a) = a := by have := tz_mul 1 a rfl; rwa [Nat.one_mul] at this
  rw [ht, Nat.div_self (Nat.two_pow_pos a), decide_eq_false (by omega)]
  subst ha
  rfl
theorem cmpV_le {a b A B c : Nat} {e f : Int} (he : e = (A : Int) - c) (hf : f = (B : Int) - c) (h : a * 2 ^ A ≤ b * 2 ^ B) : cmpV a e b f ≤ 0 := by
  unfold cmpV
  apply sgn_le0
  have hm : min e f + c = ((min A B : Nat) : Int) := by omega
  have e1 : (e - min e f).toNat = A - min A B := by omega
  have e2 : (f - min e f).toNat = B - min A B := by omega
  rw [e1, e2]
  have hp := Nat.two_pow_pos (min A B)
  refine Nat.le_of_mul_le_mul_right (c := 2 ^ min A B) ?_ hp
  rw [Nat.mul_assoc, Nat.mul_assoc, ← Nat.pow_add, ← Nat.pow_add, show A - min A B + min A B = A by omega, show B - min A B + min A B = B by omega]
  exact h
theorem sh2 (km qm t b c : Nat) : km * 2 ^ t * (qm * 2 ^ b * 2 ^ c) = km * qm * 2 ^ (t + b + c) := by rw [Nat.pow_add, Nat.pow_add]; ac_rfl
theorem Mk.sums {S : Sh} {L : List Nat} (h : Mk S L) : sumsP S := by
  obtain ⟨f1, f2⟩ := h.fin
  obtain ⟨i1, i2, i3, i4, i5⟩ := sq_bounds h.w
  have hV := sumI_in h.n
  have hV' : InB (sumI L) := hV
  have hQ := sq_in h.w h.n
  have hk : cntK 0 L ≤ L.length := cntK_le 0 L
  have hn := h.n
  unfold sumsP
  rw [f2, h.V, h.Q]
  by_cases h0 : ((cntK 0 L : Nat) : Int) = 0
  · rw [if_pos h0]
    obtain ⟨e1, e2⟩ := i3 (by omega)
    rw [e1, e2]
    exact ⟨rfl, rfl⟩
  · rw [if_neg h0]
    have hk0 : 0 < cntK 0 L := by omega
    have q0 := i2 hk0
    obtain ⟨b, b1, b2, b3, b4, b5, b6⟩ := sumD_in hQ (by omega)
    have hqneg : (sumD (sqS L)).neg = false := by rw [b3]; exact decide_eq_false (by omega)
    have hsgQ : sgD (sumD (sqS L)).neg (sumD (sqS L)).m = 1 := by
      unfold sgD
      rw [if_neg (fun e => by rw [e] at b4; cases b4), hqneg]; rfl
    refine ⟨?_, ?_, ?_⟩
    · rw [hsgQ]
      rintro (q | q | ⟨q1, q2⟩)
      · omega
      · omega
      · have hne : sumI L ≠ 0 := fun e => q1 (by rw [e]; rfl)
        have := sumD_low hV' hne (sumI_dvd h.w)
        omega
    · have hp := pow4236 4196 rfl
      have hb : ((16384 * BB : Nat) : Int) = 4398046511104 * ((2 ^ 4196 : Nat) : Int) := by
        have h1 : (16384 * BB : Nat) = 4398046511104 * 2 ^ 4196 := by rw [BB_pow] <;> exact hp
        rw [h1, Int.natCast_mul] <;> rfl
      have ht := topD_sum 4196 rfl
      have hlt := i4 hk0
      have hM : (0 : Int) < ((2 ^ 4196 : Nat) : Int) := by have := Nat.two_pow_pos 4196; omega
      generalize ((2 ^ 4196 : Nat) : Int) = M at *
      have h2 : M * ((cntK 0 L : Nat) : Int) ≤ M * 1099511627776 := Int.mul_le_mul_of_nonneg_left (by omega) (by omega)
      have h3 : 0 ≤ M * ((cntK 0 L : Nat) : Int) := Int.mul_nonneg (by omega) (by omega)
      have hMin : InB M := by unfold InB; rw [hb]; omega
      have hPin : InB (M * ((cntK 0 L : Nat) : Int)) := by unfold InB; rw [hb]; omega
      rw [ht, mulD_comm, mulD_int hMin (by omega) (by omega) hPin, Option.getD_some, cmpY_sum hQ hPin, if_pos (by rw [Int.mul_comm]; exact hlt)]
      decide
    · obtain ⟨t, t1, t2, t3⟩ := intD_form (n := cntK 0 L) (by omega) (by omega)
      have hok := intD_ok (n := ((cntK 0 L : Nat) : Int)) (by omega)
      have hkm : (intD ((cntK 0 L : Nat) : Int)).m ≠ 0 := fun e => by rw [e, Nat.zero_mul] at t1; omega
      have hko := hok.odd hkm
      have hpt := Nat.two_pow_pos t
      have hkle : (intD ((cntK 0 L : Nat) : Int)).m ≤ cntK 0 L := by
        conv => rhs; rw [t1]
        exact Nat.le_mul_of_pos_right _ hpt
      have htle : 2 ^ t ≤ cntK 0 L := by
        conv => rhs; rw [t1]
        exact Nat.le_mul_of_pos_left _ (by omega)
      have ht41 : t < 41 := by
        have h41 : cntK 0 L < 2 ^ 41 := by omega
        exact (Nat.pow_lt_pow_iff_right (by omega : 1 < 2)).1 (Nat.lt_of_le_of_lt htle h41)
      have hbig : ∀ c, c = 4300 → 2 ^ 4238 < 2 ^ c ∧ cntK 0 L < 2 ^ c := by
        intro c hc
        subst hc
        have h42 : cntK 0 L < 2 ^ 42 := by omega
        exact ⟨Nat.pow_lt_pow_right (by omega) (by omega), Nat.lt_trans h42 (Nat.pow_lt_pow_right (by omega) (by omega))⟩
      obtain ⟨g1, g2⟩ := hbig 4300 rfl
      rw [mulD_odd hko b4 (Nat.lt_of_le_of_lt hkle g2) (Nat.lt_trans b5 g1) (by omega) (by omega), Option.getD_some, t3, hqneg]
      by_cases hA : sumI L = 0
      · rw [hA, sumD_zero]
        have e : (mulD Dy.zero Dy.zero).getD Dy.zero = Dy.zero := by unfold mulD; rw [show Dy.zero.m * Dy.zero.m = 0 from rfl, formD_zero]; split <;> rfl
        rw [e]
        unfold cmpY cmpD
        have e1 : sgD Dy.zero.neg Dy.zero.m = 0 := rfl
        have e2 : sgD (false != false) ((intD ((cntK 0 L : Nat) : Int)).m * (sumD (sqS L)).m) = 1 := by
          unfold sgD
          rw [if_neg (Nat.mul_ne_zero hkm (fun e => by rw [e] at b4; cases b4))]; rfl
        dsimp only
        rw [e1, e2, if_pos (by decide)]
        decide
      · obtain ⟨a, a1, a2, a3, a4, a5, a6⟩ := sumD_in hV' hA
        rw [mulD_odd a4 a4 (Nat.lt_trans a5 g1) (Nat.lt_trans a5 g1) (by omega) (by omega), Option.getD_some]
        have hvm : (sumD (sumI L)).m ≠ 0 := fun e => by rw [e] at a4; cases a4
        have hneg : ((sumD (sumI L)).neg != (sumD (sumI L)).neg) = false := by cases (sumD (sumI L)).neg <;> rfl
        unfold cmpY cmpD
        dsimp only
        rw [hneg]
        have e1 : sgD false ((sumD (sumI L)).m * (sumD (sumI L)).m) = 1 := by
          unfold sgD
          rw [if_neg (Nat.mul_ne_zero hvm hvm)]; rfl
        have e2 : sgD (false != false) ((intD ((cntK 0 L : Nat) : Int)).m * (sumD (sqS L)).m) = 1 := by
          unfold sgD
          rw [if_neg (Nat.mul_ne_zero hkm (fun e => by rw [e] at b4; cases b4))]; rfl
        rw [e1, e2, if_neg (by decide), if_neg (by decide), if_neg (by decide), Int.one_mul]
        refine cmpV_le (c := 4296) (A := a + a) (B := t + b + 2148) (by omega) (by omega) ?_
        -- from the bound on the squares
        have hsq : (sumI L).natAbs * (sumI L).natAbs ≤ cntK 0 L * ((sqS L).natAbs * 2 ^ 2148) := by
          have w1 : (((sumI L).natAbs * (sumI L).natAbs : Nat) : Int) = sumI L * sumI L := by rw [Int.natCast_mul, Int.natAbs_mul_self']
          have w2 : (((sqS L).natAbs : Nat) : Int) = sqS L := by omega
          have w3 : ((cntK 0 L * ((sqS L).natAbs * 2 ^ 2148) : Nat) : Int) = (cntK 0 L : Int) * (sqS L * ((2 ^ 2148 : Nat) : Int)) := by rw [Int.natCast_mul, Int.natCast_mul, w2]
          have := i5
          rw [← w1, ← w3] at this
          exact Int.ofNat_le.1 this
        rw [a1, b1] at hsq
        generalize hvM : (sumD (sumI L)).m = vm at *
        generalize hqM : (sumD (sqS L)).m = qm at *
        generalize hkM : (intD ((cntK 0 L : Nat) : Int)).m = km at *
        have r1 : vm * 2 ^ a * (vm * 2 ^ a) = vm * vm * 2 ^ (a + a) := by rw [Nat.pow_add]; ac_rfl
        have r2 := sh2 km qm t b 2148
        rw [r1] at hsq
        rw [← r2, ← t1]
        exact hsq
theorem Mk.back {S : Sh} {L : List Nat} (h : Mk S L) (hn : S.noE) : S.back := by
  refine ⟨h.wf hn, h.ex, hn, ?_, h.sums, h.ends⟩
  rw [h.fin.1, h.s]
  dsimp only
  omega
theorem Mk.dec {S : Sh} {L : List Nat} (h : Mk S L) (hn : S.noE) : decS (encS S) = some S := decS_encS (h.back hn)
end

/- A log's bytes, read again, are its records. No condition. -/
section
open Go Sx Wd Fl

theorem rdRec_laid {nm dat : List Nat} (rest : List Nat) (h1 : 1 ≤ nm.length) (h2 : nm.length ≤ 64) (hl : dat.length < 16777216) (hs : decS dat ≠ none) : rdRec (laidB nm dat ++ rest) = (0, nm, dat) := by
  obtain ⟨bs, hbs⟩ : ∃ bs, laidB nm dat ++ rest = bs := ⟨_, rfl⟩
  have e1 : bs = [nm.length % 256] ++ (nm ++ (leB dat.length 3 ++ (dat ++ (leB (fnv (recB nm dat)) 4 ++ rest)))) := by
    obtain ⟨F, hF⟩ : ∃ F, fnv (recB nm dat) = F := ⟨_, rfl⟩
    rw [← hbs]; unfold laidB; rw [hF]; unfold recB
    simp only [List.append_assoc]
  have e2 : bs = ([nm.length % 256] ++ nm) ++ (leB dat.length 3 ++ (dat ++ (leB (fnv (recB nm dat)) 4 ++ rest))) := by rw [e1, List.append_assoc]
  have e3 : bs = (([nm.length % 256] ++ nm) ++ leB dat.length 3) ++ (dat ++ (leB (fnv (recB nm dat)) 4 ++ rest)) := by rw [e2, List.append_assoc (_ ++ nm)]
  have e4 : bs = recB nm dat ++ (leB (fnv (recB nm dat)) 4 ++ rest) := by rw [← hbs]; unfold laidB; rw [List.append_assoc]
  have hlen : bs.length = 8 + nm.length + dat.length + rest.length := by rw [← hbs, List.length_append, laidB_len]
  have h0 : bs.getD 0 0 = nm.length := by
    rw [e1]; show nm.length % 256 = nm.length; exact Nat.mod_eq_of_lt (by omega)
  have hd1 : (bs.drop 1).take nm.length = nm := by
    rw [e1, List.drop_left' (by rfl), List.take_left' rfl]
  have hd2 : leV ((bs.drop (1 + nm.length)).take 3) = dat.length := by
    rw [e2, List.drop_left' (by rw [List.length_append]; rfl), List.take_left' (leB_len _ _), leV_leB]; exact Nat.mod_eq_of_lt (by omega)
  have hd3 : (bs.drop (4 + nm.length)).take dat.length = dat := by
    rw [e3, List.drop_left' (by simp only [List.length_append, leB_len, List.length_cons, List.length_nil]; omega), List.take_left' rfl]
  have hd4 : (bs.drop (4 + nm.length + dat.length)).take 4 = leB (fnv (recB nm dat)) 4 := by
    rw [e4, List.drop_left' (recB_len _ _), List.take_left' (leB_len _ _)]
  have hd5 : bs.take (4 + nm.length + dat.length) = recB nm dat := by
    rw [e4, List.take_left' (recB_len _ _)]
  unfold rdRec
  rw [hbs, h0, hd2, if_neg (by omega), if_neg (by omega), if_neg (by omega), hd4, hd5, if_neg (by simp), hd3, if_neg hs, hd1]
/-- Records that a log keeps, which read again. -/
structure GoodG (G : List RG) : Prop where
  g : ∀ g ∈ G, 1 ≤ (sB g.1).length ∧ (sB g.1).length ≤ 64 ∧ B8 g.2.1 ∧ decS g.2.1 ≠ none
  tot : totG G ≤ 1048576
theorem bytG_append (A B : List RG) : bytG (A ++ B) = bytG A ++ bytG B := by simp [bytG]
theorem bytG_at {G : List RG} {i : Nat} {g : RG} (h : G[i]? = some g) : (bytG G).drop (totG (G.take i)) = laidB (sB g.1) g.2.1 ++ bytG (G.drop (i + 1)) := by
  have hlt : i < G.length := (List.getElem?_eq_some_iff.1 h).1
  have e : G = G.take i ++ (g :: G.drop (i + 1)) := by
    conv => lhs; rw [← List.take_append_drop i G]
    rw [List.drop_eq_getElem_cons hlt]
    congr 2
    exact (List.getElem?_eq_some_iff.1 h).2
  have e2 : bytG G = bytG (G.take i) ++ (laidB (sB g.1) g.2.1 ++ bytG (G.drop (i + 1))) := by
    conv => lhs; rw [e]
    rw [bytG_append]; rfl
  rw [e2, List.drop_left' (bytG_len _)]
theorem bytG_B8 {G : List RG} (h : ∀ g ∈ G, B8 g.2.1) : B8 (bytG G) := by
  intro x hx
  obtain ⟨m, hm, hx⟩ := List.mem_flatten.1 hx
  obtain ⟨g, hg, rfl⟩ := List.mem_map.1 hm
  unfold laidB recB at hx
  exact ((((B8.append (fun x hx => by rw [List.mem_singleton.1 hx]; exact Nat.mod_lt _ (by decide)) (sB_lt g.1)).append (leB_B8 _ _)).append (h g hg)).append (leB_B8 _ _)) x hx
theorem totG_take_lt {G : List RG} {i : Nat} (h : i < G.length) : totG (G.take i) < totG G := by
  have h1 := totG_take G (i + 1)
  rw [List.take_add_one, List.getElem?_eq_getElem h] at h1
  simp only [Option.toList_some] at h1
  rw [totG_snoc] at h1
  unfold szG at h1
  omega
theorem GoodG.read {G : List RG} (h : GoodG G) {i : Nat} {g : RG} (hg : G[i]? = some g) : rdRec ((bytG G).drop (totG (G.take i))) = (0, sB g.1, g.2.1) := by
  obtain ⟨a, b, c, d⟩ := h.g g (List.mem_of_getElem? hg)
  have hs := szG_le (List.mem_of_getElem? hg)
  have ht := h.tot
  rw [bytG_at hg]
  exact rdRec_laid _ a b (by unfold szG at hs; omega) d
theorem GoodG.wk {G : List RG} (h : GoodG G) {R : List (ByteArray × List Nat)} {p : Nat} (hw : Wk (bytG G) R p) : ∃ i, i ≤ G.length ∧ R = tellG (G.take i) ∧ p = totG (G.take i) := by
  induction hw with
  | nil => exact ⟨0, Nat.zero_le _, rfl, rfl⟩
  | @step R p nm dat hw hp hr ih =>
    obtain ⟨i, hi, rfl, rfl⟩ := ih
    rw [bytG_len] at hp
    have hlt : i < G.length := by
      rcases Nat.lt_or_ge i G.length with q | q
      · exact q
      · rw [List.take_of_length_le q] at hp; omega
    obtain ⟨g, hg⟩ : ∃ g, G[i]? = some g := ⟨_, List.getElem?_eq_getElem hlt⟩
    rw [h.read hg] at hr
    injection hr with _ hr
    injection hr with h1 h2
    subst h1; subst h2
    refine ⟨i + 1, hlt, ?_, ?_⟩
    · rw [List.take_add_one, hg, Option.toList_some, tellG_snoc, bA_sB]
    · rw [List.take_add_one, hg, Option.toList_some, totG_snoc]; unfold szG; omega
theorem GoodG.all {G : List RG} (h : GoodG G) {R : List (ByteArray × List Nat)} (hw : Wk (bytG G) R (bytG G).length) : R = tellG G := by
  obtain ⟨i, hi, rfl, hp⟩ := h.wk hw
  rw [bytG_len] at hp
  rcases Nat.lt_or_ge i G.length with q | q
  · have := totG_take_lt q; omega
  · rw [List.take_of_length_le q]
theorem GoodG.good {G : List RG} (h : GoodG G) : ∀ R p, Wk (bytG G) R p → p < (bytG G).length → (rdRec ((bytG G).drop p)).1 = 0 := fun R p hw hp => by
  obtain ⟨i, hi, rfl, rfl⟩ := h.wk hw
  rw [bytG_len] at hp
  rcases Nat.lt_or_ge i G.length with q | q
  · obtain ⟨g, hg⟩ : ∃ g, G[i]? = some g := ⟨_, List.getElem?_eq_getElem q⟩
    rw [h.read hg]
  · rw [List.take_of_length_le q] at hp; omega
theorem tell_one {G : List RG} {nm : ByteArray} {d : List Nat} (h : tellG G = [(nm, d)]) : ∃ v, G = [(nm, d, v)] := by
  match G, h with
  | [(a, b, v)], h => cases h; exact ⟨v, rfl⟩
end

/- A log's bytes cut, or one of them changed: what is read. No condition. -/
section
open Go Sx Wd Fl

/-! ### The sum -/
/-! ### Reading on, up to a place -/
end

/- Store and steelyardlaw22: size, pick, first. No condition. -/
section
open Go Sx Wd Fl

namespace Sx
section
variable {P : Program} {s : Sl} {w : World} {ty : TypeId} {x : Operand}
theorem Ev.fieldAddrG {t : TypeId} {i off : Nat} {ad : Addr} [hF : HasFld P t i off] (hx : opnd s x = some (.pointer (some ad))) : Ev P s (.fieldAddr t x i) ty w (.pointer (some (ad.add off))) w := fun ρ d' pos af g hρ => by
  have h1 := hρ x _ hx
  have h2 := hF.run ad w
  simp [execOp, h1, h2]
end
end Sx
theorem GRc.ne_row {w : World} {e e' es es' lo lo' m m' : Nat} {X X' : List Nat} {v v' : Value} {l l' : List Value} (h : GRc w e es lo X v m l) (h' : GRc w e' es' lo' X' v' m' l') (hne : e ≠ e') : ∀ y ∈ v'.ownBlock.toList, v.ownBlock ≠ some y := fun y hy hv => by
  obtain ⟨c, hc⟩ := h.cells_ hv
  obtain ⟨c', hc'⟩ := h'.cells_ (Option.mem_toList.1 hy)
  rw [hc] at hc'
  simp at hc'
  exact hne hc'.2
theorem LgM.keepRow {lo : Nat} {w w' : World} {b : Nat} {G : List RG} {e es lo' m : Nat} {X : List Nat} {v : Value} {l : List Value} (h : LgM lo w b G) (hr : GRc w e es lo' X v m l) (hc : Chg v.ownBlock.toList w w') (h1 : e ≠ 194 := by decide) (h2 : e ≠ 121 := by decide) (h3 : e ≠ 5 := by decide) : LgM lo w' b G := by
  obtain ⟨⟨v0, a1, a2⟩, a3, a4⟩ := h
  refine ⟨⟨v0, a1.keep hc (hr.notMB a1 h1), a2.keepV hc (a2.ne_row hr (Ne.symm h2))⟩, fun g hg => ⟨(a3 g hg).1.keepV hc (hr.sep (a3 g hg).1 h3), (a3 g hg).2⟩, a4⟩
/-- A row of other cells, where a log's Append turns. -/
theorem GRc.keepLog {lo : Nat} {w w' : World} {b : Nat} {G : List RG} {e es lo' m : Nat} {X : List Nat} {v v0 t0 : Value} {l : List Value} (hr : GRc w e es lo' X v m l) (h : LgM lo w b G) (hv : BK w b 194 [v0, t0]) (hc : Chg (b :: v0.ownBlock.toList) w w') (h1 : e ≠ 194 := by decide) (h2 : e ≠ 121 := by decide) : GRc w' e es lo' X v m l := by
  obtain ⟨⟨vv, a1, a2⟩, _⟩ := h
  have e9 := BK.inj hv a1
  injection e9 with e9 _
  subst e9
  refine hr.keepV hc fun y hy => ?_
  rcases List.mem_cons.1 hy with rfl | hy
  · exact fun q => hr.notBK hv h1 q
  · exact hr.ne_row a2 h2 y hy

theorem stAppend2_spec (b lo : Nat) (G : List RG) (nm : ByteArray) (c : Nat) (S : Sh) (w0 w : World) (hL : LgM lo w b G) (hS : ShM 109 w c S) (hwf : S.wf) (hex : S.ex) (hch : Chg [b] w0 w) (hlo : w0.heap.size ≤ lo) (hlw : lo ≤ w.heap.size) : Ret Tryz.prog 67 [.pointer (some ⟨b, 0, none⟩), .string nm, .pointer (some ⟨c, 0, none⟩)] w fun u w' => ((((sB nm).length < 1 ∨ 64 < (sB nm).length) ∧ u = .int .i64 1 ∧ LgM lo w' b G ∧ Chg [b] w0 w') ∨ (¬ ((sB nm).length < 1 ∨ 64 < (sB nm).length) ∧ 1048576 < totG G + (8 + (sB nm).length + (encS S).length) ∧ u = .int .i64 2 ∧ LgM lo w' b G ∧ Chg [b] w0 w') ∨ (¬ ((sB nm).length < 1 ∨ 64 < (sB nm).length) ∧ totG G + (8 + (sB nm).length + (encS S).length) ≤ 1048576 ∧ u = .int .i64 0 ∧ (∃ dv, LgM lo w' b (G ++ [(nm, encS S, dv)])) ∧ Chg [b] w0 w')) ∧ ∃ v t, BK w b 194 [v, t] ∧ Chg (b :: v.ownBlock.toList) w w' := by
 have hwn : Chg [] w w := Chg.refl _ _;have hel := encS_len hex;obtain ⟨v0, t0, hv0, -⟩ := hL.blocks;refine zE3 Tryz.func67 rfl ?_;refine Sr fun _ kh1 => za rfl (zz (kh1 (zc fun _ kh3 => ?_)));refine CW.seqM 14 (decide ((sB nm).length < 1 ∨ 64 < (sB nm).length)) ?_ ?_
 ·refine zR fun _ kr4 => ?_;refine zm rfl ?_;refine WL.ev (Ev.lenS rfl) rfl ?_;refine WL.ev (Ev.lss rfl rfl) rfl ?_;refine zm rfl ?_;refine zb ?_ ?_<;>intro hg1<;>try simp only [qs] at hg1
  ·refine zv rfl (zv rfl (zv rfl (zt rfl rfl ?_)));refine WL.nil (kr4 _ _ _ ?_);refine ⟨rfl, rfl, Subs.consB rfl ?_ ?_⟩
   ·first | (refine (decide_eq_true (.inl ?_)).symm; omega) | (refine decide_eq_decide.2 ?_; omega)
   ·exact SMg
  ·refine zw rfl (zm rfl (zw rfl ?_));refine WL.ev (Ev.lenS rfl) rfl ?_
   refine zw rfl ?_;refine WL.ev (Ev.gtr rfl rfl) rfl ?_;refine ze rfl rfl ?_;refine WL.nil (kr4 _ _ _ ?_);refine ⟨rfl, rfl, Subs.consB rfl ?_ ?_⟩
   ·first | (refine (decide_eq_true (.inl ?_)).symm; omega) | (refine decide_eq_decide.2 ?_; omega)
   ·exact SMg
 ·refine zy rfl ?_ ?_<;>intro hc2<;>try simp only [qs] at hc2
  ·have hbad : (sB nm).length < 1 ∨ 64 < (sB nm).length := hc2
   refine Sr fun _ kh5 => za rfl (zz (kh5 ?_));refine zr (zr1 rfl rfl ?_);exact ⟨.inl ⟨hbad, rfl, hL, hch⟩, v0, t0, hv0, Chg.any hwn⟩
  ·have hbad : ¬ ((sB nm).length < 1 ∨ 64 < (sB nm).length) := hc2
   refine zkk ?_;refine kh3 (zc fun _ kh7 => Sr fun _ kh8 => zm rfl (zm rfl (zm rfl ?_)));refine WL.call hasF14 rfl rfl (shEncode_spec c S _ (hS.keep0 hwn) hwf hex) fun v w1 h' => ?_;obtain ⟨hge, hC⟩ := h';obtain ⟨ae, ce, rfl, hcape, hre⟩ := hge.row;have hgd := hge.mono (lo' := 0) (X' := []) (Nat.zero_le _) (by simp);have hch := hch.ta hC;have hwn := hwn.ta hC;have hL := hL.keep0 hC;refine WL.ev (Ev.build (vs := _) (cs := [_, _]) rfl rfl) rfl ?_;refine WL.call hasF72 rfl rfl (stAdd_spec b lo G nm ae (encS S) ce w0 _ hL hgd (encS_B8 S) (by omega) (by omega) hch hlo (Nat.le_trans hlw hwn.size)) fun v w2 h' => ?_;obtain ⟨h', v1, t1, hv1, hX⟩ := h';have hev := BK.inj (hv0.keep0 hwn) hv1
   injection hev with hev hev2
   subst hev;have hXw := (Chg.any hwn).trans hX;rcases h' with ⟨hgt, rfl, hL, hch⟩ | ⟨hgt, rfl, hL, hch⟩
   ·unfold szG at hgt;dsimp only at hgt;refine WL.ev (Ev.not rfl) rfl ?_;refine zz (kh8 ?_);refine CW.condT rfl ?_;refine Sr fun _ kh10 => za rfl (zz (kh10 ?_));refine zr (zr1 rfl rfl ?_);exact ⟨.inr (.inl ⟨hbad, by omega, rfl, hL, hch⟩), v0, t0, hv0, hXw⟩
   ·unfold szG at hgt;dsimp only at hgt;refine WL.ev (Ev.not rfl) rfl ?_;refine zz (kh8 ?_);refine CW.condF rfl ?_;refine zkk ?_;refine kh7 (Sr fun _ kh12 => za rfl (zz (kh12 ?_)));refine zr (zr1 rfl rfl ?_);exact ⟨.inr (.inr ⟨hbad, by omega, rfl, ⟨_, hL⟩, hch⟩), v0, t0, hv0, hXw⟩

end

/- Package steelyardlaw22: laid. No condition. -/
section
open Go Sx Wd Fl

theorem RW.pair {w : World} {a : Option Addr} {P : List RG} (h : RW w a (recC P)) {i : Nat} {g : RG} (hg : P[i]? = some g) : ∃ ad, a = some ad ∧ ∀ j v, [Value.string g.1, g.2.2][j]? = some v → w.cell? ((ad.add ((i : Int).toNat * 2)).add j) = some v := by
  obtain ⟨h1, h2⟩ := recC_at hg
  obtain ⟨ad, e1, c1⟩ := h _ _ h1
  obtain ⟨ad2, e2, c2⟩ := h _ _ h2
  refine ⟨ad, e1, fun j v hv => ?_⟩
  rw [e1] at e2
  cases e2
  rw [addr_add2]
  match j, hv with
  | 0, hv => cases hv; rw [show (i : Int).toNat * 2 + 0 = 2 * i by omega]; exact c1
  | 1, hv => cases hv; rw [show (i : Int).toNat * 2 + 1 = 2 * i + 1 by omega]; exact c2
/-- Asked records: names and numbers, as they lie. -/
def PutM (w : World) (P : List RG) : Prop := ∀ g ∈ P, NF w g.2.2 g.2.1
theorem GoodG.nil : GoodG [] := ⟨(fun g hg => by cases hg), by decide⟩
theorem GoodG.snoc {G : List RG} {nm : ByteArray} {S : Sh} {dv : Value} (h : GoodG G) (hn : ¬ ((sB nm).length < 1 ∨ 64 < (sB nm).length)) (hd : decS (encS S) = some S) (ht : totG (G ++ [(nm, encS S, dv)]) ≤ 1048576) : GoodG (G ++ [(nm, encS S, dv)]) := by
  refine ⟨fun g hg => ?_, ht⟩
  rcases List.mem_append.1 hg with hg | hg
  · exact h.g g hg
  · rw [List.mem_singleton.1 hg]
    exact ⟨by dsimp only; omega, by dsimp only; omega, encS_B8 S, by dsimp only; rw [hd]; simp⟩

end

/- errors.As at the program's own kind of error. Lines of a worked proof, turned to this claim. -/
section
open Go Sx Go.RowKit Go.Extern.Stop Go.Stop Go.Extern
set_option maxRecDepth 200000

end

/- errors.Is at the program's own kind of error. Lines of a worked proof, turned to this claim. -/
section
open Go Sx Go.RowKit Go.Extern.Stop Go.Stop Go.Extern
set_option maxRecDepth 200000

end

/- Store: errors told. No condition. -/
section
open Go Sx Wd Fl

/-- The store's errors and errors.As's own type, as they lie. -/
structure GF (w : World) (ea : Nat → Addr) : Prop where
  ge : GE w (evV ea)
  cell : ∀ c, 1 ≤ c → c ≤ 4 → ∃ cs t, w.heap[(ea c).block]? = some (.cells cs t (0, 0))
  ne : ∀ c d, 1 ≤ c → c ≤ 4 → 1 ≤ d → d ≤ 4 → c ≠ d → ea c ≠ ea d
  et : w.cell? ⟨1, 0, none⟩ = some (.iface 302 (.agg #[.pointer (some ⟨7, 123, none⟩)]))
namespace Sx
section
variable {r : Option Nat} {P : Program} {A : AQ} {n : Nat} {D : List Deferred} {s : Sl} {w : World}
variable {ops : Array Oper} {K : KK} {fuel : Nat} {listed : Array Bool} {pos : String} {af : Array Edge} {ty : TypeId}
end
end Sx

end

/- Store: Replay of any bytes. No condition. -/
section
open Go Sx Wd Fl

end

/- Package steelyardlaw22: live. No condition. -/
section
open Go Sx Wd Fl

def l12 : List Nat := [4607182418800017408, 4611686018427387904]
theorem ex12 : (oneL l12).ex := by constructor <;> decide +kernel
theorem w12 : ∀ x ∈ l12, x < 18446744073709551616 := by decide
theorem back12 : (oneL l12).back := ⟨(oneL_ok w12).1, ex12, fun h => absurd (by decide +kernel : (oneL l12).some) h, by decide +kernel, by decide +kernel, fun _ => by decide +kernel⟩
theorem dec12 : decS (encS (oneL l12)) = some (oneL l12) := decS_encS back12
theorem tot12 (nm : ByteArray) (dv : Value) : totW nm [(nm, encS (oneL l12), dv)] = .ok (Sh.zero.merge (oneL l12), true) := by
  have h : ¬ 1099511627776 < Sh.zero.s.al + (oneL l12).s.al := by decide +kernel
  show totStep nm (.ok (Sh.zero, false)) (nm, encS (oneL l12), dv) = _
  unfold totStep
  dsimp only
  rw [if_pos rfl, dec12]
  dsimp only
  rw [if_neg h]
theorem al12 : (Sh.zero.merge (oneL l12)).s.al = 2 := by decide +kernel
theorem sBa : sB ⟨#[97]⟩ = [97] := by decide
theorem enc12_len : 58 ≤ (encS (oneL l12)).length := by
  unfold encS
  simp only [List.length_append, leB_len, encD_len]
  omega
theorem good12 (dv : Value) : GoodG [(⟨#[97]⟩, encS (oneL l12), dv)] := by
  refine ⟨fun g hg => ?_, ?_⟩
  · rw [List.mem_singleton.1 hg]
    dsimp only
    rw [sBa, dec12]
    exact ⟨by decide, by decide, encS_B8 _, by simp⟩
  · have := encS_len ex12
    show szG _ + 0 ≤ _
    unfold szG
    dsimp only
    rw [sBa]
    simp only [List.length_cons, List.length_nil]
    omega

theorem l22live_spec (w : World) (ea : Nat → Addr) (hg0 : GW w) (hE0 : GE w (evV ea)) : Ret Tryz.prog 15 [] w fun u w' => u = .bool true ∧ Chg [] w w' := by
 have hch : Chg [] w w := Chg.refl _ _;refine zE0 Tryz.func15 rfl ?_;refine Sr fun _ kh1 => za rfl (zz (kh1 (Sr fun _ kh3 => ?_)));refine WL.call hasF66 rfl rfl (stNew_spec _) fun v w1 h' => ?_;obtain ⟨⟨bl, rfl, hbl0, hgel⟩, hC⟩ := h';have hL : LgM w.heap.size _ bl [] := LgM.new hbl0;have hch := hch.ta hC;refine za rfl (zz (kh3 (Sr fun _ kh5 => ?_)));refine WL.buildSlice (m := 2) (cs := [f64v (4607182418800017408), f64v (4611686018427387904)]) (by decide) (by decide) rfl (by kernel_rfl) rfl fun b11 w11 hn11 => ?_;have hcm11 := hn11.chg;have hge11 := hn11.ge;have hb11 : FB w11 b11 _ [4607182418800017408, 4611686018427387904] := hn11.at_;have hgehch11 := Nat.le_trans hch.size hge11;have hch := hch.ta hcm11;have hL := hL.keep0 hcm11;refine WL.call hasF45 rfl rfl (l22one_spec _ l12 2 _ hb11.row w12 (by decide) (hg0.keep hch (fun b hb => by cases hb))) fun v w2 h' => ?_;obtain ⟨⟨bs1, rfl, hbs, hges⟩, hC⟩ := h';have hch := hch.ta hC;have hL := hL.keep0 hC;refine za rfl (zz (kh5 (zc fun _ kh7 => Sr fun _ kh8 => zm rfl ?_)));refine WL.ev (Ev.eqlPtrNil rfl rfl) rfl ?_;refine zm rfl (zw rfl (zm rfl (zw rfl ?_)));refine WL.ev (Ev.eqlPtrNil rfl rfl) rfl ?_;refine ze rfl rfl (zz (kh8 ?_));refine CW.condF rfl ?_;refine zkk ?_;refine kh7 (Sr fun _ kh10 => zm rfl (zm rfl ?_));refine WL.call hasF67 rfl rfl (stAppend_spec bl w.heap.size [] ⟨#[97]⟩ bs1 _ w _ hL hbs (oneL_ok w12).1 ex12 (Chg.any hch) (Nat.le_refl _) hch.size) fun v w3 h' => ?_;rcases h' with ⟨hbad, _⟩ | ⟨_, hbig, _⟩ | ⟨_, hle, rfl, ⟨dv, hL⟩, hch⟩
 · rw [sBa] at hbad; exact absurd hbad (by decide)
 · have := encS_len ex12; rw [sBa] at hbig; simp only [totG, List.map_nil, List.sum_nil, List.length_cons, List.length_nil] at hbig; omega
 have hch := hch.drop hgel;rw [List.nil_append] at hL;refine za rfl (zz (kh10 (Sr fun _ kh12 => zm rfl ?_)));refine WL.call hasF68 rfl rfl (stBytes_spec bl w.heap.size [(⟨#[97]⟩, encS (oneL l12), dv)] _ hL) fun v w4 h' => ?_;obtain ⟨hgb, hC⟩ := h';have hGd := good12 dv;have hbl58 := enc12_len;have hlenB := bytG_len [(⟨#[97]⟩, encS (oneL l12), dv)];have htotB : totG [(⟨#[97]⟩, encS (oneL l12), dv)] = 9 + (encS (oneL l12)).length := by show szG _ + 0 = _; unfold szG; dsimp only; rw [sBa]; rfl
 have htB := hGd.tot;have hB0 : (bytG [(⟨#[97]⟩, encS (oneL l12), dv)]).getD 0 0 = 1 := rfl;have hB1 : (bytG [(⟨#[97]⟩, encS (oneL l12), dv)]).getD 1 0 = 97 := rfl;obtain ⟨bs, hbs⟩ : ∃ bs, bytG [(⟨#[97]⟩, encS (oneL l12), dv)] = bs := ⟨_, rfl⟩;rw [hbs] at hgb hlenB hB0 hB1;obtain ⟨a23, c23, rfl, hcap23, hr23⟩ := hgb.row;have hch := hch.ta hC;refine za rfl (zz (kh12 (Sr fun _ kh14 => zm rfl ?_)));refine WL.call hasF16 rfl rfl (stReplayOk_spec a23 bs c23 _ ea hr23 hcap23 (by rw [← hbs]; exact bytG_B8 (fun g hg => (hGd.g g hg).2.2.1)) (by omega) (hE0.keep0 hch) (hg0.keep hch (fun b hb => by cases hb)) (by rw [← hbs]; exact hGd.good)) fun v w5 h' => ?_;obtain ⟨⟨bl2, G2, rfl, hWk, hL2, hge2⟩, hC⟩ := h';obtain ⟨dv2, rfl⟩ := tell_one (by rw [← hbs] at hWk; exact (hGd.all hWk : tellG G2 = tellG [(⟨#[97]⟩, encS (oneL l12), dv)]));have hch := hch.ta hC;have hr23 := hr23.keep0 hC;refine zm rfl (zx rfl rfl (zx rfl rfl (zx rfl rfl (za rfl (za rfl (za rfl (zz (kh14 (zc fun _ kh16 => Sr fun _ kh17 => zm rfl ?_)))))))));refine WL.ev (Ev.neq rfl rfl) rfl ?_;rw [decide_eq_false (by simp)];refine zm rfl (zw rfl (zm rfl (zw rfl ?_)));refine WL.ev (Ev.neq rfl rfl) rfl ?_;rw [decide_eq_false (by simp)];refine ze rfl rfl (zm rfl (zw rfl (zm rfl (zw rfl ?_))));refine WL.ev (Ev.eqlPtrNil rfl rfl) rfl ?_;refine ze rfl rfl (zm rfl (zw rfl (zm rfl (zw rfl (zm rfl (zw rfl (zn rfl (zw rfl ?_))))))));refine WL.ev (Ev.neq rfl rfl) rfl ?_;rw [decide_eq_false (by simp)];refine ze rfl rfl (zm rfl (zw rfl (zm rfl (zw rfl ?_))));refine WL.ev (Ev.lss rfl rfl) rfl ?_;rw [decide_eq_false (by omega)];refine ze rfl rfl (zz (kh17 ?_));refine CW.condF rfl ?_;refine zkk ?_;refine kh16 (Sr fun _ kh19 => zm rfl ?_);refine WL.call hasF44 rfl rfl (stTotal_spec bl2 _ _ ⟨#[97]⟩ _ hL2 (hg0.keep hch (fun b hb => by cases hb))) fun v w6 h' => ?_;obtain ⟨hu, hC⟩ := h';rw [tot12] at hu;rcases hu with ⟨S, bt, hS, rfl, hbt, hwt, _⟩ | ⟨S, hS, _⟩ | ⟨e, hS, _⟩
 rotate_left
 · cases hS
 · cases hS
 obtain rfl : Sh.zero.merge (oneL l12) = S := by injection hS with hS; injection hS
 have hch := hch.ta hC;have hr23 := hr23.keep0 hC;refine zm rfl (zx rfl rfl (zx rfl rfl (za rfl (za rfl (zz (kh19 (Sr fun _ kh21 => zm rfl (zq rfl rfl (zm rfl (zw rfl (zm rfl (zw rfl ?_))))))))))));refine WL.ev (Ev.neqPtrNil rfl rfl) rfl ?_;refine zt rfl rfl (zm rfl (zw rfl (zm rfl (zw rfl ?_))));refine WL.call hasF34 rfl rfl (Count_spec_ bt _ _ hbt hwt.1) fun v w7 h' => ?_;obtain ⟨rfl, hC⟩ := h';rw [al12];have hch := hch.ta hC;have hr23 := hr23.keep0 hC;refine zw rfl (zq rfl rfl (zt rfl rfl (zm rfl (zw rfl (zm rfl (zw rfl ?_))))));refine WL.ev (Ev.ixR (0) rfl rfl hr23 (by omega) (by omega) (by simp; omega)) rfl ?_;refine zw rfl ?_;refine WL.ev (Ev.load rfl rfl (hr23.u8 (by omega))) rfl ?_;rw [hB0];refine zw rfl (zq rfl rfl (zt rfl rfl (zm rfl (zw rfl (zm rfl (zw rfl ?_))))));refine WL.ev (Ev.ixR (1) rfl rfl hr23 (by omega) (by omega) (by simp; omega)) rfl ?_;refine zw rfl ?_;refine WL.ev (Ev.load rfl rfl (hr23.u8 (by omega))) rfl ?_;rw [hB1];refine zw rfl (zq rfl rfl (zt rfl rfl (za rfl (zz (kh21 ?_)))));refine zr (zr1 rfl rfl ?_);exact ⟨rfl, hch⟩

end

/- The law StoreCuts. No condition. -/
section
open Go Sx Wd Fl

namespace Sx
section
variable {P : Program} {ops : Array Oper} {K : KK} {fuel : Nat} {listed : Array Bool} {n : Nat} {D : List Deferred} {s : Sl} {w : World} {ty : TypeId} {pos : String} {af : Array Edge} {d : Nat} {op : Op} {v : Value} {S : World → Prop}
end
end Sx
namespace Sx
theorem Ev.eqlStr {P : Program} {s : Sl} {w : World} {ty : TypeId} {x y : Operand} {t t' : TypeId} {a b : ByteArray} (hx : opnd s x = some (.string a)) (hy : opnd s y = some (.string b)) : Ev P s (.binOp .eql t x y t') ty w (.bool (decide (a = b))) w := fun ρ d pos af g hρ => by
  have e1 := hρ x _ hx
  have e2 := hρ y _ hy
  have e3 : (a.toList == b.toList) = decide (a = b) := by
    rw [ByteArray.toList_eq, ByteArray.toList_eq]
    by_cases h : a = b
    · subst h; simp
    · have : a.data.toList ≠ b.data.toList := fun q => h (by cases a; cases b; congr 1; exact Array.ext' q)
      rw [decide_eq_false h, beq_eq_false_iff_ne.2 this]
  simp [execOp, e1, e2, eqGuard, binOp_string_eql, e3]
end Sx
theorem tellG_len (G : List RG) : (tellG G).length = G.length := by unfold tellG; rw [List.length_map]
end

/- Names, each once; totals of records that are shards of lists. No condition. -/
section
open Go Sx Wd Go.Sort Fl

/-! ### Names -/
theorem compact_mem {zs : List (List UInt8)} {x : List UInt8} (h : x ∈ Lib.compact zs) : x ∈ zs := by
  unfold Lib.compact Lib.compactUpTo at h
  obtain ⟨j, hj, rfl⟩ := List.mem_map.1 h
  have hj1 := List.mem_range.1 (List.mem_filter.1 hj).1
  rw [getElem!_pos _ j (by simpa using hj1)]
  simp
theorem nmL_mem {G : List RG} {x : List UInt8} (h : x ∈ nmL G) : ∃ g ∈ G, g.1 = ⟨x.toArray⟩ := by
  have h1 := compact_mem h
  have h2 := (List.mergeSort_perm (nmS G) leS).mem_iff.1 h1
  obtain ⟨g, hg, rfl⟩ := List.mem_map.1 h2
  refine ⟨g, hg, ?_⟩
  cases g.1
  simp
theorem nmL_len (G : List RG) : (nmL G).length ≤ G.length := by
  have h1 := Lib.compact_length_le ((nmS G).mergeSort leS)
  rw [List.length_mergeSort] at h1
  unfold nmL
  have : (nmS G).length = G.length := by unfold nmS; rw [List.length_map]
  omega
/-! ### Totals -/
/-- Records that are shards of lists, so many numbers in all. -/
inductive GM : List RG → Nat → Prop
  | nil : GM [] 0
  | snoc {G : List RG} {M : Nat} {nm : ByteArray} {S : Sh} {L : List Nat} {dv : Value} : GM G M → Mk S L → S.noE → GM (G ++ [(nm, encS S, dv)]) (M + L.length)
theorem totW_snoc (nm : ByteArray) (G : List RG) (g : RG) : totW nm (G ++ [g]) = totStep nm (totW nm G) g := by
  unfold totW; rw [List.foldl_append]; rfl
/-- A name's total. -/
def totS (nm : ByteArray) (G : List RG) : Sh := match totW nm G with
  | .ok (S, _) => S
  | .error _ => Sh.zero
/-- What a log is, whose names all have totals. -/
structure CpG (G : List RG) : Prop where
  t : ∀ x ∈ nmL G, totW ⟨x.toArray⟩ G = .ok (totS ⟨x.toArray⟩ G, true) ∧ (totS ⟨x.toArray⟩ G).wf ∧ (totS ⟨x.toArray⟩ G).ex ∧ decS (encS (totS ⟨x.toArray⟩ G)) = some (totS ⟨x.toArray⟩ G) ∧ (totS ⟨x.toArray⟩ G).noE ∧ (totS ⟨x.toArray⟩ G).s.al ≤ 1099511627776
  n : ∀ x ∈ nmL G, 1 ≤ (sB ⟨x.toArray⟩).length ∧ (sB ⟨x.toArray⟩).length ≤ 64
  len : G.length ≤ 100
end

/- Package steelyardlaw22: laid, by lists; Compact. No condition. -/
section
open Go Sx Wd Go.Sort Fl

def lenP (P : List RG) : Nat := (P.map fun g => g.2.1.length).sum
theorem lenP_step {P : List RG} {i : Nat} {g : RG} (h : P[i]? = some g) : lenP (P.take (i + 1)) = lenP (P.take i) + g.2.1.length := by
  rw [List.take_add_one, h]
  simp [lenP]
theorem lenP_take_le (P : List RG) (i : Nat) : lenP (P.take i) ≤ lenP P := by
  have : lenP P = lenP (P.take i) + lenP (P.drop i) := by
    unfold lenP
    rw [← List.sum_append, ← List.map_append, List.take_append_drop]
  omega
theorem Mk.oneL2 {l : List Nat} (hw : ∀ x ∈ l, x < 18446744073709551616) (hn : l.length ≤ 1099511627776) : Mk (Go.Proofs.YtnbipejaidbihaaGreatDoor.oneL l) l ∧ (Go.Proofs.YtnbipejaidbihaaGreatDoor.oneL l).noE := by
  have key : ∀ (l : List Nat) (S : Sh) (L : List Nat), Mk S L → S.noE → (∀ x ∈ l, x < 18446744073709551616) → L.length + l.length ≤ 1099511627776 → Mk (l.foldl oneStep S) (L ++ l) ∧ (l.foldl oneStep S).noE := by
    intro l
    induction l with
    | nil => intro S L h1 h2 _ _; rw [List.append_nil]; exact ⟨h1, h2⟩
    | cons x l ih =>
      intro S L h1 h2 hw hn
      rw [List.length_cons] at hn
      have hx := hw x (List.mem_cons_self ..)
      have hw' := fun y hy => hw y (List.mem_cons_of_mem _ hy)
      have e : oneStep S x = S.merge (Sh.one x) := by
        unfold oneStep
        rw [if_neg (by rw [h1.s]; dsimp only; omega)]
      show Mk (l.foldl oneStep (oneStep S x)) (L ++ x :: l) ∧ (l.foldl oneStep (oneStep S x)).noE
      rw [e, show L ++ x :: l = (L ++ [x]) ++ l by simp]
      exact ih _ _ (h1.merge (Mk.one hx) (by rw [List.length_singleton]; omega)) (h1.noE (Mk.one hx) h2) hw' (by rw [List.length_append, List.length_singleton]; omega)
  exact key l Sh.zero [] Mk.zero (fun _ => ⟨rfl, rfl⟩) hw (by simpa using hn)
theorem GRc.at1 {w : World} {e lo i m c : Nat} {X : List Nat} {a : Option Addr} {l : List Value} {v : Value} (h : GRc w e 1 lo X (.slice a m c) m l) (hg : l[i]? = some v) : ∃ q, a = some ⟨q, 0, none⟩ ∧ w.cell? ⟨q, 0 + (i : Int).toNat * 1, none⟩ = some v := by
  rcases own_cases h.1 with ⟨_, _, hx⟩ | ⟨q, cap, e1, _, _, hcell⟩
  · rw [hx] at hg; simp at hg
  · cases e1
    refine ⟨q, rfl, ?_⟩
    rw [show 0 + (i : Int).toNat * 1 = i by omega]
    exact hcell _ _ hg
theorem GRc.mono00 {w : World} {e es lo m : Nat} {v : Value} {l : List Value} (h : GRc w e es lo [] v m l) : GRc w e es 0 [] v m l := ⟨h.1, fun b hb => ⟨Nat.zero_le _, (h.2 b hb).2⟩⟩
theorem ok_inj {S T : Sh} {a b : Bool} (h : (Except.ok (S, a) : Except Nat (Sh × Bool)) = .ok (T, b)) : S = T := by injection h with h; injection h
theorem ok_tf {S T : Sh} : (Except.ok (S, true) : Except Nat (Sh × Bool)) ≠ .ok (T, false) := fun h => by injection h with h; injection h with _ h; cases h
theorem ok_err {S : Sh × Bool} {e : Nat} : (Except.ok S : Except Nat (Sh × Bool)) ≠ .error e := fun h => by cases h
namespace Sx
theorem wpAnyH_sub {P : Program} {md : Region.Mode} {ops : Array Oper} {Q : Exit → Act → World → Prop} {S S' : World → Prop} (hSS : ∀ w, S' w → S w) : ∀ (fuel : Nat) (listed : Array Bool) (a : Act) (w : World), wpAnyH P md ops Q S' fuel listed a w → wpAnyH P md ops Q S fuel listed a w
  | 0, _, _, _, h => h
  | fuel + 1, _, _, _, h => ⟨h.1, fun i hi => wpOp_mono (fun a' w' h' => ⟨hSS _ h'.1, wpAnyH_sub hSS fuel _ a' w' h'.2⟩) (h.2 i hi)⟩
theorem WH.narrow {P : Program} {ops : Array Oper} {K : KK} {S S' : World → Prop} {fuel : Nat} {listed : Array Bool} {n : Nat} {D : List Deferred} {s : Sl} {w : World} (hSS : ∀ w, S' w → S w) (k : WH P ops K S' fuel listed n D s w) : WH P ops K S fuel listed n D s w := fun a ha => wpAnyH_sub hSS _ _ _ _ (k a ha)
end Sx

end

/- A shard of some numbers does not hang on their order. No condition. -/
section
open Go Sx Wd Fl

theorem sumI_perm2 {L K : List Nat} (h : L.Perm K) : sumI L = sumI K := by
  induction h with
  | nil => rfl
  | cons x _ ih =>
    have e : ∀ M, sumI (x :: M) = fvI x + sumI M := fun M => by simp [sumI]
    rw [e, e, ih]
  | swap x y l =>
    have e : ∀ z M, sumI (z :: M) = fvI z + sumI M := fun z M => by simp [sumI]
    rw [e, e, e, e]; omega
  | trans _ _ i1 i2 => exact i1.trans i2
theorem sqS_perm {L K : List Nat} (h : L.Perm K) : sqS L = sqS K := by
  induction h with
  | nil => rfl
  | cons x _ ih =>
    have e : ∀ M, sqS (x :: M) = sqI x + sqS M := fun M => by simp [sqS]
    rw [e, e, ih]
  | swap x y l =>
    have e : ∀ z M, sqS (z :: M) = sqI z + sqS M := fun z M => by simp [sqS]
    rw [e, e, e, e]; omega
  | trans _ _ i1 i2 => exact i1.trans i2
theorem cntK_perm {L K : List Nat} (j : Nat) (h : L.Perm K) : cntK j L = cntK j K := (h.filter _).length_eq
theorem key_inj5 {x y : Nat} (hx : x < 18446744073709551616) (hy : y < 18446744073709551616) (h1 : kindP x ≠ 5) (h2 : kindP y ≠ 5) (h : key x = key y) : x = y := by
  obtain ⟨_, _, k1⟩ := key5 hx h1
  obtain ⟨_, _, k2⟩ := key5 hy h2
  rw [k1, k2] at h
  split at h <;> split at h <;> omega
theorem Mk.perm {S T : Sh} {L K : List Nat} (h : Mk S L) (g : Mk T K) (hp : L.Perm K) (hS : S.noE) (hT : T.noE) : S = T := by
  have es : S.s = T.s := by
    rw [h.s, g.s, cntK_perm 5 hp, cntK_perm 3 hp, cntK_perm 4 hp, cntK_perm 1 hp, cntK_perm 2 hp, hp.length_eq]
  have eV : S.V = T.V := by rw [h.V, g.V, sumI_perm2 hp]
  have eQ : S.Q = T.Q := by rw [h.Q, g.Q, sqS_perm hp]
  have hc := cntK_perm 5 hp
  have hl := hp.length_eq
  have el : S.lo = T.lo ∧ S.hi = T.hi := by
    rcases h.e with he | ⟨a1, a2, a3, a4, a5⟩
    · obtain ⟨z1, z2⟩ := hS (fun q => by have := h.some_iff.1 q; omega)
      obtain ⟨z3, z4⟩ := hT (fun q => by have := g.some_iff.1 q; omega)
      rw [z1, z2, z3, z4]
      exact ⟨rfl, rfl⟩
    · rcases g.e with ge | ⟨b1, b2, b3, b4, b5⟩
      · exact absurd (all_nan (by omega) _ a1) a2
      · have u1 := b5 _ (hp.mem_iff.1 a1) a2
        have u2 := a5 _ (hp.mem_iff.2 b1) b2
        have u3 := b5 _ (hp.mem_iff.1 a3) a4
        have u4 := a5 _ (hp.mem_iff.2 b3) b4
        exact ⟨key_inj5 (h.w _ a1) (g.w _ b1) a2 b2 (by omega), key_inj5 (h.w _ a3) (g.w _ b3) a4 b4 (by omega)⟩
  obtain ⟨s, V, Q, lo, hi⟩ := S
  obtain ⟨s', V', Q', lo', hi'⟩ := T
  obtain ⟨e1, e2⟩ := el
  dsimp only at es eV eQ e1 e2
  subst es; subst eV; subst eQ; subst e1; subst e2
  rfl
end

/- Package steelyardlaw22: laid, with what was kept. No condition. -/
section
open Go Sx Wd Go.Sort Fl

/-- Records that are shards of lists, name by name. -/
inductive GL : List RG → List (ByteArray × List Nat) → Prop
  | nil : GL [] []
  | snoc {G : List RG} {Ls : List (ByteArray × List Nat)} {nm : ByteArray} {S : Sh} {L : List Nat} {dv : Value} : GL G Ls → Mk S L → S.noE → GL (G ++ [(nm, encS S, dv)]) (Ls ++ [(nm, L)])
/-- The numbers of one name, in the records' order. -/
def catN (nm : ByteArray) (Ls : List (ByteArray × List Nat)) : List Nat := (Ls.filter fun p => decide (p.1 = nm)).flatMap (·.2)
def lenL (Ls : List (ByteArray × List Nat)) : Nat := (Ls.map fun p => p.2.length).sum
theorem catN_snoc (nm : ByteArray) (Ls : List (ByteArray × List Nat)) (p : ByteArray × List Nat) : catN nm (Ls ++ [p]) = catN nm Ls ++ (if p.1 = nm then p.2 else []) := by
  unfold catN
  rw [List.filter_append, List.flatMap_append]
  by_cases h : p.1 = nm <;> simp [h]
theorem lenL_snoc (Ls : List (ByteArray × List Nat)) (p : ByteArray × List Nat) : lenL (Ls ++ [p]) = lenL Ls + p.2.length := by simp [lenL]
theorem catN_le (nm : ByteArray) (Ls : List (ByteArray × List Nat)) : (catN nm Ls).length ≤ lenL Ls := by
  induction Ls with
  | nil => exact Nat.le_refl _
  | cons p Ls ih =>
    unfold catN lenL at *
    rw [List.filter_cons, List.map_cons, List.sum_cons]
    split
    · rw [List.flatMap_cons, List.length_append]; omega
    · omega
theorem GL.tot {G : List RG} {Ls : List (ByteArray × List Nat)} (h : GL G Ls) (nm : ByteArray) (hM : lenL Ls ≤ 1099511627776) : ∃ S a, totW nm G = .ok (S, a) ∧ Mk S (catN nm Ls) ∧ S.noE ∧ (a = true ↔ ∃ g ∈ G, g.1 = nm) := by
  induction h with
  | nil => exact ⟨Sh.zero, false, rfl, Mk.zero, (fun _ => ⟨rfl, rfl⟩), by simp⟩
  | @snoc G Ls nm' U L dv hG hMk hno ih =>
    rw [lenL_snoc] at hM
    dsimp only at hM
    obtain ⟨S, a, e, hS, hn, ha⟩ := ih (by omega)
    have hle := catN_le nm Ls
    rw [totW_snoc, e, catN_snoc]
    unfold totStep
    dsimp only
    by_cases q : nm' = nm
    · rw [if_pos q, if_pos q, hMk.dec hno]
      dsimp only
      have al1 : S.s.al = (catN nm Ls).length := by rw [hS.s]
      have al2 : U.s.al = L.length := by rw [hMk.s]
      rw [if_neg (by omega)]
      refine ⟨_, _, rfl, hS.merge hMk (by omega), hS.noE hMk hn, ?_⟩
      simp only [true_iff]
      exact ⟨_, List.mem_append_right _ (List.mem_singleton.2 rfl), q⟩
    · rw [if_neg q, if_neg q, List.append_nil]
      refine ⟨S, a, rfl, hS, hn, ?_⟩
      rw [ha]
      constructor
      · rintro ⟨g, hg, e⟩; exact ⟨g, List.mem_append_left _ hg, e⟩
      · rintro ⟨g, hg, e⟩
        rcases List.mem_append.1 hg with hg | hg
        · exact ⟨g, hg, e⟩
        · rw [List.mem_singleton.1 hg] at e; exact absurd e q
theorem catN_perm (nm : ByteArray) {A B : List (ByteArray × List Nat)} (h : A.Perm B) : (catN nm A).Perm (catN nm B) := by
  unfold catN
  exact List.Perm.flatMap_right _ (h.filter _)
/-- From the last record to the first. -/
theorem catN_back (nm : ByteArray) {Ls : List (ByteArray × List Nat)} {j : Nat} {p : ByteArray × List Nat} (h : Ls[j]? = some p) : catN nm (Ls.drop j).reverse = catN nm (Ls.drop (j + 1)).reverse ++ (if p.1 = nm then p.2 else []) := by
  have hlt : j < Ls.length := (List.getElem?_eq_some_iff.1 h).1
  have e : Ls.drop j = p :: Ls.drop (j + 1) := by
    rw [List.drop_eq_getElem_cons hlt, (List.getElem?_eq_some_iff.1 h).2]
  rw [e, List.reverse_cons, catN_snoc]
/-- The shard of all numbers of a name, from the last record to the first, is the name's total. -/
theorem tot_one {nm : ByteArray} {Ls : List (ByteArray × List Nat)} {S : Sh} (h : Mk S (catN nm Ls)) (hn : S.noE) (hM : lenL Ls ≤ 1099511627776) : oneL (catN nm Ls.reverse) = S := by
  have hp : (catN nm Ls.reverse).Perm (catN nm Ls) := catN_perm nm (List.reverse_perm Ls)
  have hle := catN_le nm Ls
  obtain ⟨h1, h2⟩ := Mk.oneL2 (l := catN nm Ls.reverse) (fun x hx => h.w x (hp.mem_iff.1 hx)) (by rw [hp.length_eq]; omega)
  exact h1.perm h hp h2 hn
theorem lenP_snoc (P : List RG) (g : RG) : lenP (P ++ [g]) = lenP P + g.2.1.length := by simp [lenP]
theorem lenL_tell (P : List RG) : lenL (tellG P) = lenP P := by unfold lenL tellG lenP; rw [List.map_map]; rfl

theorem l22laid3_spec (a : Option Addr) (P : List RG) (cp : Nat) (w : World) (hP : RW w a (recC P)) (hN : PutM w P) (hg0 : GW w) (hSum : lenP P ≤ 1099511627776) : Ret Tryz.prog 42 [.slice a P.length cp] w fun u w' => (∃ bl G vk Kp, u = .tuple [.pointer (some ⟨bl, 0, none⟩), vk].toArray ∧ LgM w.heap.size w' bl G ∧ GoodG G ∧ GRc w' 88 2 w.heap.size [] vk Kp.length (recC Kp) ∧ PutM w Kp ∧ GL G (tellG Kp) ∧ lenP Kp ≤ 1099511627776 ∧ Kp.length ≤ 100 ∧ G.length = Kp.length ∧ w.heap.size ≤ bl) ∧ Chg [] w w' := by
 have hch : Chg [] w w := Chg.refl _ _;refine zE1 Tryz.func42 rfl ?_;refine Sr fun _ kh1 => za rfl (za rfl (zz (kh1 (Sr fun _ kh3 => ?_))));refine WL.call hasF66 rfl rfl (stNew_spec _) fun v w1 h' => ?_;obtain ⟨⟨bl, rfl, hbl0, hgel⟩, hC⟩ := h';have hgel : w.heap.size ≤ bl := Nat.le_trans hch.size hgel;have hL : LgM w.heap.size _ bl [] := LgM.new hbl0;have hch := hch.ta hC;refine za rfl (zz (kh3 (zc fun _ kh5 => Sr fun _ kh6 => zm rfl ?_)));refine WL.ev (Ev.eqlPtrNil rfl rfl) rfl ?_;refine zz (kh6 ?_);refine CW.condF rfl ?_;refine zkk ?_;refine kh5 (Sr fun _ kh8 => za rfl (zz (kh8 (zc fun _ kh10 => Sr fun _ kh11 => za rfl (zz (kh11 ?_))))));refine CW.block ?_;refine CW.loop (S := fun g : Nat × List RG × Value × List RG => [(0, .slice a P.length cp), (4, .pointer (some ⟨bl, 0, none⟩)), (5, g.2.2.1), (6, .int .i64 (g.1 : Int))]) (Inv := fun g w1 => g.1 ≤ P.length ∧ g.2.2.2.length ≤ g.1 ∧ g.1 ≤ 100 ∧ LgM w.heap.size w1 bl g.2.1 ∧ GoodG g.2.1 ∧ GRc w1 88 2 w.heap.size [] g.2.2.1 g.2.2.2.length (recC g.2.2.2) ∧ PutM w g.2.2.2 ∧ GL g.2.1 (tellG g.2.2.2) ∧ lenP g.2.2.2 ≤ lenP (P.take g.1) ∧ g.2.1.length = g.2.2.2.length ∧ Chg [] w w1) (mu := fun g => P.length - g.1) ((0, [], .slice none 0 0, [])) ?_ ?_ ?_
 ·exact ⟨Nat.zero_le _, Nat.le_refl _, Nat.zero_le _, hL, GoodG.nil, GRc.nil, (fun g hg => by cases hg), GL.nil, Nat.le_refl _, rfl, hch⟩
 ·exact SLp
 ·rintro ⟨i, G, vk, Kp⟩ wr ⟨hi, hmi, hi100, hL, hGd, hgk, hKN, hGL, hKl, hGK, hch⟩;dsimp only at hi hmi hi100 hL hGd hgk hKN hGL hKl hGK;obtain ⟨ak, ck, rfl, hcapk, hrk, -⟩ := hgk.row;dsimp only;refine zc fun _ kh13 => Sr fun _ kh14 => zm rfl (zm rfl (zn rfl ?_));refine WL.ev (Ev.lss rfl rfl) rfl ?_;refine zm rfl ?_;refine zb ?_ ?_<;>intro hg1<;>try simp only [qs] at hg1
  ·refine zw rfl (zm rfl (zw rfl ?_));refine WL.ev (Ev.lss rfl rfl) rfl ?_
   refine zt rfl rfl (zz (kh14 ?_));refine zy rfl ?_ ?_<;>intro hc2<;>try simp only [qs] at hc2
   ·have hi99 : i < 100 := by have := hc2; omega
    have hip : i < P.length := by omega
    obtain ⟨⟨nm, l, dv⟩, hg⟩ : ∃ g, P[i]? = some g := ⟨_, List.getElem?_eq_getElem hip⟩;have hm := List.mem_of_getElem? hg;obtain ⟨ad, rfl, -⟩ := RW.pair hP hg;obtain ⟨ad2, e2, hcell⟩ := RW.pair (hP.keep0 hch) hg;cases e2;obtain ⟨⟨al, cl, rfl, hcapl, hrl⟩, hWl, hll⟩ : NF w dv l := hN _ hm;have hsp := lenP_step hg;have hsl := lenP_take_le P (i + 1);dsimp only at hsp;obtain ⟨hMk, hno⟩ := Mk.oneL2 hWl (by omega);refine zkk ?_;refine kh13 (zc fun _ kh16 => ?_);refine CW.block ?_;refine Sr fun _ kh17 => zm rfl (zm rfl ?_);refine WL.ev (Ev.indexAddrG rfl rfl (by omega) (by omega)) rfl ?_;refine WL.ev (Ev.fieldAddrG rfl) rfl ?_;refine WL.ev (Ev.load (v := .slice al l.length cl) rfl rfl (hcell 1 _ rfl)) rfl ?_;refine WL.call hasF45 rfl rfl (l22one_spec al l cl _ (hrl.keep0 hch) hWl hll (hg0.keep hch (fun b hb => by cases hb))) fun v w2 h' => ?_;obtain ⟨⟨bs1, rfl, hbs, hges⟩, hC⟩ := h';have hch := hch.ta hC;have hL := hL.keep0 hC;have hgk := hgk.keep0 hC;refine za rfl (zz (kh17 (zc fun _ kh19 => Sr fun _ kh20 => zm rfl ?_)));refine WL.ev (Ev.eqlPtrNil rfl rfl) rfl ?_;refine zz (kh20 ?_);refine CW.condF rfl ?_;refine zkk ?_;refine kh19 (Sr fun _ kh22 => zm rfl (zm rfl (zm rfl ?_)));refine WL.ev (Ev.indexAddrG rfl rfl (by omega) (by omega)) rfl ?_;refine WL.ev (Ev.fieldAddrG rfl) rfl ?_;refine WL.ev (Ev.load (v := .string nm) rfl rfl ((hP.keep0 hch |> fun h => (RW.pair h hg).elim fun _ q => by cases q.1; exact q.2 0 _ rfl))) rfl ?_;refine zm rfl ?_;refine WL.call hasF67 rfl rfl (stAppend2_spec bl w.heap.size G nm bs1 _ w _ hL hbs (hMk.wf hno) hMk.ex (Chg.any hch) (Nat.le_refl _) hch.size) fun v w3 h' => ?_;obtain ⟨h', v1, t1, hv1, hX⟩ := h';have hgk := hgk.keepLog hL hv1 hX;rcases h' with ⟨hbad, rfl, hL, hch⟩ | ⟨_, hbig, rfl, hL, hch⟩ | ⟨hbad, hle, rfl, ⟨dv9, hL⟩, hch⟩
    ·have hch := hch.drop hgel;refine zq rfl rfl (zz (kh22 ?_));refine CW.condF rfl ?_;refine zkk ?_;refine kh16 ?_;refine zR fun _ kr24 => ?_;refine zm rfl ?_;(first | refine zi rfl rfl ?_ | refine zo rfl rfl ?_);refine za rfl ?_;refine WL.nil (kr24 _ _ _ ?_);refine ⟨rfl, (i + 1, G, .slice ak Kp.length ck, Kp), ?_, ?_, ?_⟩
     ·exact SLp
     ·exact ⟨by dsimp only; omega, by dsimp only; omega, by dsimp only; omega, hL, hGd, hgk, hKN, hGL, (by dsimp only; omega), hGK, hch⟩
     ·show P.length - (i + 1) < P.length - i; omega
    ·have hch := hch.drop hgel;refine zq rfl rfl (zz (kh22 ?_));refine CW.condF rfl ?_;refine zkk ?_;refine kh16 ?_;refine zR fun _ kr25 => ?_;refine zm rfl ?_;(first | refine zi rfl rfl ?_ | refine zo rfl rfl ?_);refine za rfl ?_;refine WL.nil (kr25 _ _ _ ?_);refine ⟨rfl, (i + 1, G, .slice ak Kp.length ck, Kp), ?_, ?_, ?_⟩
     ·exact SLp
     ·exact ⟨by dsimp only; omega, by dsimp only; omega, by dsimp only; omega, hL, hGd, hgk, hKN, hGL, (by dsimp only; omega), hGK, hch⟩
     ·show P.length - (i + 1) < P.length - i; omega
    ·have hch := hch.drop hgel;have hGd2 := hGd.snoc hbad (hMk.dec hno) hL.tot;refine zq rfl rfl (zz (kh22 ?_));refine CW.condT rfl ?_;refine zR fun _ kr26 => ?_;refine zm rfl (zm rfl (zm rfl ?_));refine WL.ev (Ev.indexAddrG rfl rfl (by omega) (by omega)) rfl ?_;refine WL.ev (Ev.loadAgg (cs := [.string nm, .slice al l.length cl]) rfl rfl rfl (by obtain ⟨ad3, e3, q⟩ := RW.pair (hP.keep0 hch) hg; cases e3; exact q)) rfl ?_;refine WL.buildSlice (m := 1) (cs := [.string nm, .slice al l.length cl]) (by decide) (by decide) rfl (by kernel_rfl) rfl fun b43 w43 hn43 => ?_;have hb43 := RW.of_heap hn43.at_;have hgk := hgk.keep0 hn43.chg;have hL := hL.keep0 hn43.chg;have hch := hch.trans (Chg.any hn43.chg);refine WL.growC (news := [.string nm, .slice al l.length cl]) (mm := 1) (by rfl) (by decide) (by intro u hu; simp only [List.mem_cons, List.not_mem_nil, or_false] at hu; rcases hu with rfl | rfl <;> rfl) rfl rfl hgk rfl hb43 (by have := hch.size; omega) (by omega) (by omega) rfl fun v44 w44 hg44 hc44 => ?_;have hL := hL.keepRow hgk hc44;have hch := hgk.frame hc44 hch (Nat.le_refl _);have hgk := hg44;refine za rfl ?_;refine WL.nil (kr26 _ _ _ (kh16 ?_));refine zR fun _ kr27 => ?_;refine zm rfl ?_;(first | refine zi rfl rfl ?_ | refine zo rfl rfl ?_);refine za rfl ?_;refine WL.nil (kr27 _ _ _ ?_);refine ⟨rfl, (i + 1, G ++ [(nm, encS (oneL l), dv9)], v44, Kp ++ [(nm, l, .slice al l.length cl)]), ?_, ?_, ?_⟩
     ·exact SLp
     ·exact ⟨by dsimp only; omega, by dsimp only; rw [List.length_append, List.length_singleton]; omega, by dsimp only; omega, hL, hGd2, (by rw [recC_snoc, List.length_append, List.length_singleton]; exact hgk), (fun g hg => (List.mem_append.1 hg).elim (fun q => hKN g q) fun q => by rw [List.mem_singleton.1 q]; exact ⟨⟨al, cl, rfl, hcapl, hrl⟩, hWl, hll⟩), (by rw [tellG_snoc]; exact hGL.snoc hMk hno), (by dsimp only; rw [lenP_snoc]; dsimp only; omega), (by dsimp only; rw [List.length_append, List.length_append, hGK]; rfl), hch⟩
     ·show P.length - (i + 1) < P.length - i; omega
   ·refine CW.exit ?_
    refine kh10 (Sr fun _ kh28 => zm rfl (zm rfl (za rfl (za rfl (zz (kh28 ?_))))));refine zr (zr2 rfl rfl rfl ?_);exact ⟨⟨bl, G, _, Kp, rfl, hL, hGd, hgk, hKN, hGL, Nat.le_trans hKl (Nat.le_trans (lenP_take_le P i) hSum), by omega, hGK, hgel⟩, hch⟩
  ·refine zv rfl (zv rfl (ze rfl rfl (zz (kh14 ?_))));refine CW.condF rfl ?_
   refine CW.exit ?_;refine kh10 (Sr fun _ kh30 => zm rfl (zm rfl (za rfl (za rfl (zz (kh30 ?_))))));refine zr (zr2 rfl rfl rfl ?_);exact ⟨⟨bl, G, _, Kp, rfl, hL, hGd, hgk, hKN, hGL, Nat.le_trans hKl (Nat.le_trans (lenP_take_le P i) hSum), by omega, hGK, hgel⟩, hch⟩

end

/- A sum told two ways: what is counted, one answer only. No condition. -/
section
open Go Sx Wd

theorem cnt1_kind (s : SP) (x : Nat) : cnt1 s (splitP x).cls (splitP x).neg = countP s (kindP x) := by
  unfold cnt1 kindP countP
  generalize (splitP x).cls = c
  generalize (splitP x).neg = g
  by_cases h4 : c = 4
  · subst h4; simp
  · by_cases h3 : c = 3
    · subst h3; cases g <;> simp
    · by_cases h0 : c = 0
      · subst h0; cases g <;> simp
      · simp [h4, h3, h0]
theorem cntP_fold : ∀ (l : List Nat) (s : SP), l.foldl (fun s x => countP s (kindP x)) s = ⟨s.na + cntK 5 l, s.up + cntK 3 l, s.dn + cntK 4 l, s.mi + cntK 1 l, s.pl + cntK 2 l, s.al + l.length⟩
  | [], s => rfl
  | x :: l, s => by
    rw [List.foldl_cons, cntP_fold l]
    simp only [cntK_cons, countP, List.length_cons, SP.mk.injEq, Nat.add_assoc, true_and]
    omega
theorem cntP_cnt (l : List Nat) : cntP l = ⟨cntK 5 l, cntK 3 l, cntK 4 l, cntK 1 l, cntK 2 l, l.length⟩ := by
  unfold cntP
  rw [cntP_fold]
  simp [SP.zero]
theorem round_unique {x : Option Dy} {mode : Int} {b b' : Nat} {e e' : Int} (h : RoundR x mode b e) (h' : RoundR x mode b' e') : b = b' ∧ e = e' := by
  rcases h with ⟨a, b1, e1⟩ | ⟨a, h⟩ <;> rcases h' with ⟨a', b2, e2⟩ | ⟨a', h'⟩
  · exact ⟨b1.trans b2.symm, e1.trans e2.symm⟩
  · exact absurd a' a
  · exact absurd a a'
  · rcases h with ⟨n, b1, e1⟩ | ⟨d, r, hd, N, _, b1, e1⟩ <;> rcases h' with ⟨n', b2, e2⟩ | ⟨d', r', hd', N', _, b2, e2⟩
    · exact ⟨b1.trans b2.symm, e1.trans e2.symm⟩
    · rw [n] at hd'; cases hd'
    · rw [n'] at hd; cases hd
    · rw [hd] at hd'; cases hd'
      have := N.unique (dyB_pos _) N'
      subst this
      exact ⟨b1.trans b2.symm, e1.trans e2.symm⟩
theorem sumSh_unique {S T : Sh} (hs : S.s = T.s) (hV : S.V = T.V) {mode pn pi : Int} {b b' : Nat} {e e' : Int} (h : sumShR S mode pn pi b e) (h' : sumShR T mode pn pi b' e') : b = b' ∧ e = e' := by
  unfold sumShR at h h'
  rw [← hs, ← hV] at h'
  rcases h with ⟨a, b1, e1⟩ | ⟨a, h⟩ <;> rcases h' with ⟨a', b2, e2⟩ | ⟨a', h'⟩
  · exact ⟨b1.trans b2.symm, e1.trans e2.symm⟩
  · exact absurd a' a
  · exact absurd a a'
  · rcases h with ⟨x, v, b1, e1⟩ | ⟨v, h⟩ <;> rcases h' with ⟨x', v', b2, e2⟩ | ⟨v', h'⟩
    · rw [v] at v'; cases v'; exact ⟨b1.trans b2.symm, e1.trans e2.symm⟩
    · rw [v] at v'; cases v'
    · rw [v] at v'; cases v'
    · rcases h with ⟨m, b1, e1⟩ | ⟨m, h⟩ <;> rcases h' with ⟨m', b2, e2⟩ | ⟨m', h'⟩
      · exact ⟨b1.trans b2.symm, e1.trans e2.symm⟩
      · exact absurd m m'
      · exact absurd m' m
      · exact round_unique h h'
theorem tv_eq0 : ∀ {L : List Nat}, tv L = 0 → ∀ x ∈ L, x = 0
  | [], _ => fun x hx => by cases hx
  | y :: L, h => by
    rw [tv] at h
    intro x hx
    rcases List.mem_cons.1 hx with e | hx
    · omega
    · exact tv_eq0 (by omega) x hx
theorem Rep.nought {L : List Nat} {S : Int} (hr : Rep L S) (h1 : -((16384 * BB : Nat) : Int) < S) (h2 : S < (16384 * BB : Nat)) : S = 0 ↔ ∀ x ∈ L, x = 0 := by
  constructor
  · intro h
    obtain ⟨_, h9⟩ := hr.pos (by omega) h2
    exact tv_eq0 (by omega)
  · intro h
    have hl : L = List.replicate 67 0 := List.eq_replicate_iff.2 ⟨hr.len, h⟩
    have ht : tv L = 0 := by rw [hl, tv_zero]
    apply Classical.byContradiction
    intro h0
    rcases Int.lt_or_gt_of_ne h0 with q | q
    · obtain ⟨_, _, h9⟩ := hr.neg q h1
      have hw := hr.neg q h1
      have hg : L.getD 66 0 = 0 := by rw [hl]; rfl
      have := hw.1
      omega
    · obtain ⟨_, h9⟩ := hr.pos (by omega) h2
      omega
end

/- What moment.Var says of a list: plain. No condition. -/
section
open Go Sx Wd
set_option exponentiation.threshold 300000

/-- Two small forms have a product. -/
structure Sm1 (d : Dy) : Prop where
  ok : d.ok
  m : ∀ c, c = 4300 → d.m < 2 ^ c
  e : -2500 ≤ d.e ∧ d.e ≤ 4300
end

/- Sums of accumulators: special, Round, sums.Exact. No condition. -/
section
open Go Sx Wd Fl

namespace Sx
section
variable {P : Program} {s : Sl} {w : World} {ty : TypeId} {x y : Operand}
theorem run_items64 {e by_ : Nat} {z : Value} [hE : HasT P e (.int .u64) 1 by_ z] (d : Nat) (A B : List Nat) : ∀ is : List Nat, (∀ i ∈ is, i < A.length ∧ i < B.length) →
    (Op.eqItems (d + 1) e 1 (A.map u64v).toArray (B.map u64v).toArray is).run P w = .ok (is.all fun i => decide (A.getD i 0 = B.getD i 0)) w
  | [], _ => by simp [Op.eqItems]
  | i :: is, h => by
    obtain ⟨h1, h2⟩ := h i (List.mem_cons_self ..)
    have ih := run_items64 (hE := hE) d A B is fun j hj => h j (List.mem_cons_of_mem _ hj)
    have hk : P.plainKey e = true := by simp [Program.plainKey, hE.und]
    have g1 : (A.map u64v).toArray[i * 1]? = some (u64v (A.getD i 0)) := by rw [Nat.mul_one, List.getElem?_toArray]; exact map_at u64v 0 h1
    have g2 : (B.map u64v).toArray[i * 1]? = some (u64v (B.getD i 0)) := by rw [Nat.mul_one, List.getElem?_toArray]; exact map_at u64v 0 h2
    have p1 := run_part_plain w hk g1
    have p2 := run_part_plain w hk g2
    have p3 : (Op.equalIn (d + 1) e (u64v (A.getD i 0)) (u64v (B.getD i 0))).run P w = .ok (((A.getD i 0 : Nat) : Int) == ((B.getD i 0 : Nat) : Int)) w := run_equalIn_int w d e .u64 .u64 _ _ hE.und
    simp only [Op.eqItems, Sem.run_bind, p1, p2, p3, Result.andThen_ok, List.all_cons]
    by_cases q : A.getD i 0 = B.getD i 0
    · rw [q]
      simp only [beq_self_eq_true, Bool.not_true, Bool.false_eq_true, if_false, decide_true, Bool.true_and]
      exact ih
    · have q2 : ¬ ((A.getD i 0 : Nat) : Int) = ((B.getD i 0 : Nat) : Int) := by omega
      rw [decide_eq_false q, show (((A.getD i 0 : Nat) : Int) == ((B.getD i 0 : Nat) : Int)) = false from beq_eq_false_iff_ne.2 q2]
      simp
theorem all_getD {A B : List Nat} (h : A.length = B.length) : ((List.range A.length).all fun i => decide (A.getD i 0 = B.getD i 0)) = decide (A = B) := by
  by_cases q : A = B
  · subst q; simp
  · rw [decide_eq_false q, List.all_eq_false]
    apply Classical.byContradiction
    intro hn
    apply q
    apply List.ext_getElem h
    intro i h1 h2
    have := Classical.byContradiction fun z => hn ⟨i, List.mem_range.2 h1, z⟩
    have := of_decide_eq_true this
    rwa [List.getD_eq_getElem?_getD, List.getD_eq_getElem?_getD, List.getElem?_eq_getElem h1, List.getElem?_eq_getElem h2] at this
/-- Two arrays of words. -/
theorem Ev.eqlArr64 {t t' e n : Nat} {sz by_ eb : Nat} {z ze : Value} {A B : List Nat} [hT : HasT P t (.array n e) sz by_ z] [hE : HasT P e (.int .u64) 1 eb ze] (hG : P.eqGuardType P.depth t = false)
    (hx : opnd s x = some (.agg (A.map u64v).toArray)) (hy : opnd s y = some (.agg (B.map u64v).toArray)) (hA : A.length = n) (hB : B.length = n) : Ev P s (.binOp .eql t x y t') ty w (.bool (decide (A = B))) w := fun ρ d pos af g hρ => by
  have h1 := hρ x _ hx
  have h2 := hρ y _ hy
  obtain ⟨j, hj, hj1, hj2, hj3⟩ := hE.inf
  have hc : P.cellsOf e = 1 := by simp [Program.cellsOf, hj, hj1]
  have h3 := run_equalIn_array (P := P) w 9999 (A.map u64v).toArray (B.map u64v).toArray hT.und hj
  rw [hc, run_items64 (hE := hE) 9998 A B (List.range n) (fun i hi => by have := List.mem_range.1 hi; omega), ← hA, all_getD (hA.trans hB.symm)] at h3
  have hg : (eqGuard .eql t x y (.agg (A.map u64v).toArray) (.agg (B.map u64v).toArray)).run P w = .ok () w := by
    simp [eqGuard, hG]
  have hb : (binOp .eql t (.agg (A.map u64v).toArray) (.agg (B.map u64v).toArray)).run P w = .ok (.bool (decide (A = B))) w := by
    rw [run_eql_struct]
    rw [show (Op.equalIn 10000 t (.agg (A.map u64v).toArray) (.agg (B.map u64v).toArray)).run P w = _ from h3]
    rfl
  simp [execOp, h1, h2, hg, hb]
end
end Sx
/-- What an accumulator of such numbers says. -/
def accSh (s : SP) (S : Int) : Sh := ⟨s, sumD S, Dy.zero, 0, 0⟩

theorem acSpecial_spec (b : Nat) (C : List Nat) (s : SP) (S : Int) (mode pn pi : Int) (w : World) (hB : TB w b 251 C s.cells) (hr : Rep C S) (hs : s.le 1000000000000000) (hg : GW w) (h1 : -((16384 * BB : Nat) : Int) < S) (h2 : S < (16384 * BB : Nat)) : Ret Tryz.prog 194 [.pointer (some ⟨b, 0, none⟩), .int .i64 mode, .agg [.int .i64 pn, .int .i64 pi].toArray] w fun u w' => (∃ x k e, u = .tuple [.float .f64 x, .bool k, .int .i64 e].toArray ∧ ((shE s mode pn pi ≠ 0 ∧ x = 0 ∧ k = false ∧ e = shE s mode pn pi) ∨ (shE s mode pn pi = 0 ∧ ((∃ y, verdP s pn pi = .some y ∧ x = y ∧ k = true ∧ e = 0) ∨ (verdP s pn pi = .none ∧ ((S = 0 ∧ x = noughtP s mode ∧ k = true ∧ e = 0) ∨ (S ≠ 0 ∧ k = false ∧ e = 0))))))) ∧ Chg [] w w' := by
 have hch : Chg [] w w := Chg.refl _ _;have hg0 := hg;have hB0 := hB;have hLL := hr.len;obtain ⟨hs1, hs2, hs3, hs4, hs5, hs6⟩ := id hs;refine zE3 Tryz.func194 rfl ?_;refine Sr fun _ kh1 => ?_;refine zBh rfl rfl rfl hch fun b5 wm5 hb5 hcm5 hge5 hgehch5 hch => ?_;have hneb5 : b ≠ b5 := by have := hB.lt; omega
 have hB := hB.keep0 hcm5;refine za rfl (za rfl (za rfl (zz (kh1 (zc fun _ kh3 => ?_)))));refine CW.block ?_;refine CW.seqMC 11 (decide (¬ ((0 ≤ mode ∧ mode ≤ 4) ∧ mayQ pn pi))) ?_ ?_
 ·intro hcM;refine zR fun _ kr4 => ?_;refine zm rfl ?_;refine WL.ev (Ev.lss rfl rfl) rfl ?_;refine zm rfl ?_;refine zb ?_ ?_<;>intro hg1<;>try simp only [qs] at hg1
  ·refine zv rfl (zv rfl (zt rfl rfl (zm rfl (zv rfl (zv rfl (zv rfl (zt rfl rfl (za rfl ?_))))))));refine WL.nil (kr4 _ _ _ ?_);refine ⟨rfl, hcM, Subs.consB rfl ?_ ?_⟩
   ·first | (simp_all; done) | (simp; omega) | (refine decide_eq_decide.2 ?_; omega) | (cases hdm : decide (mayQ pn pi) <;> simp_all <;> omega)
   ·exact SMg
  ·refine zw rfl (zm rfl (zw rfl ?_));refine WL.ev (Ev.gtr rfl rfl) rfl ?_
   refine ze rfl rfl (zm rfl ?_);refine zb ?_ ?_<;>intro hg2<;>try simp only [qs] at hg2
   ·refine zv rfl (zv rfl (zv rfl (zt rfl rfl (za rfl ?_))));refine WL.nil (kr4 _ _ _ ?_);refine ⟨rfl, hcM, Subs.consB rfl ?_ ?_⟩
    ·first | (simp_all; done) | (simp; omega) | (refine decide_eq_decide.2 ?_; omega) | (cases hdm : decide (mayQ pn pi) <;> simp_all <;> omega)
    ·exact SMg
   ·refine zw rfl (zg hb5 rfl (zw rfl ?_));refine WL.call hasF99 rfl rfl (May_spec pn pi _) fun v w1 h' => ?_
    obtain ⟨rfl, hC⟩ := h';have hcM := hcM.ta hC;refine zw rfl ?_;refine WL.ev (Ev.not rfl) rfl ?_;refine ze rfl rfl (za rfl ?_);refine WL.nil (kr4 _ _ _ ?_);refine ⟨rfl, hcM, Subs.consB rfl ?_ ?_⟩
    ·first | (simp_all; done) | (simp; omega) | (refine decide_eq_decide.2 ?_; omega) | (cases hdm : decide (mayQ pn pi) <;> simp_all <;> omega)
    ·exact SMg
 ·intro wM hcM;have hch := hch.ta hcM;have hB := hB.keep0 hcM;have hb5 := hb5.k0 hcM;refine zy rfl ?_ ?_<;>intro hc3<;>try simp only [qs] at hc3
  ·have hq : ¬ ((0 ≤ mode ∧ mode ≤ 4) ∧ mayQ pn pi) := hc3
   have he : shE s mode pn pi = 1 := if_pos hq;refine Sr fun _ kh5 => za rfl (za rfl (za rfl (zz (kh5 ?_))));refine zr ?_;refine bodyA.ret3 rfl rfl rfl rfl ?_;exact ⟨⟨_, _, _, rfl, .inl ⟨by rw [he]; decide, rfl, rfl, he.symm⟩⟩, hch⟩
  ·have hq : ¬ ¬ ((0 ≤ mode ∧ mode ≤ 4) ∧ mayQ pn pi) := fun z => z hc3
   have he : shE s mode pn pi = refE s pn pi := if_neg hq;refine CW.seqM 23 (decide (0 < s.na ∧ pn = 2)) ?_ ?_
   ·refine zR fun _ kr7 => ?_;refine zm rfl ?_;refine WL.ev (Ev.nilPtr rfl) rfl ?_;refine zf rfl (zf rfl ?_);refine WL.ev (Ev.load (v := .int .i64 (s.na : Int)) rfl rfl (TB.tl hB hr.len (j := 0) rfl)) rfl ?_;refine WL.ev (Ev.gtr rfl rfl) rfl ?_;refine zm rfl ?_;refine zb ?_ ?_<;>intro hg4<;>try simp only [qs] at hg4
    ·refine zw rfl (zf rfl (zw rfl (zl hb5 rfl rfl (zw rfl (zq rfl rfl (zt rfl rfl (za rfl ?_)))))));refine WL.nil (kr7 _ _ _ ?_);refine ⟨rfl, rfl, Subs.consB rfl ?_ ?_⟩
     ·first | (simp_all; done) | (simp; omega) | (refine decide_eq_decide.2 ?_; omega)
     ·exact SMg
    ·refine zv rfl (zv rfl (zv rfl (ze rfl rfl (za rfl ?_))));refine WL.nil (kr7 _ _ _ ?_);refine ⟨rfl, rfl, Subs.consB rfl ?_ ?_⟩
     ·first | (simp_all; done) | (simp; omega) | (refine decide_eq_decide.2 ?_; omega)
     ·exact SMg
   ·refine zy rfl ?_ ?_<;>intro hc5<;>try simp only [qs] at hc5
    ·have q1 : 0 < s.na ∧ pn = 2 := hc5
     have he : shE s mode pn pi = 60 := he.trans (if_pos q1);refine Sr fun _ kh8 => za rfl (za rfl (za rfl (zz (kh8 ?_))));refine zr ?_;refine bodyA.ret3 rfl rfl rfl rfl ?_;exact ⟨⟨_, _, _, rfl, .inl ⟨by rw [he]; decide, rfl, rfl, he.symm⟩⟩, hch⟩
    ·have q1 : ¬ (0 < s.na ∧ pn = 2) := hc5
     refine CW.seqMD 35 (decide (0 < s.up + s.dn ∧ pi = 2)) ?_ ?_
     ·refine CW.regionSC hmix (by kernel_rfl) fun kR10 kr10 hdr => ?_;have hB := hB.keep0 hdr;have hb5 := hb5.k0 hdr;refine ym rfl ?_;refine WS.ev (Ev.nilPtr rfl) rfl ?_;refine WS.ev (Ev.fieldAddr rfl) rfl ?_;refine WS.ev (Ev.fieldAddr rfl) rfl ?_;refine WS.ev (Ev.load (v := .int .i64 (s.up : Int)) rfl rfl (TB.tl hB hr.len (j := 1) rfl)) rfl ?_;refine ym rfl ?_;refine WS.ev (Ev.nilPtr rfl) rfl ?_;refine WS.ev (Ev.fieldAddr rfl) rfl ?_;refine WS.ev (Ev.fieldAddr rfl) rfl ?_;refine WS.ev (Ev.load (v := .int .i64 (s.dn : Int)) rfl rfl (TB.tl hB hr.len (j := 2) rfl)) rfl ?_
      first | refine WS.ev (Ev.addIn rfl rfl (by omega)) rfl ?_ | refine WS.ev (Ev.add rfl rfl) rfl ?_
      refine WS.ev (Ev.gtr rfl rfl) rfl ?_;refine ym rfl ?_;refine WS.boolCase (fun hg6 => ?_) (fun hg6 => ?_)
      ·(try simp only [qs] at hg6);refine yw rfl ?_
       refine WS.ev (Ev.fieldAddr rfl) rfl ?_;refine yw rfl ?_;refine WS.ev (Ev.load rfl rfl (hb5.at_ rfl)) rfl ?_;refine yw rfl ?_;refine WS.ev (Ev.eql rfl rfl) rfl ?_;refine yt rfl rfl (ya rfl ?_);refine WS.nil (kr10 _ _ ?_);refine ⟨rfl, rfl, Subs.consB rfl ?_ ?_⟩
       ·first | (simp_all; done) | (simp; omega) | (refine decide_eq_decide.2 ?_; omega)
       ·exact SMg
      ·(try simp only [qs] at hg6);refine yv rfl (yv rfl (yv rfl (ye rfl rfl (ya rfl ?_))));refine WS.nil (kr10 _ _ ?_);refine ⟨rfl, rfl, Subs.consB rfl ?_ ?_⟩
       ·first | (simp_all; done) | (simp; omega) | (refine decide_eq_decide.2 ?_; omega)
       ·exact SMg
     ·intro hdr;have hch := hch.ta hdr;have hB := hB.keep0 hdr;have hb5 := hb5.k0 hdr;refine zy rfl ?_ ?_<;>intro hc7<;>try simp only [qs] at hc7
      ·have q2 : 0 < s.up + s.dn ∧ pi = 2 := hc7
       have he : shE s mode pn pi = 61 := he.trans ((if_neg q1).trans (if_pos q2));refine Sr fun _ kh11 => za rfl (za rfl (za rfl (zz (kh11 ?_))));refine zr ?_;refine bodyA.ret3 rfl rfl rfl rfl ?_;exact ⟨⟨_, _, _, rfl, .inl ⟨by rw [he]; decide, rfl, rfl, he.symm⟩⟩, hch⟩
      ·have q2 : ¬ (0 < s.up + s.dn ∧ pi = 2) := hc7
       have h0 : shE s mode pn pi = 0 := he.trans ((if_neg q1).trans (if_neg q2));refine zkk ?_;refine kh3 (zc fun _ kh13 => zc fun _ kh14 => ?_);refine CW.regionHC 11 rfl hmix fun kR15 kr15 hS hdr => ?_;have hch := hch.ta hdr;have hB := hB.keep0 hdr;have hb5 := hb5.k0 hdr;have hB_r := hB;have hb5_r := hb5;refine wh 0 rfl hS (fun _ _ => Ev.move rfl) (wh 1 rfl hS (fun _ _ => Ev.nilPtr rfl) (wh 2 rfl hS (fun _ _ => Ev.fieldAddr rfl) (wh 3 rfl hS (fun _ hw' => Ev.loadAgg (cs := s.cells) rfl rfl rfl (fun j v hv => by rw [add_addr, Nat.zero_add]; exact TB.tl (hB_r.keep0 hw') hr.len hv)) (wh 4 rfl hS (fun _ hw' => Ev.loadA rfl rfl (hb5_r.keep0 hw') rfl) ?_))));refine WH.oneCall 5 rfl (by kernel_rfl) hasF92 rfl rfl (Verdict_spec s pn pi _ hs) fun v w2 h' => ?_;obtain ⟨rfl, hC⟩ := h';have hvc := verd_cases s pn pi;have hch := hch.ta hC;have hB := hB.keep0 hC;have hS := hS.trans hC;refine ⟨hS, ?_⟩;refine wh 6 rfl hS (fun _ _ => Ev.move rfl) (wh 7 rfl hS (fun _ _ => Ev.extract rfl rfl) (wh 8 rfl hS (fun _ _ => Ev.extract rfl rfl) (wh 9 rfl hS (fun _ _ => Ev.assign rfl) (wh 10 rfl hS (fun _ _ => Ev.assign rfl) ?_))));refine WH.done (by kernel_rfl) (kr15 _ _ _ ?_);refine kh14 (Sr fun _ kh16 => zm rfl (zz (kh16 ?_)));refine zy rfl ?_ ?_<;>intro hc8<;>try simp only [qs] at hc8
       ·obtain ⟨x, hv1, hv2, hv3⟩ : ∃ x, verdP s pn pi = .some x ∧ (verdP s pn pi).isSome = true ∧ (verdP s pn pi).getD 0 = x := hvc.resolve_right (fun q => by have := hc8; rw [q.2] at this; exact Bool.false_ne_true this);rw [hv3]
        refine Sr fun _ kh18 => zm rfl (za rfl (za rfl (za rfl (zz (kh18 ?_)))));refine zr ?_;refine bodyA.ret3 rfl rfl rfl rfl ?_;exact ⟨⟨_, _, _, rfl, .inr ⟨h0, .inl ⟨_, hv1, rfl, rfl, rfl⟩⟩⟩, hch⟩
       ·have hv : verdP s pn pi = .none := by
         rcases hvc with ⟨_, _, q2, _⟩ | q
         · have := hc8; rw [q2] at this; exact absurd this (by decide)
         · exact q.1
        refine zkk ?_;refine kh13 (zc fun _ kh20 => Sr fun _ kh21 => zm rfl ?_);refine WL.ev (Ev.nilPtr rfl) rfl ?_;refine zf rfl ?_;refine WL.ev (Ev.loadAgg (cs := C.map u64v) rfl (by simp [hLL]) rfl (fun j v hv => by rw [add_addr, Nat.zero_add]; exact BK.at_ hB (by rw [List.getElem?_append_left (lt_of_some hv)]; exact hv))) rfl ?_;refine WL.ev (Ev.buildA (vs := []) (cs := (List.replicate 67 0).map u64v) rfl (by kernel_rfl)) rfl ?_;refine WL.ev (Ev.eqlArr64 (by kernel_rfl) rfl rfl hLL (by simp)) rfl ?_;refine zz (kh21 ?_);refine zy rfl ?_ ?_<;>intro hc9<;>try simp only [qs] at hc9
        ·have hC0 : C = List.replicate 67 0 := hc9
         have hS0 : S = 0 := (hr.nought h1 h2).2 (fun x hx => by rw [hC0] at hx; exact List.eq_of_mem_replicate hx);refine Sr fun _ kh23 => zm rfl ?_;refine WL.ev (Ev.nilPtr rfl) rfl ?_;refine zf rfl ?_;refine WL.ev (Ev.loadAgg (cs := s.cells) rfl rfl rfl (fun j v hv => by rw [add_addr, Nat.zero_add]; exact TB.tl hB hr.len hv)) rfl ?_;refine zm rfl ?_;refine WL.call hasF94 rfl rfl (Nought_spec s mode _ hs) fun v w3 h' => ?_;obtain ⟨rfl, hC⟩ := h';have hch := hch.ta hC;refine za rfl (za rfl (za rfl (zz (kh23 ?_))));refine zr ?_;refine bodyA.ret3 rfl rfl rfl rfl ?_;exact ⟨⟨_, _, _, rfl, .inr ⟨h0, .inr ⟨hv, .inl ⟨hS0, rfl, rfl, rfl⟩⟩⟩⟩, hch⟩
        ·have hC0 : ¬ C = List.replicate 67 0 := hc9
         have hS0 : S ≠ 0 := fun z => hC0 (List.eq_replicate_iff.2 ⟨hLL, (hr.nought h1 h2).1 z⟩);refine zkk ?_;refine kh20 (Sr fun _ kh25 => za rfl (za rfl (za rfl (zz (kh25 ?_)))));refine zr ?_;refine bodyA.ret3 rfl rfl rfl rfl ?_;exact ⟨⟨_, _, _, rfl, .inr ⟨h0, .inr ⟨hv, .inr ⟨hS0, rfl, rfl⟩⟩⟩⟩, hch⟩

theorem acRound_spec (b : Nat) (C : List Nat) (s : SP) (S : Int) (mode pn pi : Int) (w : World) (hB : TB w b 251 C s.cells) (hr : Rep C S) (hs : s.le 1000000000000000) (hg : GW w) (h1 : -((16384 * BB : Nat) : Int) < S) (h2 : S < (16384 * BB : Nat)) : Ret Tryz.prog 102 [.pointer (some ⟨b, 0, none⟩), .int .i64 mode, .agg [.int .i64 pn, .int .i64 pi].toArray] w fun u w' => (∃ x e, u = .tuple [.float .f64 x, .int .i64 e].toArray ∧ sumShR (accSh s S) mode pn pi x e) ∧ Chg [] w w' := by
 have hch : Chg [] w w := Chg.refl _ _;have hg0 := hg;have hB0 := hB;refine zE3 Tryz.func102 rfl ?_;refine Sr fun _ kh1 => ?_;refine zBh rfl rfl rfl hch fun b5 wm5 hb5 hcm5 hge5 hgehch5 hch => ?_;have hneb5 : b ≠ b5 := by have := hB.lt; omega
 refine za rfl (za rfl (zz (kh1 (Sr fun _ kh3 => zm rfl (zm rfl (zg hb5 rfl ?_))))));refine WL.call hasF194 rfl rfl (acSpecial_spec b C s S mode pn pi _ (hB0.keep0 hch) hr hs (hg0.keep0 hch) h1 h2) fun v w1 h' => ?_;obtain ⟨⟨x, k, e, rfl, hsp⟩, hC⟩ := h';have hch := hch.ta hC;refine zm rfl (zx rfl rfl (zx rfl rfl (zx rfl rfl (za rfl (za rfl (za rfl (zz (kh3 (zc fun _ kh5 => ?_)))))))));refine CW.seqM 23 (decide (k = true ∨ e ≠ 0)) ?_ ?_
 ·refine zR fun _ kr6 => ?_;refine zm rfl (zm rfl ?_);refine zb ?_ ?_<;>intro hg1<;>try simp only [qs] at hg1
  ·refine zv rfl (zv rfl (zt rfl rfl ?_));refine WL.nil (kr6 _ _ _ ?_);refine ⟨rfl, rfl, Subs.consB rfl ?_ ?_⟩
   ·first | (simp_all; done) | (simp; omega) | (refine decide_eq_decide.2 ?_; simp_all; done) | (cases k <;> simp_all; done)
   ·exact SMg
  ·refine zw rfl (zm rfl (zw rfl ?_));refine WL.ev (Ev.neq rfl rfl) rfl ?_
   refine ze rfl rfl ?_;refine WL.nil (kr6 _ _ _ ?_);refine ⟨rfl, rfl, Subs.consB rfl ?_ ?_⟩
   ·first | (simp_all; done) | (simp; omega) | (refine decide_eq_decide.2 ?_; simp_all; done) | (cases k <;> simp_all; done)
   ·exact SMg
 ·refine zy rfl ?_ ?_<;>intro hc2<;>try simp only [qs] at hc2
  ·have hq : k = true ∨ e ≠ 0 := hc2
   refine Sr fun _ kh7 => zm rfl (zm rfl (za rfl (za rfl (zz (kh7 ?_)))));refine zr (zr2 rfl rfl rfl ?_);refine ⟨⟨_, _, rfl, ?_⟩, hch⟩;rcases hsp with ⟨a, rfl, rfl, rfl⟩ | ⟨a, ⟨y, v, rfl, rfl, rfl⟩ | ⟨v, ⟨z, rfl, rfl, rfl⟩ | ⟨z, rfl, rfl⟩⟩⟩
   · exact .inl ⟨a, rfl, rfl⟩
   · exact .inr ⟨a, .inl ⟨_, v, rfl, rfl⟩⟩
   · exact .inr ⟨a, .inr ⟨v, .inl ⟨(rsumD_m0 ⟨h1, h2⟩).2 z, rfl, rfl⟩⟩⟩
   · simp at hq
  ·have hq : ¬ (k = true ∨ e ≠ 0) := hc2
   have hfin : shE s mode pn pi = 0 ∧ verdP s pn pi = .none ∧ S ≠ 0 := by
    rcases hsp with ⟨a, rfl, rfl, rfl⟩ | ⟨a, ⟨y, v, rfl, rfl, rfl⟩ | ⟨v, ⟨z, rfl, rfl, rfl⟩ | ⟨z, rfl, rfl⟩⟩⟩
    · exact absurd (.inr a) hq
    · exact absurd (.inl rfl) hq
    · exact absurd (.inl rfl) hq
    · exact ⟨a, v, z⟩
   obtain ⟨he0, hvn, hz⟩ := hfin;have hok := rsumD_ok (S := S) ⟨h1, h2⟩;refine zkk ?_;refine kh5 (Sr fun _ kh9 => zm rfl ?_);refine WL.call hasF108 rfl rfl (Exact_spec b C S _ (hB0.keep0 hch) hr (hg0.keep0 hch) h1 h2) fun v w2 h' => ?_;obtain ⟨⟨rx, rfl, hNx⟩, hC⟩ := h';have hox := hNx.one;have hch := hch.ta hC;refine zm rfl ?_;refine WL.call hasF95 rfl rfl (Round_dspec _ _ _ _ mode _ hNx (hg0.keep0 hch) (ok_i64 hok)) fun v w3 h' => ?_;obtain ⟨⟨xb, xe, rfl, hR⟩, hC⟩ := h';rw [val_wd, formD_self hok] at hR;have hch := hch.ta hC;refine zx rfl rfl (zx rfl rfl (za rfl (za rfl (zz (kh9 ?_)))));refine zr (zr2 rfl rfl rfl ?_);exact ⟨⟨_, _, rfl, .inr ⟨he0, .inr ⟨hvn, .inr ⟨fun z => hz ((rsumD_m0 ⟨h1, h2⟩).1 z), hR⟩⟩⟩⟩, hch⟩

structure KSx (l : List Nat) (b b5 : Nat) (pn pi : Int) (w0 : World) (g : Nat × List Nat) (w : World) : Prop where
  hi : g.1 ≤ l.length
  hB : TB w b 251 g.2 (cntP (l.take g.1)).cells
  hr : Rep g.2 (sumI (l.take g.1))
  h5 : BK w b5 34 [.int .i64 pn, .int .i64 pi]
  ch : Chg [] w0 w

theorem sumsExact_spec (v : Value) (l : List Nat) (mode pn pi : Int) (w : World) (hv : NF w v l) (hg : GW w) : Ret Tryz.prog 30 [v, .int .i64 mode, .agg [.int .i64 pn, .int .i64 pi].toArray] w fun u w' => (∃ x e, u = .tuple [.float .f64 x, .int .i64 e].toArray ∧ (l.length ≤ 65536 → sumShR (accSh (cntP l) (sumI l)) mode pn pi x e)) ∧ Chg [] w w' := by
 obtain ⟨⟨al, cl, rfl, hcap, hrl⟩, hWl, hll⟩ := hv;have hch : Chg [] w w := Chg.refl _ _;have hg0 := hg;refine zE3 Tryz.func30 rfl ?_;refine Sr fun _ kh1 => ?_;refine zBh rfl rfl rfl hch fun b5 wm5 hb5 hcm5 hge5 hgehch5 hch => ?_;refine za rfl (za rfl (zz (kh1 (zc fun _ kh3 => ?_))));refine CW.seqMC 21 (decide (¬ ((0 ≤ mode ∧ mode ≤ 4) ∧ mayQ pn pi))) ?_ ?_
 ·intro hcM;refine zR fun _ kr4 => ?_;refine zm rfl ?_;refine WL.ev (Ev.lss rfl rfl) rfl ?_;refine zm rfl ?_;refine zb ?_ ?_<;>intro hg1<;>try simp only [qs] at hg1
  ·refine zv rfl (zv rfl (zt rfl rfl (zm rfl (zv rfl (zv rfl (zv rfl (zt rfl rfl ?_)))))));refine WL.nil (kr4 _ _ _ ?_);refine ⟨rfl, hcM, Subs.consB rfl ?_ ?_⟩
   ·first | (simp_all; done) | (simp; omega) | (refine decide_eq_decide.2 ?_; omega) | (cases hdm : decide (mayQ pn pi) <;> simp_all <;> omega)
   ·exact SMg
  ·refine zw rfl (zm rfl (zw rfl ?_));refine WL.ev (Ev.gtr rfl rfl) rfl ?_
   refine ze rfl rfl (zm rfl ?_);refine zb ?_ ?_<;>intro hg2<;>try simp only [qs] at hg2
   ·refine zv rfl (zv rfl (zv rfl (zt rfl rfl ?_)));refine WL.nil (kr4 _ _ _ ?_);refine ⟨rfl, hcM, Subs.consB rfl ?_ ?_⟩
    ·first | (simp_all; done) | (simp; omega) | (refine decide_eq_decide.2 ?_; omega) | (cases hdm : decide (mayQ pn pi) <;> simp_all <;> omega)
    ·exact SMg
   ·refine zw rfl (zg hb5 rfl (zw rfl ?_));refine WL.call hasF99 rfl rfl (May_spec pn pi _) fun v w1 h' => ?_
    obtain ⟨rfl, hC⟩ := h';have hcM := hcM.ta hC;refine zw rfl ?_;refine WL.ev (Ev.not rfl) rfl ?_;refine ze rfl rfl ?_;refine WL.nil (kr4 _ _ _ ?_);refine ⟨rfl, hcM, Subs.consB rfl ?_ ?_⟩
    ·first | (simp_all; done) | (simp; omega) | (refine decide_eq_decide.2 ?_; omega) | (cases hdm : decide (mayQ pn pi) <;> simp_all <;> omega)
    ·exact SMg
 ·intro wM hcM;have hch := hch.ta hcM;have hb5 := hb5.k0 hcM;refine zy rfl ?_ ?_<;>intro hc3<;>try simp only [qs] at hc3
  ·have hq : ¬ ((0 ≤ mode ∧ mode ≤ 4) ∧ mayQ pn pi) := hc3
   have he : ∀ s : SP, shE s mode pn pi = 1 := fun s => if_pos hq;refine Sr fun _ kh5 => za rfl (za rfl (zz (kh5 ?_)));refine zr (zr2 rfl rfl rfl ?_);exact ⟨⟨_, _, rfl, fun _ => .inl ⟨by rw [he]; decide, rfl, (he _).symm⟩⟩, hch⟩
  ·have hq : ¬ ¬ ((0 ≤ mode ∧ mode ≤ 4) ∧ mayQ pn pi) := fun z => z hc3
   refine zkk ?_;refine kh3 (zc fun _ kh7 => Sr fun _ kh8 => zm rfl (zn rfl ?_));refine WL.ev (Ev.gtr rfl rfl) rfl ?_;refine zz (kh8 ?_);refine zy rfl ?_ ?_<;>intro hc4<;>try simp only [qs] at hc4
   ·have hbig : 65536 < l.length := by have := hc4; omega
    refine Sr fun _ kh10 => za rfl (za rfl (zz (kh10 ?_)));refine zr (zr2 rfl rfl rfl ?_);exact ⟨⟨_, _, rfl, fun z => absurd z (by omega)⟩, hch⟩
   ·have hsml : l.length ≤ 65536 := by have := hc4; omega
    refine zkk ?_;refine kh7 (Sr fun _ kh12 => ?_);refine WL.call hasF100 rfl rfl (New_spec _) fun v w2 h' => ?_;obtain ⟨b, rfl, hB6, hge6, hC⟩ := h';have hbge : w.heap.size ≤ b := Nat.le_trans hch.size hge6;have hne5 : b5 ≠ b := by have := hb5.lt; omega
    have hch := hch.ta hC;have hb5 := hb5.k0 hC;refine za rfl (zz (kh12 (zc fun _ kh14 => Sr fun _ kh15 => zm rfl (zn rfl (zm rfl (zz (kh15 ?_)))))));refine CW.block ?_;refine CW.loop (S := fun g : Nat × List Nat => [(1, .int .i64 mode), (5, .pointer (some ⟨b5, 0, none⟩)), (8, .pointer (some ⟨b, 0, none⟩)), (26, .slice al l.length cl), (27, .int .i64 (l.length : Int)), (28, .int .i64 (g.1 : Int))]) (Inv := KSx l b b5 pn pi w) (mu := fun g => l.length - g.1) ((0, List.replicate 67 0)) ?_ ?_ ?_
    ·exact ⟨Nat.zero_le _, hB6, by rw [List.take_zero]; exact Rep.zero, hb5, hch⟩
    ·exact SLp
    ·rintro ⟨i, C⟩ wr ⟨hi, hB, hr, hb5, hch⟩;dsimp only at hi hB hr hb5 hch;dsimp only;have hx := D_getD hWl i;refine Sr fun _ kh17 => ?_;refine WL.ev (Ev.lss rfl rfl) rfl ?_;refine zz (kh17 (zc fun _ kh19 => ?_));refine zy rfl ?_ ?_<;>intro hc5<;>try simp only [qs] at hc5
     ·have hst := sumI_step (l := l) (i := i) (by omega);have hin := sumI_in (l := l.take (i + 1)) (by rw [List.length_take]; omega);rw [hst, ← thv_one] at hin
      have hct := cntP_step (l := l) (i := i) (by omega);have hcl := cnt_le (l.take i);have hlt9 : (l.take i).length ≤ 65536 := by rw [List.length_take]; omega
      refine zkk ?_;refine kh19 (zc fun _ kh20 => ?_);refine CW.block ?_;refine Sr fun _ kh21 => ?_;refine WL.ev (Ev.ixR (i) rfl rfl (hrl.keep0 hch) (by omega) (by omega) (by simp; omega)) rfl ?_;refine WL.ev (Ev.load rfl rfl ((hrl.keep0 hch).f64 (by first | omega | (simp; omega)))) rfl ?_;refine za rfl (zz (kh21 ?_));refine zR fun _ kr23 => ?_;refine zm rfl (zm rfl ?_);refine WL.call hasF101 rfl rfl (acAdd_spec b C (l.getD i 0) (cntP (l.take i)) (sumI (l.take i)) _ hB hr hx (hcl.mono (by omega)) hin.1 hin.2) fun v w3 h' => ?_;obtain ⟨rfl, C2, hB2, hr2, hC34⟩ := h';rw [thv_one, ← hst] at hr2;rw [cnt1_kind, ← hct] at hB2;have hch := hch.step hC34 (fun y hy => by simp only [List.mem_singleton] at hy; subst hy; exact .inr hbge);have hb5 := hb5.keep hC34 (by simpa using hne5);refine WL.nil (kr23 _ _ _ (kh20 ?_));refine zR fun _ kr24 => ?_;(first | refine zi rfl rfl ?_ | refine zo rfl rfl ?_);refine zm rfl ?_;refine WL.nil (kr24 _ _ _ ?_);refine ⟨rfl, (i + 1, C2), ?_, ?_, ?_⟩
      ·exact SLp
      ·exact ⟨by show i + 1 ≤ l.length; omega, hB2, hr2, hb5, hch⟩
      ·show l.length - (i + 1) < l.length - i; omega
     ·have hiX : i = l.length := by omega
      subst hiX;rw [List.take_length] at hr hB;have hin := sumI_in (l := l) (by omega);refine CW.exit ?_;refine kh14 (Sr fun _ kh25 => zm rfl (zm rfl (zg hb5 rfl ?_)));refine WL.call hasF102 rfl rfl (acRound_spec b C (cntP l) (sumI l) mode pn pi _ hB hr ((cnt_le l).mono (by omega)) (hg0.keep0 hch) hin.1 hin.2) fun v w4 h' => ?_;obtain ⟨⟨xb, xe, rfl, hR⟩, hC⟩ := h';have hch := hch.ta hC;refine zx rfl rfl (zx rfl rfl (za rfl (za rfl (zz (kh25 ?_)))));refine zr (zr2 rfl rfl rfl ?_);exact ⟨⟨_, _, rfl, fun _ => hR⟩, hch⟩

/-- What a list's shard says of the sum is what the list says. -/
theorem sum_same {S : Sh} {l : List Nat} (h : Mk S l) {mode pn pi : Int} {b b' : Nat} {e e' : Int} (h1 : sumShR S mode pn pi b e) (h2 : sumShR (accSh (cntP l) (sumI l)) mode pn pi b' e') : b = b' ∧ e = e' :=
  sumSh_unique (by rw [h.s]; exact (cntP_cnt l).symm) h.V h1 h2

theorem verd_lt {s : SP} {pn pi : Int} {x : Nat} (h : verdP s pn pi = .some x) : x < 18446744073709551616 := by
  unfold verdP at h
  repeat' split at h
  all_goals first | (cases h; done) | (cases h; decide)
theorem nought_lt64 (s : SP) (mode : Int) : noughtP s mode < 18446744073709551616 := by
  unfold noughtP
  split <;> decide
theorem round_lt {x : Option Dy} {mode : Int} {b : Nat} {e : Int} (h : RoundR x mode b e) : b < 18446744073709551616 := by
  rcases h with ⟨_, rfl, _⟩ | ⟨_, ⟨_, rfl, _⟩ | ⟨d, r, _, _, hr, rfl, _⟩⟩
  · decide
  · decide
  · split <;> omega
theorem sumSh_lt {S : Sh} {mode pn pi : Int} {b : Nat} {e : Int} (h : sumShR S mode pn pi b e) : b < 18446744073709551616 := by
  rcases h with ⟨_, rfl, _⟩ | ⟨_, ⟨x, hv, rfl, _⟩ | ⟨_, ⟨_, rfl, _⟩ | ⟨_, h⟩⟩⟩
  · decide
  · exact verd_lt hv
  · exact nought_lt64 _ _
  · exact round_lt h

end

/- The law StoreCompacts. No condition. -/
section
open Go Sx Wd Go.Sort Fl

end

/- The law StoreTotals. No condition. -/
section
open Go Sx Wd Go.Sort Fl

theorem PutM.keep0 {w w' : World} {P : List RG} (h : PutM w P) (hc : Chg [] w w') : PutM w' P := fun g hg => (h g hg).keep0 hc
theorem tellG_get {A : List RG} {i : Nat} {g : RG} (h : A[i]? = some g) : (tellG A)[i]? = some (g.1, g.2.1) := by
  unfold tellG
  rw [List.getElem?_map, h]
  rfl
theorem lenL_rev (Ls : List (ByteArray × List Nat)) : lenL Ls.reverse = lenL Ls := by
  unfold lenL
  rw [List.map_reverse, List.sum_reverse]
theorem lenL_drop (Ls : List (ByteArray × List Nat)) (j : Nat) : lenL (Ls.drop j) ≤ lenL Ls := by
  have h := List.take_append_drop j Ls
  have : lenL Ls = lenL (Ls.take j) + lenL (Ls.drop j) := by
    unfold lenL
    rw [← List.sum_append, ← List.map_append, h]
  omega
theorem catN_back_le (nm : ByteArray) (Ls : List (ByteArray × List Nat)) (j : Nat) : (catN nm (Ls.drop j).reverse).length ≤ lenL Ls :=
  Nat.le_trans (catN_le nm _) (by rw [lenL_rev]; exact lenL_drop Ls j)
theorem catN_mem {nm : ByteArray} {Ls : List (ByteArray × List Nat)} {x : Nat} (h : x ∈ catN nm Ls) : ∃ p ∈ Ls, x ∈ p.2 := by
  obtain ⟨p, hp, hx⟩ := List.mem_flatMap.1 h
  exact ⟨p, (List.mem_filter.1 hp).1, hx⟩

theorem l22exact_spec (x y : Nat) (w : World) (hx : x < 18446744073709551616) (hy : y < 18446744073709551616) : Ret Tryz.prog 46 [.float .f64 x, .float .f64 y] w fun u w' => u = .bool (decide (x = y)) ∧ w = w' := by
 refine zE2 Tryz.func46 rfl ?_;refine Sr fun _ kh1 => za rfl (zz (kh1 (Sr fun _ kh3 => zm rfl ?_)));refine WL.ev (Ev.ext rfl (ext65 _ _)) rfl ?_;refine zm rfl ?_;refine WL.ev (Ev.ext rfl (ext65 _ _)) rfl ?_;refine zq rfl rfl (za rfl (zz (kh3 ?_)));refine zr (zr1 rfl rfl ?_);refine ⟨congrArg Value.bool (decide_eq_decide.2 ?_), rfl⟩;omega

theorem StoreTotals_spec (a : Option Addr) (P : List RG) (cp : Nat) (mode pn pi : Int) (w : World) (ea : Nat → Addr) (hP : RW w a (recC P)) (hN : PutM w P) (hSum : lenP P ≤ 1099511627776) (hbd : -9223372036854775808 ≤ mode ∧ mode ≤ 9223372036854775807) (hg0 : GW w) (hE0 : GE w (evV ea)) : Ret Tryz.prog 9 [.slice a P.length cp, .int .i64 mode, .agg [.int .i64 pn, .int .i64 pi].toArray] w fun u w' => u = .bool true ∧ Chg [] w w' := by
 have hch : Chg [] w w := Chg.refl _ _;refine zE3 Tryz.func9 rfl ?_;refine Sr fun _ kh1 => ?_;refine zBh rfl rfl rfl hch fun b5 wm5 hb5 hcm5 hge5 hgehch5 hch => ?_;refine za rfl (zz (kh1 (Sr fun _ kh3 => ?_)));refine WL.call hasF15 rfl rfl (l22live_spec _ ea (hg0.keep hch (fun b hb => by cases hb)) (hE0.keep0 hch)) fun v w1 h' => ?_;obtain ⟨rfl, hC⟩ := h';have hch := hch.ta hC;have hb5 := hb5.k0 hC;refine za rfl (zz (kh3 (Sr fun _ kh5 => zm rfl ?_)));refine WL.call hasF42 rfl rfl (l22laid3_spec a P cp _ (hP.keep0 hch) (fun g hg => (hN g hg).keep0 hch) (hg0.keep hch (fun b hb => by cases hb)) hSum) fun v w2 h' => ?_;obtain ⟨⟨bl, G, vk, Kp, rfl, hL, hGd, hgk, hKN, hGL, hKl, hK100, hGK, hgel⟩, hC⟩ := h';have hKN : PutM _ Kp := PutM.keep0 hKN hC;obtain ⟨ak, ck, rfl, hcapk, hrk, -⟩ := hgk.row;have hNl := nmL_len G;have hch := hch.ta hC;have hb5 := hb5.k0 hC;refine zm rfl (zx rfl rfl (zx rfl rfl (za rfl (za rfl (zz (kh5 (zc fun _ kh7 => Sr fun _ kh8 => zm rfl ?_)))))));refine WL.ev (Ev.eqlPtrNil rfl rfl) rfl ?_;refine zz (kh8 ?_);refine CW.condF rfl ?_;refine zkk ?_;refine kh7 (Sr fun _ kh10 => zm rfl ?_);refine WL.call hasF43 rfl rfl (stNames_spec bl _ G _ hL) fun v w3 h' => ?_;obtain ⟨hgn, hC⟩ := h';obtain ⟨an, cn, rfl, hcapn, hrn, -⟩ := hgn.row;have hgn := hgn.mono00;have hch := hch.ta hC;have hb5 := hb5.k0 hC;have hL := hL.keep0 hC;have hgk := hgk.keep0 hC;have hKN := hKN.keep0 hC;refine za rfl (zz (kh10 (zc fun _ kh12 => zc fun _ kh13 => ?_)));have hch0 := hch;have hb50 := hb5;have hL0 := hL;have hgk0 := hgk;have hKN0 := hKN;have hgn0 := hgn;refine zR fun _ kr14 => ?_;refine za rfl ?_;refine WL.nil (kr14 _ _ _ (kh13 ?_));refine CW.block ?_;refine CW.loop (S := fun i : Nat => [(1, .int .i64 mode), (5, .pointer (some ⟨b5, 0, none⟩)), (7, .bool true), (8, .pointer (some ⟨bl, 0, none⟩)), (9, .slice ak Kp.length ck), (10, .slice an (nmL G).length cn), (11, .int .i64 (i : Int))]) (Inv := fun i w1 => i ≤ (nmL G).length ∧ Chg [] w3 w1) (mu := fun i => (nmL G).length - i) (0) ?_ ?_ ?_
 ·exact ⟨Nat.zero_le _, Chg.refl _ _⟩
 ·exact SLp
 ·rintro i wr ⟨hi, hcB⟩;have hch := hch.trans hcB;have hb5 := hb5.k0 hcB;have hL := hL.keep0 hcB;have hgk := hgk.keep0 hcB;have hKN := PutM.keep0 hKN hcB;have hgn := hgn.keep0 hcB;refine zc fun _ kh15 => Sr fun _ kh16 => zm rfl (zm rfl (zn rfl ?_));refine WL.ev (Ev.lss rfl rfl) rfl ?_;refine zz (kh16 ?_);refine zy rfl ?_ ?_<;>intro hc1<;>try simp only [qs] at hc1
  ·obtain ⟨x, hx⟩ : ∃ x, (nmL G)[i]? = some x := ⟨_, List.getElem?_eq_getElem (by omega)⟩
   have hxm := List.mem_of_getElem? hx;have hxv : ((nmL G).map encStr)[i]? = some (Value.string ⟨x.toArray⟩) := by rw [List.getElem?_map, hx]; rfl
   obtain ⟨qn, rfl, -⟩ := hgn.at1 hxv;refine zkk ?_;refine kh15 (zc fun _ kh18 => ?_);refine CW.block ?_;refine Sr fun _ kh19 => za rfl (zz (kh19 (zc fun _ kh21 => Sr fun _ kh22 => zm rfl (zn rfl ?_))))
   first | refine WL.ev (Ev.subIn rfl rfl (by omega)) rfl ?_ | refine WL.ev (Ev.sub rfl rfl) rfl ?_
   refine za rfl (zz (kh22 ?_));refine CW.block ?_;refine CW.loop (S := fun g : Nat × Value => [(1, .int .i64 mode), (5, .pointer (some ⟨b5, 0, none⟩)), (7, .bool true), (8, .pointer (some ⟨bl, 0, none⟩)), (9, .slice ak Kp.length ck), (10, .slice (some ⟨qn, 0, none⟩) (nmL G).length cn), (11, .int .i64 (i : Int)), (12, g.2), (13, .int .i64 ((g.1 : Int) - 1))]) (Inv := fun g w1 => g.1 ≤ Kp.length ∧ GR w1 31 f64v w3.heap.size [] g.2 (catN ⟨x.toArray⟩ ((tellG Kp).drop g.1).reverse) ∧ Chg [] w3 w1) (mu := fun g => g.1) ((Kp.length, .slice none 0 0)) ?_ ?_ ?_
   ·refine ⟨Nat.le_refl _, ?_, hcB⟩;rw [List.drop_eq_nil_of_le (by rw [tellG_len]; exact Nat.le_refl _)];exact GR.nil
   ·exact SLp
   ·rintro ⟨j, va⟩ wr ⟨hj, hga, hcB⟩;dsimp only at hj hga hcB;have hch := hch0.trans hcB;have hb5 := hb50.k0 hcB;have hL := hL0.keep0 hcB;have hgk := hgk0.keep0 hcB;have hKN := PutM.keep0 hKN0 hcB;have hgn := hgn0.keep0 hcB;have hwB := hch0.size;have hb5l := hb50.lt;dsimp only;refine zc fun _ kh24 => Sr fun _ kh25 => zm rfl ?_;refine WL.ev (Ev.geq rfl rfl) rfl ?_;refine zz (kh25 ?_);refine zy rfl ?_ ?_<;>intro hc2<;>try simp only [qs] at hc2
    ·obtain ⟨q, rfl⟩ : ∃ q, j = q + 1 := ⟨j - 1, by omega⟩
     rw [show (((q + 1 : Nat) : Int) - 1) = (q : Int) by omega];obtain ⟨⟨nm, l, dv⟩, hg⟩ : ∃ g, Kp[q]? = some g := ⟨_, List.getElem?_eq_getElem (by omega : q < Kp.length)⟩;have hm := List.mem_of_getElem? hg;obtain ⟨qk, rfl, -⟩ := hgk.at2 hg;have hback := catN_back ⟨x.toArray⟩ (tellG_get hg);dsimp only at hback;have hble := catN_back_le ⟨x.toArray⟩ (tellG Kp) q;rw [lenL_tell, hback] at hble;refine zkk ?_;refine kh24 (zc fun _ kh27 => ?_);refine CW.block ?_;refine zc fun _ kh28 => ?_;refine CW.regionSC hmix (by kernel_rfl) fun kR29 kr29 hdr => ?_;have hcB := hcB.ta hdr;have hch := hch.ta hdr;have hgk := hgk.keep0 hdr;have hKN := hKN.keep0 hdr;have hgn := hgn.keep0 hdr;have hga := hga.keep0 hdr;refine ym rfl (ym rfl ?_);refine WS.ev (Ev.indexAddr rfl rfl (by omega) (by omega)) rfl ?_;refine WS.ev (Ev.fieldAddr rfl) rfl ?_;refine WS.ev (Ev.load (v := .string nm) rfl rfl (by obtain ⟨_, e9, q9⟩ := hgk.at2 hg; cases e9; have := q9 0 _ rfl; rw [add_addr] at this; exact this)) rfl ?_;refine ym rfl (ym rfl ?_);refine WS.ev (Ev.indexAddr rfl rfl (by omega) (by omega)) rfl ?_;refine WS.ev (Ev.load (v := .string ⟨x.toArray⟩) rfl rfl (by obtain ⟨_, e9, q9⟩ := hgn.at1 hxv; cases e9; exact q9)) rfl ?_;refine WS.ev (Ev.eqlStr rfl rfl) rfl ?_;refine WS.nil (kr29 _ _ ?_);refine kh28 ?_;refine zy rfl ?_ ?_<;>intro hc3<;>try simp only [qs] at hc3
     ·have hnm : nm = ⟨x.toArray⟩ := hc3
      have hwB2 := hcB.size;rw [if_pos hnm] at hback hble;rw [List.length_append] at hble;obtain ⟨⟨al, cl, e9, hcapl, hrl⟩, hWl, hll⟩ := hKN _ hm;dsimp only at e9 hcapl hrl hWl hll;subst e9;refine zR fun _ kr30 => ?_;refine zm rfl (zm rfl (zm rfl ?_));refine WL.ev (Ev.indexAddr rfl rfl (by omega) (by omega)) rfl ?_;refine zf rfl ?_;refine WL.ev (Ev.load (v := .slice al l.length cl) rfl rfl (by obtain ⟨_, e9, q9⟩ := hgk.at2 hg; cases e9; have := q9 1 _ rfl; rw [add_addr] at this; exact this)) rfl ?_;refine WL.growR (f := f64v) (lo := w3.heap.size) (X := []) (l := catN ⟨x.toArray⟩ ((tellG Kp).drop (q + 1)).reverse) (news := l) (by rfl) (fun i => rfl) rfl rfl hga (by first | rfl | (simp; done) | (simp; omega) | omega) hrl (by first | omega | exact hch.size | exact hcr.size | exact Nat.le_refl _) (by simp) (by first | omega | (simp only [List.length_append, List.length_cons, List.length_nil]; omega)) (by first | omega | (simp only [List.length_append, List.length_cons, List.length_nil]; omega)) rfl fun v60 w60 hg60 hcg60 => ?_;have hcB := GR.frame hga hcg60 hcB (by first | omega | exact Nat.le_refl _);have hch := GR.frame hga hcg60 hch (by first | omega | exact Nat.le_refl _);have hga := hg60;refine za rfl ?_;refine WL.nil (kr30 _ _ _ (kh27 ?_));refine zR fun _ kr31 => ?_;refine zm rfl ?_
      first | refine WL.ev (Ev.subIn rfl rfl (by omega)) rfl ?_ | refine WL.ev (Ev.sub rfl rfl) rfl ?_
      refine za rfl ?_;refine WL.nil (kr31 _ _ _ ?_);refine ⟨rfl, (q, v60), ?_, ?_, ?_⟩
      ·exact SLp
      ·refine ⟨by dsimp only; omega, ?_, hcB⟩;dsimp only;rw [hback];exact hga
      ·show q < q + 1; omega
     ·have hnm : ¬ nm = ⟨x.toArray⟩ := hc3
      rw [if_neg hnm, List.append_nil] at hback;refine zkk ?_;refine kh27 ?_;refine zR fun _ kr32 => ?_;refine zm rfl ?_
      first | refine WL.ev (Ev.subIn rfl rfl (by omega)) rfl ?_ | refine WL.ev (Ev.sub rfl rfl) rfl ?_
      refine za rfl ?_;refine WL.nil (kr32 _ _ _ ?_);refine ⟨rfl, (q, va), ?_, ?_, ?_⟩
      ·exact SLp
      ·refine ⟨by dsimp only; omega, ?_, hcB⟩;dsimp only;rw [hback];exact hga
      ·show q < q + 1; omega
    ·have hj0 : j = 0 := by omega
     subst hj0;rw [List.drop_zero] at hga;obtain ⟨A, hA⟩ : ∃ A, A = catN ⟨x.toArray⟩ (tellG Kp).reverse := ⟨_, rfl⟩;rw [← hA] at hga;have hAl : A.length ≤ 1099511627776 := by
      rw [hA]; have := catN_le ⟨x.toArray⟩ (tellG Kp).reverse; rw [lenL_rev, lenL_tell] at this; omega
     have hAw : ∀ y ∈ A, y < 18446744073709551616 := fun y hy => by
      rw [hA] at hy;obtain ⟨p, hp, hyp⟩ := catN_mem hy;obtain ⟨g9, hg9, rfl⟩ := List.mem_map.1 (List.mem_reverse.1 hp);exact (hKN g9 hg9).hw y hyp
     obtain ⟨aA, cA, rfl, hcapA, hrA⟩ := hga.row;refine CW.exit ?_;refine kh21 (Sr fun _ kh33 => zm rfl (zm rfl (zm rfl ?_)));refine WL.ev (Ev.indexAddr rfl rfl (by omega) (by omega)) rfl ?_;refine WL.ev (Ev.load (v := .string ⟨x.toArray⟩) rfl rfl (by obtain ⟨_, e9, q9⟩ := hgn.at1 hxv; cases e9; exact q9)) rfl ?_;refine WL.call hasF44 rfl rfl (stTotal_spec bl _ G ⟨x.toArray⟩ _ hL (hg0.keep hch (fun b hb => by cases hb))) fun v w4 h' => ?_;obtain ⟨hu, hC⟩ := h';obtain ⟨S, aa, hS0, hMS, hnS, haa⟩ := hGL.tot ⟨x.toArray⟩ (by rw [lenL_tell]; exact hKl);have haa : aa = true := by
      obtain ⟨g9, hg9, e9⟩ := nmL_mem hxm;exact haa.2 ⟨g9, hg9, e9⟩
     subst haa;rw [hS0] at hu;rcases hu with ⟨S9, bt, hS, rfl, hbt, hwt, _⟩ | ⟨S9, hS, _⟩ | ⟨e9, hS, _⟩
     rotate_left
     · exact absurd hS ok_tf
     · exact absurd hS ok_err
     obtain rfl := ok_inj hS;have hone := tot_one hMS hnS (by rw [lenL_tell]; exact hKl);rw [← hA] at hone;have hcB := hcB.ta hC;have hch := hch.ta hC;have hb5 := hb5.k0 hC;have hrA := hrA.keep0 hC;refine zm rfl (zx rfl rfl (zx rfl rfl (za rfl (za rfl (zz (kh33 (Sr fun _ kh35 => zm rfl ?_)))))));refine WL.call hasF45 rfl rfl (l22one_spec aA A cA _ hrA hAw (by omega) (hg0.keep hch (fun b hb => by cases hb))) fun v w5 h' => ?_;obtain ⟨⟨bs, rfl, hbs, hges⟩, hC⟩ := h';have hcB := hcB.ta hC;have hch := hch.ta hC;have hb5 := hb5.k0 hC;have hrA := hrA.keep0 hC;have hbt := hbt.keep0 hC;refine za rfl (zz (kh35 (zc fun _ kh37 => zc fun _ kh38 => ?_)));refine CW.regionHC 26 rfl hmix fun kR39 kr39 hS hdr => ?_;have hcB := hcB.ta hdr;have hch := hch.ta hdr;have hb5 := hb5.k0 hdr;have hrA := hrA.keep0 hdr;have hbt := hbt.keep0 hdr;have hbs := hbs.keep0 hdr;refine wh 0 rfl hS (fun _ _ => Ev.move rfl) (wh 1 rfl hS (fun _ _ => Ev.neq rfl rfl) ?_);rw [decide_eq_false (by simp)];refine wh 2 rfl hS (fun _ _ => Ev.move rfl) ?_;refine WH.takeG 3 rfl (by kernel_rfl) (by kernel_rfl) (by kernel_rfl) rfl rfl rfl rfl hS (fun w' hw' => Ev.move rfl) rfl ?_;refine WH.takeG 4 rfl (by kernel_rfl) (by kernel_rfl) (by kernel_rfl) rfl rfl rfl rfl hS (fun w' hw' => Ev.eqlPtrNil rfl rfl) rfl ?_;refine wh 5 rfl hS (fun _ _ => Ev.pickF rfl rfl rfl) (wh 6 rfl hS (fun _ _ => Ev.move rfl) ?_);refine WH.takeG 7 rfl (by kernel_rfl) (by kernel_rfl) (by kernel_rfl) rfl rfl rfl rfl hS (fun w' hw' => Ev.move rfl) rfl ?_;refine WH.takeG 8 rfl (by kernel_rfl) (by kernel_rfl) (by kernel_rfl) rfl rfl rfl rfl hS (fun w' hw' => Ev.eqlPtrNil rfl rfl) rfl ?_;refine wh 9 rfl hS (fun _ _ => Ev.pickF rfl rfl rfl) (wh 10 rfl hS (fun _ _ => Ev.move rfl) ?_);refine WH.takeG 11 rfl (by kernel_rfl) (by kernel_rfl) (by kernel_rfl) rfl rfl rfl rfl hS (fun w' hw' => Ev.move rfl) rfl ?_;refine WH.takeG 13 rfl (by kernel_rfl) (by kernel_rfl) (by kernel_rfl) rfl rfl rfl rfl hS (fun w' hw' => Ev.move rfl) rfl ?_;refine WH.takeG 14 rfl (by kernel_rfl) (by kernel_rfl) (by kernel_rfl) rfl rfl rfl rfl hS (fun w' hw' => Ev.len rfl) rfl ?_;refine WH.oneCallG 12 rfl (by kernel_rfl) rfl rfl rfl rfl hasF34 rfl rfl (Count_spec_ bt S _ hbt hwt.s) fun v w6 h' => ?_;obtain ⟨rfl, hC⟩ := h';have hcB := hcB.ta hC;have hch := hch.ta hC;have hb5 := hb5.k0 hC;have hrA := hrA.keep0 hC;have hbt := hbt.keep0 hC;have hbs := hbs.keep0 hC;have hS := hS.trans hC;refine ⟨hS, ?_⟩;refine WH.narrow (S' := Chg [] w6) (fun w' hw' => hS.trans hw') ?_
     have hS : Chg [] w6 w6 := Chg.refl _ _;refine WH.takeG 15 rfl (by kernel_rfl) (by kernel_rfl) (by kernel_rfl) rfl rfl rfl rfl hS (fun w' hw' => Ev.neq rfl rfl) rfl ?_;have hal : S.s.al = A.length := by rw [hMS.s, hA]; exact ((catN_perm _ (List.reverse_perm _)).length_eq).symm
     rw [decide_eq_false (by omega)];refine wh 16 rfl hS (fun _ _ => Ev.pickF rfl rfl rfl) (wh 17 rfl hS (fun _ _ => Ev.move rfl) ?_);refine WH.takeG 18 rfl (by kernel_rfl) (by kernel_rfl) (by kernel_rfl) rfl rfl rfl rfl hS (fun w' hw' => Ev.move rfl) rfl ?_;refine WH.takeG 21 rfl (by kernel_rfl) (by kernel_rfl) (by kernel_rfl) rfl rfl rfl rfl hS (fun w' hw' => Ev.move rfl) rfl ?_;refine WH.oneCallG 19 rfl (by kernel_rfl) rfl rfl rfl rfl hasF14 rfl rfl (shEncode_spec bt _ _ hbt hwt hMS.ex) fun v w7 h' => ?_;obtain ⟨hg91, hC⟩ := h';obtain ⟨a91, c91, rfl, hcap91, hr91⟩ := hg91.row;have hcB := hcB.ta hC;have hch := hch.ta hC;have hb5 := hb5.k0 hC;have hrA := hrA.keep0 hC;have hbt := hbt.keep0 hC;have hbs := hbs.keep0 hC;have hS := hS.trans hC;refine ⟨hS, ?_⟩;refine WH.narrow (S' := Chg [] w7) (fun w' hw' => hS.trans hw') ?_;have hS : Chg [] w7 w7 := Chg.refl _ _;refine WH.takeG 20 rfl (by kernel_rfl) (by kernel_rfl) (by kernel_rfl) rfl rfl rfl rfl hS (fun w' hw' => Ev.toStr (l := encS S) rfl rfl (hr91.keep0 hw')) rfl ?_;refine WH.oneCallG 22 rfl (by kernel_rfl) rfl rfl rfl rfl hasF14 rfl rfl (shEncode_spec bs _ _ hbs (hone ▸ hwt) (hone ▸ hMS.ex)) fun v w8 h' => ?_;obtain ⟨hg94, hC⟩ := h';rw [hone] at hg94;obtain ⟨a94, c94, rfl, hcap94, hr94⟩ := hg94.row;have hcB := hcB.ta hC;have hch := hch.ta hC;have hb5 := hb5.k0 hC;have hrA := hrA.keep0 hC;have hbt := hbt.keep0 hC;have hS := hS.trans hC;refine ⟨hS, ?_⟩;refine WH.narrow (S' := Chg [] w8) (fun w' hw' => hS.trans hw') ?_;have hS : Chg [] w8 w8 := Chg.refl _ _;refine WH.takeG 23 rfl (by kernel_rfl) (by kernel_rfl) (by kernel_rfl) rfl rfl rfl rfl hS (fun w' hw' => Ev.toStr (l := encS S) rfl rfl (hr94.keep0 hw')) rfl ?_;refine WH.takeG 24 rfl (by kernel_rfl) (by kernel_rfl) (by kernel_rfl) rfl rfl rfl rfl hS (fun w' hw' => Ev.neqStr rfl rfl) rfl ?_;rw [decide_eq_false (by simp)];refine wh 25 rfl hS (fun _ _ => Ev.pickF rfl rfl rfl) ?_;refine WH.done (by kernel_rfl) (kr39 _ _ _ ?_);refine kh38 ?_;refine CW.condF rfl ?_;refine zkk ?_;refine kh37 (Sr fun _ kh40 => zm rfl (zm rfl (zg hb5 rfl ?_)));refine WL.call hasF27 rfl rfl (shSum_spec bt S mode pn pi _ hbt hwt (hg0.keep hch (fun b hb => by cases hb))) fun v w9 h' => ?_;obtain ⟨⟨x1, e1, rfl, hR1⟩, hC⟩ := h';have hcB := hcB.ta hC;have hch := hch.ta hC;have hb5 := hb5.k0 hC;have hrA := hrA.keep0 hC;refine zm rfl (zx rfl rfl (zx rfl rfl (za rfl (za rfl (zz (kh40 (Sr fun _ kh42 => zm rfl (zm rfl (zg hb5 rfl ?_)))))))))
     refine WL.call hasF30 rfl rfl (sumsExact_spec _ A mode pn pi _ (NF.of_row hrA hAw (by omega) rfl hcapA) (hg0.keep hch (fun b hb => by cases hb))) fun v w10 h' => ?_;obtain ⟨⟨x2, e2, rfl, hR2⟩, hC⟩ := h';have hcB := hcB.ta hC;refine zm rfl (zx rfl rfl (zx rfl rfl (za rfl (za rfl (zz (kh42 (Sr fun _ kh44 => zm rfl (zn rfl ?_))))))))
     by_cases h65 : A.length ≤ 65536
     ·refine WL.ev (Ev.leq rfl rfl) rfl ?_;rw [decide_eq_true (by omega)];have hMA := (Mk.oneL2 hAw hAl).1;rw [hone] at hMA;obtain ⟨hx12, he12⟩ := sum_same hMA hR1 (hR2 h65);have hx1 := sumSh_lt hR1;refine zm rfl (zw rfl (zm rfl (zw rfl (zm rfl (zw rfl ?_)))));refine WL.ev (Ev.neq rfl rfl) rfl ?_;rw [decide_eq_false (fun h => h he12)];refine zw rfl (zm rfl (zw rfl (zm rfl (zw rfl (zm rfl (zw rfl ?_))))));refine WL.call hasF46 rfl rfl (l22exact_spec x1 x2 _ hx1 (hx12 ▸ hx1)) fun v w11 h' => ?_;obtain ⟨rfl, rfl⟩ := h';rw [decide_eq_true hx12];refine zw rfl ?_;refine WL.ev (Ev.not rfl) rfl ?_;refine zw rfl (ze rfl rfl (zt rfl rfl (zz (kh44 ?_))));refine CW.condF rfl ?_;refine zkk ?_;refine kh18 ?_;refine zR fun _ kr46 => ?_;refine zm rfl ?_;(first | refine zi rfl rfl ?_ | refine zo rfl rfl ?_);refine za rfl ?_;refine WL.nil (kr46 _ _ _ ?_);refine ⟨rfl, i + 1, ?_, ?_, ?_⟩
      ·exact SLp
      ·exact ⟨by omega, hcB⟩
      ·show (nmL G).length - (i + 1) < (nmL G).length - i; omega
     ·refine WL.ev (Ev.leq rfl rfl) rfl ?_;rw [decide_eq_false (by omega)];refine zm rfl (zv rfl (zv rfl (zv rfl (zv rfl (zu rfl (zu rfl (zu rfl (zu rfl (zv rfl (ze rfl rfl (zz (kh44 ?_))))))))))));refine CW.condF rfl ?_;refine zkk ?_;refine kh18 ?_;refine zR fun _ kr47 => ?_;refine zm rfl ?_;(first | refine zi rfl rfl ?_ | refine zo rfl rfl ?_);refine za rfl ?_;refine WL.nil (kr47 _ _ _ ?_);refine ⟨rfl, i + 1, ?_, ?_, ?_⟩
      ·exact SLp
      ·exact ⟨by omega, hcB⟩
      ·show (nmL G).length - (i + 1) < (nmL G).length - i; omega
  ·refine CW.exit ?_
   refine kh12 (Sr fun _ kh48 => zm rfl (za rfl (zz (kh48 ?_))));refine zr (zr1 rfl rfl ?_);exact ⟨rfl, hch⟩

end

/- What came in, opened; the listed table, opened. No condition. -/
section
open Go Sx Wd
open Go.ChangeShapes Go.WideShapes Go.ChangeAt Go.WideMaps Go.WideElems Go.RowKit

theorem own : ownKnob Tryz.prog.godebug = none := by kernel_rfl
theorem laidOut : laidOutB Tryz.prog = true := by kernel_rfl
theorem gDeb : Tryz.prog.globalNamed "math/bits.deBruijn32tab" = some 6 := by kernel_rfl
theorem tDeb : (Tryz.prog.globals[6]?).map (·.type) = some 394 := by kernel_rfl
theorem deb_data {H : Type} : (Rows.laid_math_bits_deBruijn32tab : DataW H) = .agg (deb.map fun n : Nat => .lit (.int .u8 (n : Int))) := rfl
/-- One float cell, read. -/
theorem float_cell {H : Type} {enc : TypeId × Value → H} {P : Program} {w : World} {base : Nat} {spare : Nat → Bool} {held : Bool} {n : Nat} {e : TypeId} {v : Value} {x : DataW H × List MemPlace} (he : P.underlying e = some (.float .f64)) (h : DataW.trod enc P w base spare held n e [v] = some x) : ∃ b, v = .float .f64 b ∧ b < 18446744073709551616 := by
  cases n with
  | zero => simp [DataW.trod] at h
  | succ n =>
    simp only [DataW.trod, he] at h
    cases v <;> simp_all
    rename_i k b
    cases k <;> simp_all [Lit.wf]
/-- A policy that came in. -/
theorem open_policy {H : Type} {enc : TypeId × Value → H} {w : World} {base b0 : Nat} {spare : Nat → Bool} {held : Bool} {v : Value} {d : DataW H} {ps : List MemPlace} (hval : Value.okWide Tryz.prog w .any b0 34 v) (h : DataW.Trod enc Tryz.prog w base spare held 34 v d ps) :
    ∃ n m : Int, v = .agg [.int .i64 n, .int .i64 m].toArray := by
  obtain ⟨fuel, hf⟩ := h
  have hu := Tryz.underlying34
  simp only [Value.okWide, hu] at hval
  obtain ⟨cs, rfl, hsz, _⟩ := hval
  have hc2 : Tryz.prog.cellsOf 34 = 2 := by kernel_rfl
  rw [hc2] at hsz
  obtain ⟨y0, y1, m1, _, _, h0, h1⟩ := trod_struct2 hu hf
  have c1 : Tryz.prog.cellsOf 3 = 1 := by kernel_rfl
  obtain ⟨n, e1, _, _⟩ := DataW.trod_int (show Tryz.prog.underlying 3 = some (.int .i64) from Tryz.underlying3) h0
  obtain ⟨m, e2, _, _⟩ := DataW.trod_int (show Tryz.prog.underlying 3 = some (.int .i64) from Tryz.underlying3) h1
  obtain ⟨l⟩ := cs
  simp only [Value.cells] at e1 e2
  match l, hsz with
  | [x, y], _ =>
    rw [c1] at e1 e2
    simp at e1 e2
    subst e1; subst e2
    exact ⟨n, m, rfl⟩
end

/- The listed variables of the store, opened: the table, the errors. No condition. -/
section
open Go Sx Wd
open Go.ChangeShapes Go.WideShapes Go.ChangeAt Go.WideMaps Go.WideElems Go.RowKit

theorem door_metS (os : Os) (args : Array Value) : laidMetH Tryz.prog [("math/bits.deBruijn32tab", Rows.laid_math_bits_deBruijn32tab), ("errors.errorType", Rows.laid_errors_errorType), ("steelyard/store.errForm", Rows.laid_steelyard_store_errForm), ("steelyard/store.errTorn", Rows.laid_steelyard_store_errTorn), ("steelyard/store.errSum", Rows.laid_steelyard_store_errSum), ("steelyard/store.errShard", Rows.laid_steelyard_store_errShard)] ((World.doorLaid Tryz.prog 400 os).forCall (fun _ _ => 0) ⟨#[], args, []⟩).memory :=
  laidMetH_of_parts3 (fuel := 8) (laidMet_of_run' 8 (by kernel_rfl) (by kernel_rfl)) (by kernel_rfl) (by kernel_rfl)
theorem gw_of_trod {W : World} {g0 : Nat} {t0 : TypeId} {cs0 : Array Value} {f0 : Nat} {p0 : List MemPlace} (hg0 : Tryz.prog.globalNamed "math/bits.deBruijn32tab" = some g0) (ht0 : (Tryz.prog.globals[g0]?).map (·.type) = some t0) (hv0 : W.var? Tryz.prog "math/bits.deBruijn32tab" = some cs0) (hd0 : DataW.trod (fun _ => ()) Tryz.prog W 0 (fun _ => true) false f0 t0 cs0.toList = some (Rows.laid_math_bits_deBruijn32tab, p0)) : GW W := by
  obtain rfl := Option.some.inj (gDeb.symm.trans hg0)
  obtain rfl := Option.some.inj (tDeb.symm.trans ht0)
  obtain ⟨xs, m1, rfl, hx1, hlen, hn3, hel⟩ := DataW.trod_array Tryz.underlying394 hd0
  have c8 : Tryz.prog.cellsOf 5 = 1 := by kernel_rfl
  simp only [Prod.mk.injEq] at hx1
  intro i hi
  have hi' := hel i hi
  rw [c8, Nat.mul_one] at hi'
  have hxi : xs[i]? = some (xs[i]'(by omega)) := List.getElem?_eq_getElem (by omega)
  rw [hxi] at hi'
  obtain ⟨k, e1, e2, _⟩ := DataW.trod_int Tryz.underlying5 hi'
  have hxs : (deb.map fun n : Nat => (DataW.lit (.int .u8 (n : Int)) : DataW Unit)) = xs.map (·.1) := by
    have := hx1.1
    rw [deb_data] at this
    exact DataW.agg.inj this
  have hdat : (deb.map fun n : Nat => (DataW.lit (.int .u8 (n : Int)) : DataW Unit))[i]? = some (.lit (.int .u8 ((deb.getD i 0 : Nat) : Int))) := by
    rw [List.getElem?_map, List.getElem?_eq_getElem (show i < deb.length from hi), List.getD_eq_getElem?_getD, List.getElem?_eq_getElem (show i < deb.length from hi)]; rfl
  rw [hxs, List.getElem?_map, hxi] at hdat
  simp only [Option.map_some] at hdat
  rw [e2] at hdat
  have hk : k = ((deb.getD i 0 : Nat) : Int) := by
    have := Option.some.inj hdat
    simp only [DataW.lit.injEq, Lit.int.injEq, true_and] at this
    exact this
  subst hk
  have hc : cs0[i]? = some (.int .u8 ((deb.getD i 0 : Nat) : Int)) := by
    have h3 : (cs0.toList.drop i)[0]? = some (.int .u8 ((deb.getD i 0 : Nat) : Int)) := by
      have := congrArg (fun l : List Value => l[0]?) e1
      simpa using this
    simpa using h3
  have := World.var?_cell hg0 hv0 i
  rw [hc] at this
  exact this

theorem star_es : "*" ++ "errors.errorString" = "*errors.errorString" := by decide
theorem row_es (u : TypeId) (h : Tryz.prog.typeName? 3 u = some "*errors.errorString") : u = 404 :=
  typeName_ptr_named (nm := "errors.errorString") (by rw [star_es]; kernel_rfl) (by kernel_rfl) (by decide) u (by rw [star_es]; exact h)
theorem c1_es : Tryz.prog.cellsOf 424 = 1 := by kernel_rfl
theorem c1_str : Tryz.prog.cellsOf 9 = 1 := by kernel_rfl
theorem g_errForm : Tryz.prog.globalNamed "steelyard/store.errForm" = some 2 := by kernel_rfl
theorem t_errForm : (Tryz.prog.globals[2]?).map (·.type) = some 123 := by kernel_rfl
theorem g_errTorn : Tryz.prog.globalNamed "steelyard/store.errTorn" = some 3 := by kernel_rfl
theorem t_errTorn : (Tryz.prog.globals[3]?).map (·.type) = some 123 := by kernel_rfl
theorem g_errSum : Tryz.prog.globalNamed "steelyard/store.errSum" = some 4 := by kernel_rfl
theorem t_errSum : (Tryz.prog.globals[4]?).map (·.type) = some 123 := by kernel_rfl
theorem g_errShard : Tryz.prog.globalNamed "steelyard/store.errShard" = some 5 := by kernel_rfl
theorem t_errShard : (Tryz.prog.globals[5]?).map (·.type) = some 123 := by kernel_rfl
theorem nodup_mem {α : Type} {A B : List α} {x : α} (h : (A ++ B).Nodup) (ha : x ∈ A) (hb : x ∈ B) : False := (List.nodup_append.1 h).2.2 x ha x hb rfl
/-- The table and the errors, as they lie when the call begins. -/
structure LaidG (W : World) (ea : Nat → Addr) : Prop where
  gw : GW W
  ge : GE W (evV ea)
  cell : ∀ c, 1 ≤ c → c ≤ 4 → ∃ cs t, W.heap[(ea c).block]? = some (.cells cs t (0, 0))
  ne : ∀ c d, 1 ≤ c → c ≤ 4 → 1 ≤ d → d ≤ 4 → c ≠ d → ea c ≠ ea d
theorem laidG {W : World} (h : laidMetH Tryz.prog [("math/bits.deBruijn32tab", Rows.laid_math_bits_deBruijn32tab), ("errors.errorType", Rows.laid_errors_errorType), ("steelyard/store.errForm", Rows.laid_steelyard_store_errForm), ("steelyard/store.errTorn", Rows.laid_steelyard_store_errTorn), ("steelyard/store.errSum", Rows.laid_steelyard_store_errSum), ("steelyard/store.errShard", Rows.laid_steelyard_store_errShard)] W) : ∃ ea, LaidG W ea := by
  have h' : laidMet Tryz.prog [("math/bits.deBruijn32tab", Rows.laid_math_bits_deBruijn32tab), ("steelyard/store.errForm", Rows.laid_steelyard_store_errForm), ("steelyard/store.errTorn", Rows.laid_steelyard_store_errTorn), ("steelyard/store.errSum", Rows.laid_steelyard_store_errSum), ("steelyard/store.errShard", Rows.laid_steelyard_store_errShard)] W ∧ handlesMet Tryz.prog [("errors.errorType", Rows.laid_errors_errorType)] W := h
  obtain ⟨⟨ps, ⟨g0, t0, cs0, f0, p0, q0, hg0, ht0, hv0, hd0, hch, e0⟩, hnd, hrows⟩, _⟩ := h'
  have hGW := gw_of_trod hg0 ht0 hv0 hd0
  obtain ⟨g1, t1, cs1, f1, p1, q1, hg1, ht1, hv1, hd1, hch1, e1⟩ := hch
  obtain ⟨g2, t2, cs2, f2, p2, q2, hg2, ht2, hv2, hd2, hch2, e2⟩ := hch1
  obtain ⟨g3, t3, cs3, f3, p3, q3, hg3, ht3, hv3, hd3, hch3, e3⟩ := hch2
  obtain ⟨g4, t4, cs4, f4, p4, q4, hg4, ht4, hv4, hd4, hch4, e4⟩ := hch3
  have hq4 : q4 = [] := hch4
  obtain rfl := Option.some.inj (g_errForm.symm.trans hg1)
  obtain rfl := Option.some.inj (t_errForm.symm.trans ht1)
  obtain rfl := Option.some.inj (g_errTorn.symm.trans hg2)
  obtain rfl := Option.some.inj (t_errTorn.symm.trans ht2)
  obtain rfl := Option.some.inj (g_errSum.symm.trans hg3)
  obtain rfl := Option.some.inj (t_errSum.symm.trans ht3)
  obtain rfl := Option.some.inj (g_errShard.symm.trans hg4)
  obtain rfl := Option.some.inj (t_errShard.symm.trans ht4)
  subst hq4
  subst e4; subst e3; subst e2; subst e1; subst e0
  obtain ⟨l1⟩ := cs1
  have ok1 : ∀ u v, l1 = [.iface u v] → Value.okWide Tryz.prog W .any 0 u v := fun u v e => by
    subst e
    exact (hrows 2 0 (by simp [MemPlace.row])).2 u v (by simpa using World.var?_cell hg1 hv1 0)
  obtain ⟨a1, s1, rfl, hc1, hs1, hz1, rfl⟩ := errorString_of_trod Tryz.underlying123 row_es Tryz.underlying404 Tryz.underlying424 rfl rfl Tryz.underlying9 c1_es c1_str hd1 ok1
  obtain ⟨c1, u1, hb1⟩ := (hrows a1.block a1.off (by simp [MemPlace.row])).1
  have hw1 : W.cell? ⟨2, 0, none⟩ = some (.iface 404 (.pointer (some a1))) := by simpa using World.var?_cell hg1 hv1 0
  obtain ⟨l2⟩ := cs2
  have ok2 : ∀ u v, l2 = [.iface u v] → Value.okWide Tryz.prog W .any 0 u v := fun u v e => by
    subst e
    exact (hrows 3 0 (by simp [MemPlace.row])).2 u v (by simpa using World.var?_cell hg2 hv2 0)
  obtain ⟨a2, s2, rfl, hc2, hs2, hz2, rfl⟩ := errorString_of_trod Tryz.underlying123 row_es Tryz.underlying404 Tryz.underlying424 rfl rfl Tryz.underlying9 c1_es c1_str hd2 ok2
  obtain ⟨c2, u2, hb2⟩ := (hrows a2.block a2.off (by simp [MemPlace.row])).1
  have hw2 : W.cell? ⟨3, 0, none⟩ = some (.iface 404 (.pointer (some a2))) := by simpa using World.var?_cell hg2 hv2 0
  obtain ⟨l3⟩ := cs3
  have ok3 : ∀ u v, l3 = [.iface u v] → Value.okWide Tryz.prog W .any 0 u v := fun u v e => by
    subst e
    exact (hrows 4 0 (by simp [MemPlace.row])).2 u v (by simpa using World.var?_cell hg3 hv3 0)
  obtain ⟨a3, s3, rfl, hc3, hs3, hz3, rfl⟩ := errorString_of_trod Tryz.underlying123 row_es Tryz.underlying404 Tryz.underlying424 rfl rfl Tryz.underlying9 c1_es c1_str hd3 ok3
  obtain ⟨c3, u3, hb3⟩ := (hrows a3.block a3.off (by simp [MemPlace.row])).1
  have hw3 : W.cell? ⟨4, 0, none⟩ = some (.iface 404 (.pointer (some a3))) := by simpa using World.var?_cell hg3 hv3 0
  obtain ⟨l4⟩ := cs4
  have ok4 : ∀ u v, l4 = [.iface u v] → Value.okWide Tryz.prog W .any 0 u v := fun u v e => by
    subst e
    exact (hrows 5 0 (by simp [MemPlace.row])).2 u v (by simpa using World.var?_cell hg4 hv4 0)
  obtain ⟨a4, s4, rfl, hc4, hs4, hz4, rfl⟩ := errorString_of_trod Tryz.underlying123 row_es Tryz.underlying404 Tryz.underlying424 rfl rfl Tryz.underlying9 c1_es c1_str hd4 ok4
  obtain ⟨c4, u4, hb4⟩ := (hrows a4.block a4.off (by simp [MemPlace.row])).1
  have hw4 : W.cell? ⟨5, 0, none⟩ = some (.iface 404 (.pointer (some a4))) := by simpa using World.var?_cell hg4 hv4 0
  refine ⟨fun c => if c = 1 then a1 else if c = 2 then a2 else if c = 3 then a3 else a4, hGW, ⟨hw1, hw2, hw3, hw4⟩, fun c h1 h4 => ?_, fun c d hc1 hc4 hd1 hd4 hne he => ?_⟩
  · have : c = 1 ∨ c = 2 ∨ c = 3 ∨ c = 4 := by omega
    rcases this with rfl | rfl | rfl | rfl
    · exact ⟨_, _, hb1⟩
    · exact ⟨_, _, hb2⟩
    · exact ⟨_, _, hb3⟩
    · exact ⟨_, _, hb4⟩
  · have hn1 := (List.nodup_append.1 hnd).2.1
    have hn2 := (List.nodup_append.1 hn1).2.1
    have hn3 := (List.nodup_append.1 hn2).2.1
    have n12 : a1 ≠ a2 := fun e => nodup_mem hn1 (x := .cell a1.block a1.off) (by simp [MemPlace.row]) (by rw [e]; simp [MemPlace.row])
    have n13 : a1 ≠ a3 := fun e => nodup_mem hn1 (x := .cell a1.block a1.off) (by simp [MemPlace.row]) (by rw [e]; simp [MemPlace.row])
    have n14 : a1 ≠ a4 := fun e => nodup_mem hn1 (x := .cell a1.block a1.off) (by simp [MemPlace.row]) (by rw [e]; simp [MemPlace.row])
    have n23 : a2 ≠ a3 := fun e => nodup_mem hn2 (x := .cell a2.block a2.off) (by simp [MemPlace.row]) (by rw [e]; simp [MemPlace.row])
    have n24 : a2 ≠ a4 := fun e => nodup_mem hn2 (x := .cell a2.block a2.off) (by simp [MemPlace.row]) (by rw [e]; simp [MemPlace.row])
    have n34 : a3 ≠ a4 := fun e => nodup_mem hn3 (x := .cell a3.block a3.off) (by simp [MemPlace.row]) (by rw [e]; simp [MemPlace.row])
    have hc : c = 1 ∨ c = 2 ∨ c = 3 ∨ c = 4 := by omega
    have hd : d = 1 ∨ d = 2 ∨ d = 3 ∨ d = 4 := by omega
    rcases hc with rfl | rfl | rfl | rfl <;> rcases hd with rfl | rfl | rfl | rfl <;> first | exact hne rfl | exact n12 he | exact n13 he | exact n14 he | exact n23 he | exact n24 he | exact n34 he | exact n12 he.symm | exact n13 he.symm | exact n14 he.symm | exact n23 he.symm | exact n24 he.symm | exact n34 he.symm
end

/- The law StoreTold. No condition. -/
section
open Go Sx Wd Fl

end

/- Asked records that came in; errors.As's own type, as it lies. No condition. -/
section
open Go Sx Wd
open Go.ChangeShapes Go.WideShapes Go.ChangeAt Go.WideMaps Go.WideElems Go.RowKit

theorem weightsAll_mem {H : Type} {P : Program} {e : TypeId} : ∀ {l : List (DataW H)} {d : DataW H}, d ∈ l → ∀ n ∈ d.weights P e, n ∈ DataW.weightsAll P e l
  | x :: l, d, hd, n, hn => by
    simp only [DataW.weightsAll, List.mem_append]
    rcases List.mem_cons.1 hd with rfl | hd
    · exact .inl hn
    · exact .inr (weightsAll_mem hd n hn)
theorem trod_two {H : Type} {enc : TypeId × Value → H} {P : Program} {w : World} {base : Nat} {spare : Nat → Bool} {held : Bool} {t : TypeId} {f0 f1 : Field} {fuel : Nat} {cs : List Value} {x : DataW H × List MemPlace} (ht : P.underlying t = some (.struct #[f0, f1])) (h : DataW.trod enc P w base spare held fuel t cs = some x) :
    ∃ y0 y1 n, x.1 = .agg [y0.1, y1.1] ∧ cs.length = P.cellsOf t ∧ DataW.trod enc P w base spare held n f0.type ((cs.drop f0.offset).take (P.cellsOf f0.type)) = some y0 ∧ DataW.trod enc P w base spare held n f1.type ((cs.drop f1.offset).take (P.cellsOf f1.type)) = some y1 := by
  obtain ⟨xs, n, _, rfl, hl, hlen, hf⟩ := DataW.trod_struct ht h
  match xs, hlen with
  | [y0, y1], _ => exact ⟨y0, y1, n, rfl, hl, by simpa using hf 0 f0 rfl, by simpa using hf 1 f1 rfl⟩
theorem sized_mem {H : Type} {P : Program} {ts : List TypeId} {ds : List (DataW H)} (h : (DataW.weightsEach P ts ds).all (· ≤ reachBytes) = true) {j : Nat} {t : TypeId} {d : DataW H} (ht : ts[j]? = some t) (hd : ds[j]? = some d) : ∀ k ∈ d.weights P t, k ≤ reachBytes := fun k hk => by
  have := List.all_eq_true.1 h _ (DataW.weights_mem_each ht hd k hk)
  simpa using this
/-! ### errors.As's own type -/
end

/- A form that came in, of a bulk that is bounded. No condition. -/
section
open Go Sx Wd
open Go.ChangeShapes Go.WideShapes Go.ChangeAt Go.WideMaps Go.WideElems Go.RowKit

theorem bulk_one {H : Type} (d : DataW H) : 1 ≤ Rows.uptoBulk d := by
  cases d with
  | lit l => cases l <;> simp [Rows.uptoBulk]
  | nil => simp [Rows.uptoBulk]
  | ptr d => simp [Rows.uptoBulk]
  | slice elems spare => simp [Rows.uptoBulk]
  | agg parts => simp [Rows.uptoBulk]
  | iface t d => simp [Rows.uptoBulk]
  | map entries => simp [Rows.uptoBulk]
  | held h => simp [Rows.uptoBulk]
end

/- Asked records that came in, and how many they are. No condition. -/
section
open Go Sx Wd
open Go.ChangeShapes Go.WideShapes Go.ChangeAt Go.WideMaps Go.WideElems Go.RowKit

theorem bulkAll_len {H : Type} : ∀ l : List (DataW H), l.length ≤ Rows.uptoBulkAll l
  | [] => Nat.zero_le _
  | d :: l => by
    have h1 := bulk_one d
    have h2 := bulkAll_len l
    simp only [Rows.uptoBulkAll, List.length_cons]
    omega
theorem bulkAll_map {H : Type} (D : Nat → DataW H) (f : Nat → Nat) : ∀ l : List Nat, (∀ i ∈ l, f i ≤ Rows.uptoBulk (D i)) → (l.map f).sum ≤ Rows.uptoBulkAll (l.map D)
  | [], _ => Nat.zero_le _
  | i :: l, h => by
    have h1 := h i (List.mem_cons_self ..)
    have h2 := bulkAll_map D f l fun j hj => h j (List.mem_cons_of_mem _ hj)
    simp only [List.map_cons, List.sum_cons, Rows.uptoBulkAll]
    omega
/-- A list of floats in one cell. -/
theorem cell_nf2 {H : Type} {enc : TypeId × Value → H} {P : Program} {w : World} {base : Nat} {spare : Nat → Bool} {held : Bool} {n : Nat} {t e : TypeId} {cs : List Value} {x : DataW H × List MemPlace} (ht : P.underlying t = some (.slice e)) (he : P.underlying e = some (.float .f64)) (hc : P.cellsOf e = 1) (hb : P.bytesOf e = 8)
    (h : DataW.trod enc P w base spare held n t cs = some x) (hsz : ∀ k ∈ x.1.weights P t, k ≤ reachBytes) : ∃ (v : Value) (l : List Nat), cs = [v] ∧ NF w v l ∧ l.length ≤ Rows.uptoBulk x.1 := by
  rcases Go.Deep.open_slice1 ht hc h with ⟨hcs, _⟩ | ⟨ad, len, cap, m, n, V, D, Pl, hcs, _, hlc, hcm, hm, hx, hV⟩
  · exact ⟨_, [], hcs, ⟨⟨none, 0, rfl, Nat.le_refl _, RW.nil⟩, fun x hx => (by cases hx), by decide⟩, Nat.zero_le _⟩
  · have hlm : len ≤ m := by rw [hm]; split <;> omega
    have h8 := hsz (((List.range len).map D).length * 8 + ((List.range (m - len)).map fun j => D (len + j)).length * 8) (by
      rw [hx]
      simp only [DataW.weights, ht, hb]
      rw [← Nat.add_mul]
      exact List.mem_cons_self ..)
    simp only [List.length_map, List.length_range] at h8
    have hr : reachBytes = 140737488351232 := by decide
    have hlen : len ≤ 17592186044415 := by omega
    obtain ⟨f, hf2⟩ := Go.Deep.choose_lt (α := Nat) (n := len) (p := fun i b => V i = .float .f64 b ∧ b < 18446744073709551616) (fun i hi => float_cell he (hV i (by omega)).2)
    refine ⟨_, (List.range len).map f, hcs, ⟨⟨some ad, cap, by simp, by simpa using hlc, fun i y hy => ?_⟩, fun y hy => ?_, by simp; omega⟩, ?_⟩
    · have hi : i < len := by
        by_cases q : i < len
        · exact q
        · rw [List.getElem?_eq_none (by simp; omega)] at hy; cases hy
      simp [List.getElem?_range hi] at hy
      subst hy
      exact ⟨ad, rfl, by rw [(hV i (by omega)).1, (hf2 i hi).1]; rfl⟩
    · obtain ⟨i, hi, rfl⟩ := List.mem_map.1 hy
      exact (hf2 i (List.mem_range.1 hi)).2
    · rw [hx]
      simp only [Rows.uptoBulk]
      have := bulkAll_len ((List.range len).map D)
      simp only [List.length_map, List.length_range] at this ⊢
      omega
/-- One asked record. -/
theorem cell_put2 {H : Type} {enc : TypeId × Value → H} {w : World} {base : Nat} {spare : Nat → Bool} {held : Bool} {n : Nat} {cs : List Value} {x : DataW H × List MemPlace} (h : DataW.trod enc Tryz.prog w base spare held n 88 cs = some x) (hsz : ∀ k ∈ x.1.weights Tryz.prog 88, k ≤ reachBytes) :
    ∃ g : RG, cs = [.string g.1, g.2.2] ∧ NF w g.2.2 g.2.1 ∧ g.2.1.length ≤ Rows.uptoBulk x.1 := by
  have hu := Tryz.underlying88
  have c2 : Tryz.prog.cellsOf 88 = 2 := by kernel_rfl
  have cs1 : Tryz.prog.cellsOf 9 = 1 := by kernel_rfl
  have cf1 : Tryz.prog.cellsOf 32 = 1 := by kernel_rfl
  obtain ⟨y0, y1, m, hx, hl, h0, h1⟩ := trod_two hu h
  rw [c2] at hl
  match cs, hl with
  | [a, b], _ =>
    have h0' : DataW.trod enc Tryz.prog w base spare held m 9 [a] = some y0 := by simpa [cs1] using h0
    have h1' : DataW.trod enc Tryz.prog w base spare held m 32 [b] = some y1 := by simpa [cf1] using h1
    obtain ⟨s, e0, _, _⟩ := DataW.trod_string Tryz.underlying9 h0'
    obtain ⟨v, l, e1, hv, hbv⟩ := cell_nf2 Tryz.underlying32 Tryz.underlying31 (by kernel_rfl) (by kernel_rfl) h1' (fun k hk => hsz k (by
      rw [hx]
      simp only [DataW.weights, hu]
      simp only [List.map_cons, List.map_nil, DataW.weightsEach, List.mem_append]
      exact .inr (.inl hk)))
    injection e0 with e0 _
    injection e1 with e1 _
    exact ⟨(s, l, v), by rw [e0, e1], hv, by
      rw [hx]
      simp only [Rows.uptoBulk, Rows.uptoBulkAll]
      try dsimp only at hbv ⊢
      omega⟩
/-- Asked records that came in. -/
theorem open_puts2 {H : Type} {enc : TypeId × Value → H} {w : World} {base b0 : Nat} {spare : Nat → Bool} {held : Bool} {v : Value} {d : DataW H} {ps : List MemPlace} (hval : Value.okWide Tryz.prog w .any b0 83 v) (h : DataW.Trod enc Tryz.prog w base spare held 83 v d ps)
    (hsz : ∀ k ∈ d.weights Tryz.prog 83, k ≤ reachBytes) : ∃ (a : Option Addr) (P : List RG) (c : Nat), v = .slice a P.length c ∧ RW w a (recC P) ∧ PutM w P ∧ lenP P ≤ Rows.uptoBulk d := by
  have hu := Tryz.underlying83
  have c2 : Tryz.prog.cellsOf 88 = 2 := by kernel_rfl
  obtain ⟨a, len, cap, rfl⟩ := okWide_slice hu hval
  obtain ⟨fuel, hf⟩ := h
  rcases Go.Deep.open_slice hu hf with ⟨hcs, _⟩ | ⟨ad, l, c, m, n, D, Pl, hcs, _, hlc, hcm, hm, hx, hV⟩
  · simp [Value.cells] at hcs
    obtain ⟨rfl, rfl, rfl⟩ := hcs
    exact ⟨none, [], 0, rfl, RW.nil, (fun g hg => by cases hg), Nat.zero_le _⟩
  · simp [Value.cells] at hcs
    obtain ⟨rfl, rfl, rfl⟩ := hcs
    have hlm : len ≤ m := by rw [hm]; split <;> omega
    simp only [Prod.mk.injEq] at hx
    obtain ⟨f, hf2⟩ := Go.Deep.choose_lt (α := RG) (n := len) (p := fun i g => (∀ j v, [Value.string g.1, g.2.2][j]? = some v → w.cell? ((ad.add (i * 2)).add j) = some v) ∧ NF w g.2.2 g.2.1 ∧ g.2.1.length ≤ Rows.uptoBulk (D i)) (fun i hi => by
      obtain ⟨cs', h1, h2⟩ := hV i (by omega)
      rw [c2] at h1
      obtain ⟨_, hlen, hcell⟩ := World.cells?_some h1
      obtain ⟨g, rfl, hg⟩ := cell_put2 h2 (fun k hk => hsz k (by
        rw [hx.1]
        simp only [DataW.weights, hu, List.mem_cons, List.mem_append]
        exact .inr (.inl (weightsAll_mem (List.mem_map.2 ⟨i, List.mem_range.2 hi, rfl⟩) k hk))))
      refine ⟨g, fun j v hv => ?_, hg⟩
      have hj : j < 2 := by
        rcases Nat.lt_or_ge j 2 with q | q
        · exact q
        · rw [List.getElem?_eq_none (by simpa using q)] at hv; cases hv
      rw [hcell j hj]
      exact hv)
    refine ⟨some ad, (List.range len).map f, cap, by simp, fun i y hy => ?_, fun g hg => ?_, ?_⟩
    · have hil : i < len * 2 := by
        rcases Nat.lt_or_ge i (len * 2) with q | q
        · exact q
        · rw [List.getElem?_eq_none (by rw [recC_len]; simpa using q)] at hy; cases hy
      have hk : i / 2 < len := by omega
      have hg : ((List.range len).map f)[i / 2]? = some (f (i / 2)) := by simp [List.getElem?_range hk]
      obtain ⟨r1, r2⟩ := recC_at hg
      have hc := (hf2 (i / 2) hk).1
      refine ⟨ad, rfl, ?_⟩
      rcases (by omega : i % 2 = 0 ∨ i % 2 = 1) with q | q
      · have e : i = 2 * (i / 2) := by omega
        rw [e, r1] at hy
        cases hy
        have := hc 0 _ rfl
        rw [addr_add2, show i / 2 * 2 + 0 = i by omega] at this
        exact this
      · have e : i = 2 * (i / 2) + 1 := by omega
        rw [e, r2] at hy
        cases hy
        have := hc 1 _ rfl
        rw [addr_add2, show i / 2 * 2 + 1 = i by omega] at this
        exact this
    · obtain ⟨i, hi, rfl⟩ := List.mem_map.1 hg
      exact (hf2 i (List.mem_range.1 hi)).2.1
    · rw [hx.1]
      simp only [Rows.uptoBulk]
      have := bulkAll_map D (fun i => (f i).2.1.length) (List.range len) (fun i hi => (hf2 i (List.mem_range.1 hi)).2.2)
      unfold lenP
      rw [List.map_map]
      have e : (fun g : RG => g.2.1.length) ∘ f = fun i => (f i).2.1.length := rfl
      rw [e]
      omega
end

/- A row's joined facts, one by one. No condition. -/
section
open Go
def jf1 (P : Program) (f : FuncId) (fn : Func) (s : ChangeSpec) (c : OpenClaim) : Bool := c.wf (OpenSpec.ofChange s)
def jf2 (P : Program) (f : FuncId) (fn : Func) (s : ChangeSpec) (c : OpenClaim) : Bool := laidOutB P
def jf3 (P : Program) (f : FuncId) (fn : Func) (s : ChangeSpec) (c : OpenClaim) : Bool := mapsRowed P
def jf4 (P : Program) (f : FuncId) (fn : Func) (s : ChangeSpec) (c : OpenClaim) : Bool := fn.params.all (P.readableRec ·)
def jf5 (P : Program) (f : FuncId) (fn : Func) (s : ChangeSpec) (c : OpenClaim) : Bool := namedTie P c.named s.vars
def jf6 (P : Program) (f : FuncId) (fn : Func) (s : ChangeSpec) (c : OpenClaim) : Bool := (c.stops == [])
def jf7 (P : Program) (f : FuncId) (fn : Func) (s : ChangeSpec) (c : OpenClaim) : Bool := (P.stops == [])
def jf8 (P : Program) (f : FuncId) (fn : Func) (s : ChangeSpec) (c : OpenClaim) : Bool := (c.knobs == [])
def jf9 (P : Program) (f : FuncId) (fn : Func) (s : ChangeSpec) (c : OpenClaim) : Bool := (P.stopKnobs == [])
def jf10 (P : Program) (f : FuncId) (fn : Func) (s : ChangeSpec) (c : OpenClaim) : Bool := (c.inPlace == P.inPlace f)
def jf11 (P : Program) (f : FuncId) (fn : Func) (s : ChangeSpec) (c : OpenClaim) : Bool := (c.unfollowed == P.unfollowed f)
def jf12 (P : Program) (f : FuncId) (fn : Func) (s : ChangeSpec) (c : OpenClaim) : Bool := (c.recurses == P.recurses f)
def jf13 (P : Program) (f : FuncId) (fn : Func) (s : ChangeSpec) (c : OpenClaim) : Bool := (c.named == P.varsNamed f)
def jf14 (P : Program) (f : FuncId) (fn : Func) (s : ChangeSpec) (c : OpenClaim) : Bool := (c.maps == (fn.params.toList ++ s.plain.varTypes P).any (P.mapsRec ·))
def jf15 (P : Program) (f : FuncId) (fn : Func) (s : ChangeSpec) (c : OpenClaim) : Bool := (c.ifaces == (fn.params.toList ++ s.plain.varTypes P).any (P.ifacesRec ·))
def jf16 (P : Program) (f : FuncId) (fn : Func) (s : ChangeSpec) (c : OpenClaim) : Bool := (c.mapsOut == P.mapsAmong fn.resultTypes.toList)
def jf17 (P : Program) (f : FuncId) (fn : Func) (s : ChangeSpec) (c : OpenClaim) : Bool := (c.loops == (fn.params.toList ++ s.plain.varTypes P).any (P.loopsFrom ·))
def jf18 (P : Program) (f : FuncId) (fn : Func) (s : ChangeSpec) (c : OpenClaim) : Bool := (c.wideKeys == (fn.params.toList ++ s.plain.varTypes P ++ fn.resultTypes.toList).any (P.wideKeysFrom ·))
def jf19 (P : Program) (f : FuncId) (fn : Func) (s : ChangeSpec) (c : OpenClaim) : Bool := s.vars.all (P.varReadable ·)
def jf20 (P : Program) (f : FuncId) (fn : Func) (s : ChangeSpec) (c : OpenClaim) : Bool := fn.resultTypes.all (fun t => P.readableRec t && decide (t < P.types.size))
def jf21 (P : Program) (f : FuncId) (fn : Func) (s : ChangeSpec) (c : OpenClaim) : Bool := (c.ifacesOut == fn.resultTypes.toList.any (P.ifacesRec ·))
def jf22 (P : Program) (f : FuncId) (fn : Func) (s : ChangeSpec) (c : OpenClaim) : Bool := (c.loopsOut == fn.resultTypes.toList.any (P.loopsFrom ·))
def jf23 (P : Program) (f : FuncId) (fn : Func) (s : ChangeSpec) (c : OpenClaim) : Bool := (c.plainKeys == P.plainKeys)
def jf24 (P : Program) (f : FuncId) (fn : Func) (s : ChangeSpec) (c : OpenClaim) : Bool := c.shortTexts.isNone
def jf25 (P : Program) (f : FuncId) (fn : Func) (s : ChangeSpec) (c : OpenClaim) : Bool := P.stopsHeard
def jf26 (P : Program) (f : FuncId) (fn : Func) (s : ChangeSpec) (c : OpenClaim) : Bool := P.mayEnter
def jf27 (P : Program) (f : FuncId) (fn : Func) (s : ChangeSpec) (c : OpenClaim) : Bool := (c.lifted == P.liftsFinal)
def jf28 (P : Program) (f : FuncId) (fn : Func) (s : ChangeSpec) (c : OpenClaim) : Bool := (P.make == some c.make)
def jf29 (P : Program) (f : FuncId) (fn : Func) (s : ChangeSpec) (c : OpenClaim) : Bool := (c.kinds == (if c.domain.isEmpty then [] else fn.params.toList.map fun t => match P.underlying t with | some (.int k) => some k | _ => none))
def jf30 (P : Program) (f : FuncId) (fn : Func) (s : ChangeSpec) (c : OpenClaim) : Bool := (c.pinned == c.pinnedBy)
def jf31 (P : Program) (f : FuncId) (fn : Func) (s : ChangeSpec) (c : OpenClaim) : Bool := (c.veiled == (fn.params.toList ++ s.plain.varTypes P ++ fn.resultTypes.toList).any (P.veiledRec ·))
def jf32 (P : Program) (f : FuncId) (fn : Func) (s : ChangeSpec) (c : OpenClaim) : Bool := c.veiledFits P fn.params.toList (fn.params.toList ++ s.plain.varTypes P ++ fn.resultTypes.toList)
theorem joined_of {P : Program} {f : FuncId} {fn : Func} {s : ChangeSpec} {c : OpenClaim}
    (h1 : jf1 P f fn s c = true)
    (h2 : jf2 P f fn s c = true)
    (h3 : jf3 P f fn s c = true)
    (h4 : jf4 P f fn s c = true)
    (h5 : jf5 P f fn s c = true)
    (h6 : jf6 P f fn s c = true)
    (h7 : jf7 P f fn s c = true)
    (h8 : jf8 P f fn s c = true)
    (h9 : jf9 P f fn s c = true)
    (h10 : jf10 P f fn s c = true)
    (h11 : jf11 P f fn s c = true)
    (h12 : jf12 P f fn s c = true)
    (h13 : jf13 P f fn s c = true)
    (h14 : jf14 P f fn s c = true)
    (h15 : jf15 P f fn s c = true)
    (h16 : jf16 P f fn s c = true)
    (h17 : jf17 P f fn s c = true)
    (h18 : jf18 P f fn s c = true)
    (h19 : jf19 P f fn s c = true)
    (h20 : jf20 P f fn s c = true)
    (h21 : jf21 P f fn s c = true)
    (h22 : jf22 P f fn s c = true)
    (h23 : jf23 P f fn s c = true)
    (h24 : jf24 P f fn s c = true)
    (h25 : jf25 P f fn s c = true)
    (h26 : jf26 P f fn s c = true)
    (h27 : jf27 P f fn s c = true)
    (h28 : jf28 P f fn s c = true)
    (h29 : jf29 P f fn s c = true)
    (h30 : jf30 P f fn s c = true)
    (h31 : jf31 P f fn s c = true)
    (h32 : jf32 P f fn s c = true)
    : joinedFacts P f fn s c = true := by
  unfold joinedFacts
  simp only [Bool.and_eq_true]
  exact ⟨⟨⟨⟨⟨⟨⟨⟨⟨⟨⟨⟨⟨⟨⟨⟨⟨⟨⟨⟨⟨⟨⟨⟨⟨⟨⟨⟨⟨⟨⟨h1, h2⟩, h3⟩, h4⟩, h5⟩, h6⟩, h7⟩, h8⟩, h9⟩, h10⟩, h11⟩, h12⟩, h13⟩, h14⟩, h15⟩, h16⟩, h17⟩, h18⟩, h19⟩, h20⟩, h21⟩, h22⟩, h23⟩, h24⟩, h25⟩, h26⟩, h27⟩, h28⟩, h29⟩, h30⟩, h31⟩, h32⟩
end

end Go.Proofs.YtnbipejaidbihaaGreatDoor