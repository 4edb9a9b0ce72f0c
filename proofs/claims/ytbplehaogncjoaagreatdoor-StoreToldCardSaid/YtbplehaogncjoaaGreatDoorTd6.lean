/- Part 6 of what the proof rests on. No condition. -/
import Derived.Test.YtbplehaogncjoaaGreatDoorTd5
import Derived.WalkKit
import Derived.ProofKit
import Derived.OpenShut
import Derived.ChangeOld
import Derived.Below
import Derived.Deep.Slices
import Derived.Laws.Cover2
import Derived.LaidMore
import Derived.LaidHandle
import Derived.ChangeMaps5
import Derived.SizedLaws
import Derived.SevenTiedAt
import Derived.Stop.Joined
import Derived.Stop.ErrReads
import Derived.Test.YtbplehaogncjoaaGreatDoorRows
set_option linter.unusedVariables false
set_option linter.unusedSimpArgs false
set_option maxRecDepth 100000
set_option maxHeartbeats 4000000
namespace Go.Proofs.YtbplehaogncjoaaGreatDoor
/- The listed variables of the store, opened: the table, the errors. No condition. -/
section
open Go Sx Wd
open Go.ChangeShapes Go.WideShapes Go.ChangeAt Go.WideMaps Go.WideElems Go.RowKit

theorem door_metS (os : Os) (args : Array Value) : laidMetH Tryz.prog [("math/bits.deBruijn32tab", Rows.laid_math_bits_deBruijn32tab), ("errors.errorType", Rows.laid_errors_errorType), ("steelyard/store.errForm", Rows.laid_steelyard_store_errForm), ("steelyard/store.errTorn", Rows.laid_steelyard_store_errTorn), ("steelyard/store.errSum", Rows.laid_steelyard_store_errSum), ("steelyard/store.errShard", Rows.laid_steelyard_store_errShard)] ((World.doorLaid Tryz.prog 400 os).forCall (fun _ _ => 0) ⟨#[], args, []⟩).memory :=
  laidMetH_of_parts3 (fuel := 8) (laidMet_of_run' 8 (by kernel_rfl) (by kernel_rfl)) (by kernel_rfl) (by kernel_rfl)
theorem gw_of_trod {W : World} {g0 : Nat} {t0 : TypeId} {cs0 : Array Value} {f0 : Nat} {p0 : List MemPlace} (hg0 : Tryz.prog.globalNamed "math/bits.deBruijn32tab" = some g0) (ht0 : (Tryz.prog.globals[g0]?).map (·.type) = some t0) (hv0 : W.var? Tryz.prog "math/bits.deBruijn32tab" = some cs0) (hd0 : DataW.trod (fun _ => ()) Tryz.prog W 0 (fun _ => true) false f0 t0 cs0.toList = some (Rows.laid_math_bits_deBruijn32tab, p0)) : GW W := by
  obtain rfl := Option.some.inj (gDeb.symm.trans hg0)
  obtain rfl := Option.some.inj (tDeb.symm.trans ht0)
  obtain ⟨xs, m1, rfl, hx1, hlen, hn3, hel⟩ := DataW.trod_array Tryz.underlying205 hd0
  have c8 : Tryz.prog.cellsOf 5 = 1 := by kernel_rfl
  simp only [Prod.mk.injEq] at hx1
  intro i hi
  have hi' := hel i hi
  rw [c8, Nat.mul_one] at hi'
  have hxi : xs[i]? = some (xs[i]'(by omega)) := List.getElem?_eq_getElem (by omega)
  rw [hxi] at hi'
  obtain ⟨k, e1, e2, _⟩ := DataW.trod_int Tryz.underlying5 hi'
  have hxs : (deb.map fun n : Nat => (DataW.lit (.int .u8 (n : Int)) : DataW Unit)) = xs.map (·.1) := by
    have := hx1.1
    rw [deb_data] at this
    exact DataW.agg.inj this
  have hdat : (deb.map fun n : Nat => (DataW.lit (.int .u8 (n : Int)) : DataW Unit))[i]? = some (.lit (.int .u8 ((deb.getD i 0 : Nat) : Int))) := by
    rw [List.getElem?_map, List.getElem?_eq_getElem (show i < deb.length from hi), List.getD_eq_getElem?_getD, List.getElem?_eq_getElem (show i < deb.length from hi)]; rfl
  rw [hxs, List.getElem?_map, hxi] at hdat
  simp only [Option.map_some] at hdat
  rw [e2] at hdat
  have hk : k = ((deb.getD i 0 : Nat) : Int) := by
    have := Option.some.inj hdat
    simp only [DataW.lit.injEq, Lit.int.injEq, true_and] at this
    exact this
  subst hk
  have hc : cs0[i]? = some (.int .u8 ((deb.getD i 0 : Nat) : Int)) := by
    have h3 : (cs0.toList.drop i)[0]? = some (.int .u8 ((deb.getD i 0 : Nat) : Int)) := by
      have := congrArg (fun l : List Value => l[0]?) e1
      simpa using this
    simpa using h3
  have := World.var?_cell hg0 hv0 i
  rw [hc] at this
  exact this

theorem star_es : "*" ++ "errors.errorString" = "*errors.errorString" := by decide
theorem row_es (u : TypeId) (h : Tryz.prog.typeName? 3 u = some "*errors.errorString") : u = 206 :=
  typeName_ptr_named (nm := "errors.errorString") (by rw [star_es]; kernel_rfl) (by kernel_rfl) (by decide) u (by rw [star_es]; exact h)
theorem c1_es : Tryz.prog.cellsOf 226 = 1 := by kernel_rfl
theorem c1_str : Tryz.prog.cellsOf 9 = 1 := by kernel_rfl
theorem g_errForm : Tryz.prog.globalNamed "steelyard/store.errForm" = some 2 := by kernel_rfl
theorem t_errForm : (Tryz.prog.globals[2]?).map (·.type) = some 80 := by kernel_rfl
theorem g_errTorn : Tryz.prog.globalNamed "steelyard/store.errTorn" = some 3 := by kernel_rfl
theorem t_errTorn : (Tryz.prog.globals[3]?).map (·.type) = some 80 := by kernel_rfl
theorem g_errSum : Tryz.prog.globalNamed "steelyard/store.errSum" = some 4 := by kernel_rfl
theorem t_errSum : (Tryz.prog.globals[4]?).map (·.type) = some 80 := by kernel_rfl
theorem g_errShard : Tryz.prog.globalNamed "steelyard/store.errShard" = some 5 := by kernel_rfl
theorem t_errShard : (Tryz.prog.globals[5]?).map (·.type) = some 80 := by kernel_rfl
theorem nodup_mem {α : Type} {A B : List α} {x : α} (h : (A ++ B).Nodup) (ha : x ∈ A) (hb : x ∈ B) : False := (List.nodup_append.1 h).2.2 x ha x hb rfl
/-- The table and the errors, as they lie when the call begins. -/
structure LaidG (W : World) (ea : Nat → Addr) : Prop where
  gw : GW W
  ge : GE W (evV ea)
  cell : ∀ c, 1 ≤ c → c ≤ 4 → ∃ cs t, W.heap[(ea c).block]? = some (.cells cs t (0, 0))
  ne : ∀ c d, 1 ≤ c → c ≤ 4 → 1 ≤ d → d ≤ 4 → c ≠ d → ea c ≠ ea d
theorem laidG {W : World} (h : laidMetH Tryz.prog [("math/bits.deBruijn32tab", Rows.laid_math_bits_deBruijn32tab), ("errors.errorType", Rows.laid_errors_errorType), ("steelyard/store.errForm", Rows.laid_steelyard_store_errForm), ("steelyard/store.errTorn", Rows.laid_steelyard_store_errTorn), ("steelyard/store.errSum", Rows.laid_steelyard_store_errSum), ("steelyard/store.errShard", Rows.laid_steelyard_store_errShard)] W) : ∃ ea, LaidG W ea := by
  have h' : laidMet Tryz.prog [("math/bits.deBruijn32tab", Rows.laid_math_bits_deBruijn32tab), ("steelyard/store.errForm", Rows.laid_steelyard_store_errForm), ("steelyard/store.errTorn", Rows.laid_steelyard_store_errTorn), ("steelyard/store.errSum", Rows.laid_steelyard_store_errSum), ("steelyard/store.errShard", Rows.laid_steelyard_store_errShard)] W ∧ handlesMet Tryz.prog [("errors.errorType", Rows.laid_errors_errorType)] W := h
  obtain ⟨⟨ps, ⟨g0, t0, cs0, f0, p0, q0, hg0, ht0, hv0, hd0, hch, e0⟩, hnd, hrows⟩, _⟩ := h'
  have hGW := gw_of_trod hg0 ht0 hv0 hd0
  obtain ⟨g1, t1, cs1, f1, p1, q1, hg1, ht1, hv1, hd1, hch1, e1⟩ := hch
  obtain ⟨g2, t2, cs2, f2, p2, q2, hg2, ht2, hv2, hd2, hch2, e2⟩ := hch1
  obtain ⟨g3, t3, cs3, f3, p3, q3, hg3, ht3, hv3, hd3, hch3, e3⟩ := hch2
  obtain ⟨g4, t4, cs4, f4, p4, q4, hg4, ht4, hv4, hd4, hch4, e4⟩ := hch3
  have hq4 : q4 = [] := hch4
  obtain rfl := Option.some.inj (g_errForm.symm.trans hg1)
  obtain rfl := Option.some.inj (t_errForm.symm.trans ht1)
  obtain rfl := Option.some.inj (g_errTorn.symm.trans hg2)
  obtain rfl := Option.some.inj (t_errTorn.symm.trans ht2)
  obtain rfl := Option.some.inj (g_errSum.symm.trans hg3)
  obtain rfl := Option.some.inj (t_errSum.symm.trans ht3)
  obtain rfl := Option.some.inj (g_errShard.symm.trans hg4)
  obtain rfl := Option.some.inj (t_errShard.symm.trans ht4)
  subst hq4
  subst e4; subst e3; subst e2; subst e1; subst e0
  obtain ⟨l1⟩ := cs1
  have ok1 : ∀ u v, l1 = [.iface u v] → Value.okWide Tryz.prog W .any 0 u v := fun u v e => by
    subst e
    exact (hrows 2 0 (by simp [MemPlace.row])).2 u v (by simpa using World.var?_cell hg1 hv1 0)
  obtain ⟨a1, s1, rfl, hc1, hs1, hz1, rfl⟩ := errorString_of_trod Tryz.underlying80 row_es Tryz.underlying206 Tryz.underlying226 rfl rfl Tryz.underlying9 c1_es c1_str hd1 ok1
  obtain ⟨c1, u1, hb1⟩ := (hrows a1.block a1.off (by simp [MemPlace.row])).1
  have hw1 : W.cell? ⟨2, 0, none⟩ = some (.iface 206 (.pointer (some a1))) := by simpa using World.var?_cell hg1 hv1 0
  obtain ⟨l2⟩ := cs2
  have ok2 : ∀ u v, l2 = [.iface u v] → Value.okWide Tryz.prog W .any 0 u v := fun u v e => by
    subst e
    exact (hrows 3 0 (by simp [MemPlace.row])).2 u v (by simpa using World.var?_cell hg2 hv2 0)
  obtain ⟨a2, s2, rfl, hc2, hs2, hz2, rfl⟩ := errorString_of_trod Tryz.underlying80 row_es Tryz.underlying206 Tryz.underlying226 rfl rfl Tryz.underlying9 c1_es c1_str hd2 ok2
  obtain ⟨c2, u2, hb2⟩ := (hrows a2.block a2.off (by simp [MemPlace.row])).1
  have hw2 : W.cell? ⟨3, 0, none⟩ = some (.iface 206 (.pointer (some a2))) := by simpa using World.var?_cell hg2 hv2 0
  obtain ⟨l3⟩ := cs3
  have ok3 : ∀ u v, l3 = [.iface u v] → Value.okWide Tryz.prog W .any 0 u v := fun u v e => by
    subst e
    exact (hrows 4 0 (by simp [MemPlace.row])).2 u v (by simpa using World.var?_cell hg3 hv3 0)
  obtain ⟨a3, s3, rfl, hc3, hs3, hz3, rfl⟩ := errorString_of_trod Tryz.underlying80 row_es Tryz.underlying206 Tryz.underlying226 rfl rfl Tryz.underlying9 c1_es c1_str hd3 ok3
  obtain ⟨c3, u3, hb3⟩ := (hrows a3.block a3.off (by simp [MemPlace.row])).1
  have hw3 : W.cell? ⟨4, 0, none⟩ = some (.iface 206 (.pointer (some a3))) := by simpa using World.var?_cell hg3 hv3 0
  obtain ⟨l4⟩ := cs4
  have ok4 : ∀ u v, l4 = [.iface u v] → Value.okWide Tryz.prog W .any 0 u v := fun u v e => by
    subst e
    exact (hrows 5 0 (by simp [MemPlace.row])).2 u v (by simpa using World.var?_cell hg4 hv4 0)
  obtain ⟨a4, s4, rfl, hc4, hs4, hz4, rfl⟩ := errorString_of_trod Tryz.underlying80 row_es Tryz.underlying206 Tryz.underlying226 rfl rfl Tryz.underlying9 c1_es c1_str hd4 ok4
  obtain ⟨c4, u4, hb4⟩ := (hrows a4.block a4.off (by simp [MemPlace.row])).1
  have hw4 : W.cell? ⟨5, 0, none⟩ = some (.iface 206 (.pointer (some a4))) := by simpa using World.var?_cell hg4 hv4 0
  refine ⟨fun c => if c = 1 then a1 else if c = 2 then a2 else if c = 3 then a3 else a4, hGW, ⟨hw1, hw2, hw3, hw4⟩, fun c h1 h4 => ?_, fun c d hc1 hc4 hd1 hd4 hne he => ?_⟩
  · have : c = 1 ∨ c = 2 ∨ c = 3 ∨ c = 4 := by omega
    rcases this with rfl | rfl | rfl | rfl
    · exact ⟨_, _, hb1⟩
    · exact ⟨_, _, hb2⟩
    · exact ⟨_, _, hb3⟩
    · exact ⟨_, _, hb4⟩
  · have hn1 := (List.nodup_append.1 hnd).2.1
    have hn2 := (List.nodup_append.1 hn1).2.1
    have hn3 := (List.nodup_append.1 hn2).2.1
    have n12 : a1 ≠ a2 := fun e => nodup_mem hn1 (x := .cell a1.block a1.off) (by simp [MemPlace.row]) (by rw [e]; simp [MemPlace.row])
    have n13 : a1 ≠ a3 := fun e => nodup_mem hn1 (x := .cell a1.block a1.off) (by simp [MemPlace.row]) (by rw [e]; simp [MemPlace.row])
    have n14 : a1 ≠ a4 := fun e => nodup_mem hn1 (x := .cell a1.block a1.off) (by simp [MemPlace.row]) (by rw [e]; simp [MemPlace.row])
    have n23 : a2 ≠ a3 := fun e => nodup_mem hn2 (x := .cell a2.block a2.off) (by simp [MemPlace.row]) (by rw [e]; simp [MemPlace.row])
    have n24 : a2 ≠ a4 := fun e => nodup_mem hn2 (x := .cell a2.block a2.off) (by simp [MemPlace.row]) (by rw [e]; simp [MemPlace.row])
    have n34 : a3 ≠ a4 := fun e => nodup_mem hn3 (x := .cell a3.block a3.off) (by simp [MemPlace.row]) (by rw [e]; simp [MemPlace.row])
    have hc : c = 1 ∨ c = 2 ∨ c = 3 ∨ c = 4 := by omega
    have hd : d = 1 ∨ d = 2 ∨ d = 3 ∨ d = 4 := by omega
    rcases hc with rfl | rfl | rfl | rfl <;> rcases hd with rfl | rfl | rfl | rfl <;> first | exact hne rfl | exact n12 he | exact n13 he | exact n14 he | exact n23 he | exact n24 he | exact n34 he | exact n12 he.symm | exact n13 he.symm | exact n14 he.symm | exact n23 he.symm | exact n24 he.symm | exact n34 he.symm
end

/- Asked records that came in; errors.As's own type, as it lies. No condition. -/
section
open Go Sx Wd
open Go.ChangeShapes Go.WideShapes Go.ChangeAt Go.WideMaps Go.WideElems Go.RowKit

theorem weightsAll_mem {H : Type} {P : Program} {e : TypeId} : ∀ {l : List (DataW H)} {d : DataW H}, d ∈ l → ∀ n ∈ d.weights P e, n ∈ DataW.weightsAll P e l
  | x :: l, d, hd, n, hn => by
    simp only [DataW.weightsAll, List.mem_append]
    rcases List.mem_cons.1 hd with rfl | hd
    · exact .inl hn
    · exact .inr (weightsAll_mem hd n hn)
/-- A list of floats in one cell. -/
theorem cell_nf {H : Type} {enc : TypeId × Value → H} {P : Program} {w : World} {base : Nat} {spare : Nat → Bool} {held : Bool} {n : Nat} {t e : TypeId} {cs : List Value} {x : DataW H × List MemPlace} (ht : P.underlying t = some (.slice e)) (he : P.underlying e = some (.float .f64)) (hc : P.cellsOf e = 1) (hb : P.bytesOf e = 8)
    (h : DataW.trod enc P w base spare held n t cs = some x) (hsz : ∀ k ∈ x.1.weights P t, k ≤ reachBytes) : ∃ (v : Value) (l : List Nat), cs = [v] ∧ NF w v l := by
  rcases Go.Deep.open_slice1 ht hc h with ⟨hcs, _⟩ | ⟨ad, len, cap, m, n, V, D, Pl, hcs, _, hlc, hcm, hm, hx, hV⟩
  · exact ⟨_, [], hcs, ⟨⟨none, 0, rfl, Nat.le_refl _, RW.nil⟩, fun x hx => (by cases hx), by decide⟩⟩
  · have hlm : len ≤ m := by rw [hm]; split <;> omega
    have h8 := hsz (((List.range len).map D).length * 8 + ((List.range (m - len)).map fun j => D (len + j)).length * 8) (by
      rw [hx]
      simp only [DataW.weights, ht, hb]
      rw [← Nat.add_mul]
      exact List.mem_cons_self ..)
    simp only [List.length_map, List.length_range] at h8
    have hr : reachBytes = 140737488351232 := by decide
    have hlen : len ≤ 17592186044415 := by omega
    obtain ⟨f, hf2⟩ := Go.Deep.choose_lt (α := Nat) (n := len) (p := fun i b => V i = .float .f64 b ∧ b < 18446744073709551616) (fun i hi => float_cell he (hV i (by omega)).2)
    refine ⟨_, (List.range len).map f, hcs, ⟨⟨some ad, cap, by simp, by simpa using hlc, fun i y hy => ?_⟩, fun y hy => ?_, by simp; omega⟩⟩
    · have hi : i < len := by
        by_cases q : i < len
        · exact q
        · rw [List.getElem?_eq_none (by simp; omega)] at hy; cases hy
      simp [List.getElem?_range hi] at hy
      subst hy
      exact ⟨ad, rfl, by rw [(hV i (by omega)).1, (hf2 i hi).1]; rfl⟩
    · obtain ⟨i, hi, rfl⟩ := List.mem_map.1 hy
      exact (hf2 i (List.mem_range.1 hi)).2
theorem trod_two {H : Type} {enc : TypeId × Value → H} {P : Program} {w : World} {base : Nat} {spare : Nat → Bool} {held : Bool} {t : TypeId} {f0 f1 : Field} {fuel : Nat} {cs : List Value} {x : DataW H × List MemPlace} (ht : P.underlying t = some (.struct #[f0, f1])) (h : DataW.trod enc P w base spare held fuel t cs = some x) :
    ∃ y0 y1 n, x.1 = .agg [y0.1, y1.1] ∧ cs.length = P.cellsOf t ∧ DataW.trod enc P w base spare held n f0.type ((cs.drop f0.offset).take (P.cellsOf f0.type)) = some y0 ∧ DataW.trod enc P w base spare held n f1.type ((cs.drop f1.offset).take (P.cellsOf f1.type)) = some y1 := by
  obtain ⟨xs, n, _, rfl, hl, hlen, hf⟩ := DataW.trod_struct ht h
  match xs, hlen with
  | [y0, y1], _ => exact ⟨y0, y1, n, rfl, hl, by simpa using hf 0 f0 rfl, by simpa using hf 1 f1 rfl⟩
/-- One asked record. -/
theorem cell_put {H : Type} {enc : TypeId × Value → H} {w : World} {base : Nat} {spare : Nat → Bool} {held : Bool} {n : Nat} {cs : List Value} {x : DataW H × List MemPlace} (h : DataW.trod enc Tryz.prog w base spare held n 75 cs = some x) (hsz : ∀ k ∈ x.1.weights Tryz.prog 75, k ≤ reachBytes) :
    ∃ g : RG, cs = [.string g.1, g.2.2] ∧ NF w g.2.2 g.2.1 := by
  have hu := Tryz.underlying75
  have c2 : Tryz.prog.cellsOf 75 = 2 := by kernel_rfl
  have cs1 : Tryz.prog.cellsOf 9 = 1 := by kernel_rfl
  have cf1 : Tryz.prog.cellsOf 28 = 1 := by kernel_rfl
  obtain ⟨y0, y1, m, hx, hl, h0, h1⟩ := trod_two hu h
  rw [c2] at hl
  match cs, hl with
  | [a, b], _ =>
    have h0' : DataW.trod enc Tryz.prog w base spare held m 9 [a] = some y0 := by simpa [cs1] using h0
    have h1' : DataW.trod enc Tryz.prog w base spare held m 28 [b] = some y1 := by simpa [cf1] using h1
    obtain ⟨s, e0, _, _⟩ := DataW.trod_string Tryz.underlying9 h0'
    obtain ⟨v, l, e1, hv⟩ := cell_nf Tryz.underlying28 Tryz.underlying27 (by kernel_rfl) (by kernel_rfl) h1' (fun k hk => hsz k (by
      rw [hx]
      simp only [DataW.weights, hu]
      simp only [List.map_cons, List.map_nil, DataW.weightsEach, List.mem_append]
      exact .inr (.inl hk)))
    injection e0 with e0 _
    injection e1 with e1 _
    exact ⟨(s, l, v), by rw [e0, e1], hv⟩
/-- Asked records that came in. -/
theorem open_puts {H : Type} {enc : TypeId × Value → H} {w : World} {base b0 : Nat} {spare : Nat → Bool} {held : Bool} {v : Value} {d : DataW H} {ps : List MemPlace} (hval : Value.okWide Tryz.prog w .any b0 35 v) (h : DataW.Trod enc Tryz.prog w base spare held 35 v d ps)
    (hsz : ∀ k ∈ d.weights Tryz.prog 35, k ≤ reachBytes) : ∃ (a : Option Addr) (P : List RG) (c : Nat), v = .slice a P.length c ∧ RW w a (recC P) ∧ PutM w P := by
  have hu := Tryz.underlying35
  have c2 : Tryz.prog.cellsOf 75 = 2 := by kernel_rfl
  obtain ⟨a, len, cap, rfl⟩ := okWide_slice hu hval
  obtain ⟨fuel, hf⟩ := h
  rcases Go.Deep.open_slice hu hf with ⟨hcs, _⟩ | ⟨ad, l, c, m, n, D, Pl, hcs, _, hlc, hcm, hm, hx, hV⟩
  · simp [Value.cells] at hcs
    obtain ⟨rfl, rfl, rfl⟩ := hcs
    exact ⟨none, [], 0, rfl, RW.nil, fun g hg => by cases hg⟩
  · simp [Value.cells] at hcs
    obtain ⟨rfl, rfl, rfl⟩ := hcs
    have hlm : len ≤ m := by rw [hm]; split <;> omega
    simp only [Prod.mk.injEq] at hx
    obtain ⟨f, hf2⟩ := Go.Deep.choose_lt (α := RG) (n := len) (p := fun i g => (∀ j v, [Value.string g.1, g.2.2][j]? = some v → w.cell? ((ad.add (i * 2)).add j) = some v) ∧ NF w g.2.2 g.2.1) (fun i hi => by
      obtain ⟨cs', h1, h2⟩ := hV i (by omega)
      rw [c2] at h1
      obtain ⟨_, hlen, hcell⟩ := World.cells?_some h1
      obtain ⟨g, rfl, hg⟩ := cell_put h2 (fun k hk => hsz k (by
        rw [hx.1]
        simp only [DataW.weights, hu, List.mem_cons, List.mem_append]
        exact .inr (.inl (weightsAll_mem (List.mem_map.2 ⟨i, List.mem_range.2 hi, rfl⟩) k hk))))
      refine ⟨g, fun j v hv => ?_, hg⟩
      have hj : j < 2 := by
        rcases Nat.lt_or_ge j 2 with q | q
        · exact q
        · rw [List.getElem?_eq_none (by simpa using q)] at hv; cases hv
      rw [hcell j hj]
      exact hv)
    refine ⟨some ad, (List.range len).map f, cap, by simp, fun i y hy => ?_, fun g hg => ?_⟩
    · have hil : i < len * 2 := by
        rcases Nat.lt_or_ge i (len * 2) with q | q
        · exact q
        · rw [List.getElem?_eq_none (by rw [recC_len]; simpa using q)] at hy; cases hy
      have hk : i / 2 < len := by omega
      have hg : ((List.range len).map f)[i / 2]? = some (f (i / 2)) := by simp [List.getElem?_range hk]
      obtain ⟨r1, r2⟩ := recC_at hg
      have hc := (hf2 (i / 2) hk).1
      refine ⟨ad, rfl, ?_⟩
      rcases (by omega : i % 2 = 0 ∨ i % 2 = 1) with q | q
      · have e : i = 2 * (i / 2) := by omega
        rw [e, r1] at hy
        cases hy
        have := hc 0 _ rfl
        rw [addr_add2, show i / 2 * 2 + 0 = i by omega] at this
        exact this
      · have e : i = 2 * (i / 2) + 1 := by omega
        rw [e, r2] at hy
        cases hy
        have := hc 1 _ rfl
        rw [addr_add2, show i / 2 * 2 + 1 = i by omega] at this
        exact this
    · obtain ⟨i, hi, rfl⟩ := List.mem_map.1 hg
      exact (hf2 i (List.mem_range.1 hi)).2
theorem sized_mem {H : Type} {P : Program} {ts : List TypeId} {ds : List (DataW H)} (h : (DataW.weightsEach P ts ds).all (· ≤ reachBytes) = true) {j : Nat} {t : TypeId} {d : DataW H} (ht : ts[j]? = some t) (hd : ds[j]? = some d) : ∀ k ∈ d.weights P t, k ≤ reachBytes := fun k hk => by
  have := List.all_eq_true.1 h _ (DataW.weights_mem_each ht hd k hk)
  simpa using this
/-! ### errors.As's own type -/
theorem et_et : Tryz.prog.globalNamed "errors.errorType" = some 1 := by kernel_rfl
theorem et_rt : (Tryz.prog.cutTypes.find? (·.1 == "internal/reflectlite.rtype")).map (·.2) = some 145 := by kernel_rfl
theorem et_row : ((List.range 238).filter fun t => Tryz.prog.rowNamed t [101, 114, 114, 111, 114]) = [80] := by kernel_rfl
theorem et_size : Tryz.prog.types.size = 238 := by kernel_rfl
theorem laidE {W : World} (h : laidMetH Tryz.prog [("math/bits.deBruijn32tab", Rows.laid_math_bits_deBruijn32tab), ("errors.errorType", Rows.laid_errors_errorType), ("steelyard/store.errForm", Rows.laid_steelyard_store_errForm), ("steelyard/store.errTorn", Rows.laid_steelyard_store_errTorn), ("steelyard/store.errSum", Rows.laid_steelyard_store_errSum), ("steelyard/store.errShard", Rows.laid_steelyard_store_errShard)] W) : W.cell? ⟨1, 0, none⟩ = some (.iface 145 (.agg #[.pointer (some ⟨7, 80, none⟩)])) := by
  have h' : laidMet Tryz.prog [("math/bits.deBruijn32tab", Rows.laid_math_bits_deBruijn32tab), ("steelyard/store.errForm", Rows.laid_steelyard_store_errForm), ("steelyard/store.errTorn", Rows.laid_steelyard_store_errTorn), ("steelyard/store.errSum", Rows.laid_steelyard_store_errSum), ("steelyard/store.errShard", Rows.laid_steelyard_store_errShard)] W ∧ handlesMet Tryz.prog [("errors.errorType", Rows.laid_errors_errorType)] W := h
  obtain ⟨name, u, ty, e1, e2, e3, e4, e5⟩ := h'.2 _ (List.mem_singleton.2 rfl)
  have en : name = [101, 114, 114, 111, 114] := (Option.some.inj e1).symm
  subst en
  obtain rfl := Option.some.inj (et_rt.symm.trans e2)
  have hm : ty ∈ (List.range 238).filter fun t => Tryz.prog.rowNamed t [101, 114, 114, 111, 114] := List.mem_filter.2 ⟨List.mem_range.2 (by rw [← et_size]; exact e3), e4⟩
  rw [et_row] at hm
  obtain rfl := List.mem_singleton.1 hm
  have hh : typeHandle Tryz.prog 80 = .pointer (some ⟨7, 80, none⟩) := by kernel_rfl
  rw [hh] at e5
  simpa using World.var?_cell et_et e5 0
theorem LaidG.gf {W : World} {ea : Nat → Addr} (h : LaidG W ea) (he : W.cell? ⟨1, 0, none⟩ = some (.iface 145 (.agg #[.pointer (some ⟨7, 80, none⟩)]))) : GF W ea := ⟨h.ge, h.cell, h.ne, he⟩
end

/- A row's joined facts, one by one. No condition. -/
section
open Go
def jf1 (P : Program) (f : FuncId) (fn : Func) (s : ChangeSpec) (c : OpenClaim) : Bool := c.wf (OpenSpec.ofChange s)
def jf2 (P : Program) (f : FuncId) (fn : Func) (s : ChangeSpec) (c : OpenClaim) : Bool := laidOutB P
def jf3 (P : Program) (f : FuncId) (fn : Func) (s : ChangeSpec) (c : OpenClaim) : Bool := mapsRowed P
def jf4 (P : Program) (f : FuncId) (fn : Func) (s : ChangeSpec) (c : OpenClaim) : Bool := fn.params.all (P.readableRec ·)
def jf5 (P : Program) (f : FuncId) (fn : Func) (s : ChangeSpec) (c : OpenClaim) : Bool := namedTie P c.named s.vars
def jf6 (P : Program) (f : FuncId) (fn : Func) (s : ChangeSpec) (c : OpenClaim) : Bool := (c.stops == [])
def jf7 (P : Program) (f : FuncId) (fn : Func) (s : ChangeSpec) (c : OpenClaim) : Bool := (P.stops == [])
def jf8 (P : Program) (f : FuncId) (fn : Func) (s : ChangeSpec) (c : OpenClaim) : Bool := (c.knobs == [])
def jf9 (P : Program) (f : FuncId) (fn : Func) (s : ChangeSpec) (c : OpenClaim) : Bool := (P.stopKnobs == [])
def jf10 (P : Program) (f : FuncId) (fn : Func) (s : ChangeSpec) (c : OpenClaim) : Bool := (c.inPlace == P.inPlace f)
def jf11 (P : Program) (f : FuncId) (fn : Func) (s : ChangeSpec) (c : OpenClaim) : Bool := (c.unfollowed == P.unfollowed f)
def jf12 (P : Program) (f : FuncId) (fn : Func) (s : ChangeSpec) (c : OpenClaim) : Bool := (c.recurses == P.recurses f)
def jf13 (P : Program) (f : FuncId) (fn : Func) (s : ChangeSpec) (c : OpenClaim) : Bool := (c.named == P.varsNamed f)
def jf14 (P : Program) (f : FuncId) (fn : Func) (s : ChangeSpec) (c : OpenClaim) : Bool := (c.maps == (fn.params.toList ++ s.plain.varTypes P).any (P.mapsRec ·))
def jf15 (P : Program) (f : FuncId) (fn : Func) (s : ChangeSpec) (c : OpenClaim) : Bool := (c.ifaces == (fn.params.toList ++ s.plain.varTypes P).any (P.ifacesRec ·))
def jf16 (P : Program) (f : FuncId) (fn : Func) (s : ChangeSpec) (c : OpenClaim) : Bool := (c.mapsOut == P.mapsAmong fn.resultTypes.toList)
def jf17 (P : Program) (f : FuncId) (fn : Func) (s : ChangeSpec) (c : OpenClaim) : Bool := (c.loops == (fn.params.toList ++ s.plain.varTypes P).any (P.loopsFrom ·))
def jf18 (P : Program) (f : FuncId) (fn : Func) (s : ChangeSpec) (c : OpenClaim) : Bool := (c.wideKeys == (fn.params.toList ++ s.plain.varTypes P ++ fn.resultTypes.toList).any (P.wideKeysFrom ·))
def jf19 (P : Program) (f : FuncId) (fn : Func) (s : ChangeSpec) (c : OpenClaim) : Bool := s.vars.all (P.varReadable ·)
def jf20 (P : Program) (f : FuncId) (fn : Func) (s : ChangeSpec) (c : OpenClaim) : Bool := fn.resultTypes.all (fun t => P.readableRec t && decide (t < P.types.size))
def jf21 (P : Program) (f : FuncId) (fn : Func) (s : ChangeSpec) (c : OpenClaim) : Bool := (c.ifacesOut == fn.resultTypes.toList.any (P.ifacesRec ·))
def jf22 (P : Program) (f : FuncId) (fn : Func) (s : ChangeSpec) (c : OpenClaim) : Bool := (c.loopsOut == fn.resultTypes.toList.any (P.loopsFrom ·))
def jf23 (P : Program) (f : FuncId) (fn : Func) (s : ChangeSpec) (c : OpenClaim) : Bool := (c.plainKeys == P.plainKeys)
def jf24 (P : Program) (f : FuncId) (fn : Func) (s : ChangeSpec) (c : OpenClaim) : Bool := c.shortTexts.isNone
def jf25 (P : Program) (f : FuncId) (fn : Func) (s : ChangeSpec) (c : OpenClaim) : Bool := P.stopsHeard
def jf26 (P : Program) (f : FuncId) (fn : Func) (s : ChangeSpec) (c : OpenClaim) : Bool := P.mayEnter
def jf27 (P : Program) (f : FuncId) (fn : Func) (s : ChangeSpec) (c : OpenClaim) : Bool := (c.lifted == P.liftsFinal)
def jf28 (P : Program) (f : FuncId) (fn : Func) (s : ChangeSpec) (c : OpenClaim) : Bool := (P.make == some c.make)
def jf29 (P : Program) (f : FuncId) (fn : Func) (s : ChangeSpec) (c : OpenClaim) : Bool := (c.kinds == (if c.domain.isEmpty then [] else fn.params.toList.map fun t => match P.underlying t with | some (.int k) => some k | _ => none))
def jf30 (P : Program) (f : FuncId) (fn : Func) (s : ChangeSpec) (c : OpenClaim) : Bool := (c.pinned == c.pinnedBy)
def jf31 (P : Program) (f : FuncId) (fn : Func) (s : ChangeSpec) (c : OpenClaim) : Bool := (c.veiled == (fn.params.toList ++ s.plain.varTypes P ++ fn.resultTypes.toList).any (P.veiledRec ·))
def jf32 (P : Program) (f : FuncId) (fn : Func) (s : ChangeSpec) (c : OpenClaim) : Bool := c.veiledFits P fn.params.toList (fn.params.toList ++ s.plain.varTypes P ++ fn.resultTypes.toList)
theorem joined_of {P : Program} {f : FuncId} {fn : Func} {s : ChangeSpec} {c : OpenClaim}
    (h1 : jf1 P f fn s c = true)
    (h2 : jf2 P f fn s c = true)
    (h3 : jf3 P f fn s c = true)
    (h4 : jf4 P f fn s c = true)
    (h5 : jf5 P f fn s c = true)
    (h6 : jf6 P f fn s c = true)
    (h7 : jf7 P f fn s c = true)
    (h8 : jf8 P f fn s c = true)
    (h9 : jf9 P f fn s c = true)
    (h10 : jf10 P f fn s c = true)
    (h11 : jf11 P f fn s c = true)
    (h12 : jf12 P f fn s c = true)
    (h13 : jf13 P f fn s c = true)
    (h14 : jf14 P f fn s c = true)
    (h15 : jf15 P f fn s c = true)
    (h16 : jf16 P f fn s c = true)
    (h17 : jf17 P f fn s c = true)
    (h18 : jf18 P f fn s c = true)
    (h19 : jf19 P f fn s c = true)
    (h20 : jf20 P f fn s c = true)
    (h21 : jf21 P f fn s c = true)
    (h22 : jf22 P f fn s c = true)
    (h23 : jf23 P f fn s c = true)
    (h24 : jf24 P f fn s c = true)
    (h25 : jf25 P f fn s c = true)
    (h26 : jf26 P f fn s c = true)
    (h27 : jf27 P f fn s c = true)
    (h28 : jf28 P f fn s c = true)
    (h29 : jf29 P f fn s c = true)
    (h30 : jf30 P f fn s c = true)
    (h31 : jf31 P f fn s c = true)
    (h32 : jf32 P f fn s c = true)
    : joinedFacts P f fn s c = true := by
  unfold joinedFacts
  simp only [Bool.and_eq_true]
  exact ⟨⟨⟨⟨⟨⟨⟨⟨⟨⟨⟨⟨⟨⟨⟨⟨⟨⟨⟨⟨⟨⟨⟨⟨⟨⟨⟨⟨⟨⟨⟨h1, h2⟩, h3⟩, h4⟩, h5⟩, h6⟩, h7⟩, h8⟩, h9⟩, h10⟩, h11⟩, h12⟩, h13⟩, h14⟩, h15⟩, h16⟩, h17⟩, h18⟩, h19⟩, h20⟩, h21⟩, h22⟩, h23⟩, h24⟩, h25⟩, h26⟩, h27⟩, h28⟩, h29⟩, h30⟩, h31⟩, h32⟩
end

end Go.Proofs.YtbplehaogncjoaaGreatDoor