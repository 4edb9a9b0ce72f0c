/- Part 5 of what the proof rests on. No condition. -/
import Derived.Test.YtbplehaogncjoaaGreatDoorCz4
import Derived.Shelf.SlGeneric
import Derived.Shelf.Slices.In.CompactS
import Derived.Shelf.Slices.In.SortNone
import Derived.Ground.NamesProg
import Derived.Test.YtbplehaogncjoaaGreatDoorProg
import Derived.Sort.EveryDepth
import Derived.Sort.OwnSorted
import Derived.Sort.Grow
import Derived.Lib.OwnBridge
import Derived.WalkKit
import Derived.LaidEql
import Derived.Stop.Asserts
import Derived.RowKitTokens
import Derived.ProofKit
import Derived.OpenShut
import Derived.ChangeOld
import Derived.Below
import Derived.Deep.Slices
import Derived.Laws.Cover2
import Derived.LaidMore
import Derived.SizedLaws
import Derived.SevenTiedAt
import Derived.Stop.Joined
import Derived.Test.YtbplehaogncjoaaGreatDoorRows
import Derived.LaidHandle
import Derived.ChangeMaps5
import Derived.Stop.ErrReads
import Derived.Deep.Strs
import Derived.Deep.DeepHandedRow
import Derived.Deep.DeepWitnessRowRef
set_option linter.unusedVariables false
set_option linter.unusedSimpArgs false
set_option maxRecDepth 100000
set_option maxHeartbeats 4000000
namespace Go.Proofs.YtbplehaogncjoaaGreatDoor
/- Store: walk. No condition. -/
section
open Go Sx Wd Fl

namespace Sx
section
variable {P : Program} {s : Sl} {w : World} {ty : TypeId} {x : Operand}
theorem Ev.neqNilN {t t' : TypeId} {ms : Array (String × TypeId)} {sz by_ : Nat} {z : Value} [hT : HasT P t (.interface ms) sz by_ z] (hx : opnd s x = some .nilIface) : Ev P s (.binOp .neq t x (.const .nilIface) t') ty w (.bool false) w := fun ρ d pos af g hρ => by
  have e1 := hρ x _ hx
  have e2 : ρ (.const .nilIface) = .nilIface := hρ _ _ rfl
  have := run_eqIn (P := P) (w := w) (t := t) (u := .nilIface) (v := .nilIface) (r := true) (fun d => by simp [Op.equalIn, hT.underlying])
  simp [execOp, e1, e2, eqGuard, binOp, this]
theorem Ev.neqNilI {t t' T : TypeId} {ms : Array (String × TypeId)} {sz by_ : Nat} {z v : Value} [hT : HasT P t (.interface ms) sz by_ z] (hx : opnd s x = some (.iface T v)) : Ev P s (.binOp .neq t x (.const .nilIface) t') ty w (.bool true) w := fun ρ d pos af g hρ => by
  have e1 := hρ x _ hx
  have e2 : ρ (.const .nilIface) = .nilIface := hρ _ _ rfl
  have := run_eqIn (P := P) (w := w) (t := t) (u := .iface T v) (v := .nilIface) (r := false) (fun d => by simp [Op.equalIn, hT.underlying])
  simp [execOp, e1, e2, eqGuard, binOp, this]
theorem Ev.mkIface {t e : TypeId} {sz by_ : Nat} {z v : Value} [hT : HasT P t (.pointer e) sz by_ z] (hx : opnd s x = some v) : Ev P s (.makeInterface t x) ty w (.iface t v) w := fun ρ d pos af g hρ => by
  have e1 := hρ x _ hx
  simp [execOp, e1, Instr.makeInterface, hT.underlying]
theorem Ev.makeFunc1 {f : FuncId} {v : Value} (hx : opnd s x = some v) : Ev P s (.makeFunc (.func f) #[] #[x]) ty w (.func (.func f) #[] #[v]) w := fun ρ d' pos af g hρ => by
  have e1 := hρ x _ hx
  simp [execOp, Instr.makeFunc, e1]
theorem Ev.sliceD (lo : Nat) {t : TypeId} {a : Option Addr} {bs : List Nat} {c e be : Nat} {k' : IntKind} {lo' : Int} {de : TypeDesc} {ze : Value} {sz by_ : Nat} {z : Value} {p : Operand} [hT : HasT P t (.slice e) sz by_ z] [hE : HasT P e de 1 be ze]
    (hx : opnd s x = some (.slice a bs.length c)) (hp : opnd s p = some (.int k' lo')) (e1 : lo' = (lo : Int)) (h2 : lo ≤ bs.length) : Ev P s (.slice t x (some p) none none) ty w (.slice (cutAt a lo c 1) (bs.drop lo).length (c - lo)) w := by
  have := Ev.sliceLn (P := P) (w := w) (ty := ty) (t := t) (hT := hT) (hE := hE) lo hx hp e1 h2
  rwa [show bs.length - lo = (bs.drop lo).length by rw [List.length_drop]] at this
end
end Sx
/-- The store's errors as values: where they lie. -/
def evV (ea : Nat → Addr) (c : Nat) : Value := .iface 206 (.pointer (some (ea c)))
theorem rdRec_ok {bs nm dat : List Nat} (hB : B8 bs) (h : rdRec bs = (0, nm, dat)) : 1 ≤ nm.length ∧ nm.length ≤ 64 ∧ 8 + nm.length + dat.length ≤ bs.length ∧ B8 nm ∧ B8 dat := by
  unfold rdRec at h
  split at h
  · cases h
  split at h
  · cases h
  split at h
  · cases h
  split at h
  · cases h
  split at h
  · cases h
  rename_i q1 q2 q3 q4 q5
  injection h with h1 h2
  injection h2 with h2 h3
  subst h2; subst h3
  rw [mid_len (by omega), mid_len (by omega)]
  exact ⟨by omega, by omega, by omega, (hB.drop _).take _, (hB.drop _).take _⟩
/-- Records that were read, up to place p. -/
inductive Wk (bs : List Nat) : List (ByteArray × List Nat) → Nat → Prop
  | nil : Wk bs [] 0
  | step {R : List (ByteArray × List Nat)} {p : Nat} {nm dat : List Nat} : Wk bs R p → p < bs.length → rdRec (bs.drop p) = (0, nm, dat) → Wk bs (R ++ [(bA nm, dat)]) (p + (8 + nm.length + dat.length))
theorem Wk.le {bs : List Nat} (hB : B8 bs) {R : List (ByteArray × List Nat)} {p : Nat} (h : Wk bs R p) : p ≤ bs.length := by
  cases h with
  | nil => exact Nat.zero_le _
  | step h1 h2 h3 =>
    have := (rdRec_ok (hB.drop _) h3).2.2.1
    rw [List.length_drop] at this
    omega
/-- What the caller's rounds must hold, round by round. -/
structure Walks (l cb cl : Nat) (al : Option Addr) (bs : List Nat) (ea : Nat → Addr) (J : List (ByteArray × List Nat) → Nat → World → Prop) (Jx : Nat → Nat → World → Prop) : Prop where
  keep : ∀ R p W W', J R p W → Chg [] W W' → J R p W'
  has : ∀ R p W, J R p W → BK W cb 30 [.slice al bs.length cl] ∧ RW W al (bs.map u8v) ∧ GE W (evV ea) ∧ GW W
  one : ∀ R p nm dat W0 W dv, Wk bs R p → J R p W0 → Chg [] W0 W → p < bs.length → rdRec (bs.drop p) = (0, nm, dat) → GR W 5 u8v 0 [] dv dat →
    YldAt none Tryz.prog l [.agg [.string (bA nm), dv].toArray, .nilIface] W fun v W' => v = .bool true ∧ J (R ++ [(bA nm, dat)]) (p + (8 + nm.length + dat.length)) W' ∧ ∃ X : List Nat, Chg X W W' ∧ ∀ b ∈ X, b < W0.heap.size
  bad : ∀ R p c W bf, Wk bs R p → J R p W → p < bs.length → (rdRec (bs.drop p)).1 = c → c ≠ 0 → BK W bf 85 [.int .i64 (p : Int), evV ea c] →
    YldAt none Tryz.prog l [.agg [.string ⟨#[]⟩, .slice none 0 0].toArray, .iface 81 (.pointer (some ⟨bf, 0, none⟩))] W fun v W' => Jx p c W'
theorem stWalk_spec (al : Option Addr) (m cl : Nat) (w : World) : Ret Tryz.prog 32 [.slice al m cl] w fun u w' => (∃ cb, u = .func (.func 46) #[] [Value.pointer (some ⟨cb, 0, none⟩)].toArray ∧ BK w' cb 30 [.slice al m cl] ∧ w.heap.size ≤ cb) ∧ Chg [] w w' := by
 have hch : Chg [] w w := Chg.refl _ _;refine zE1 Tryz.func32 rfl ?_;refine Sr fun _ kh1 => ?_;refine zBh rfl rfl rfl hch fun b1 wm1 hb1 hcm1 hge1 hgehch1 hch => ?_;refine za rfl (zz (kh1 (Sr fun _ kh3 => ?_)));refine WL.ev (Ev.makeFunc1 rfl) rfl ?_;refine za rfl (zz (kh3 ?_));refine zr (zr1 rfl rfl ?_);exact ⟨⟨b1, rfl, hb1, by omega⟩, hch⟩

theorem stWalk1_spec (l cb cl : Nat) (al : Option Addr) (bs : List Nat) (ea : Nat → Addr) (J : List (ByteArray × List Nat) → Nat → World → Prop) (Jx : Nat → Nat → World → Prop) (w : World) (hW : Walks l cb cl al bs ea J Jx) (h0 : J [] 0 w) (hcap : bs.length ≤ cl) (hB : B8 bs) (hlen : bs.length ≤ 1048576) : Ret Tryz.prog 46 [.func (.yield l) #[] #[], .pointer (some ⟨cb, 0, none⟩)] w fun u w' => (∃ R, Wk bs R bs.length ∧ J R bs.length w') ∨ (∃ R p c, Wk bs R p ∧ p < bs.length ∧ (rdRec (bs.drop p)).1 = c ∧ c ≠ 0 ∧ Jx p c w') := by
 refine zE2 Tryz.func46 rfl ?_;refine Sr fun _ kh1 => za rfl (zz (kh1 ?_));refine CW.block ?_;refine CW.loop (S := fun g : List (ByteArray × List Nat) × Nat => [(0, .func (.yield l) #[] #[]), (1, .pointer (some ⟨cb, 0, none⟩)), (3, .int .i64 (g.2 : Int))]) (Inv := fun g w1 => Wk bs g.1 g.2 ∧ J g.1 g.2 w1) (mu := fun g => bs.length - g.2) (([], 0)) ?_ ?_ ?_
 ·exact ⟨Wk.nil, h0⟩
 ·exact SLp
 ·rintro ⟨R, p⟩ wr ⟨hwk, hJ⟩;dsimp only at hwk hJ;dsimp only;have hple := hwk.le hB;obtain ⟨hcb, hrow, hE, hg⟩ := hW.has _ _ _ hJ;have hch : Chg [] wr wr := Chg.refl _ _;refine zc fun _ kh3 => Sr fun _ kh4 => zm rfl (zl hcb rfl rfl (zn rfl ?_));refine WL.ev (Ev.lss rfl rfl) rfl ?_;refine zz (kh4 ?_);refine zy rfl ?_ ?_<;>intro hc1<;>try simp only [qs] at hc1
  ·have hpl : p < bs.length := by omega
   refine zkk ?_;refine kh3 ?_;refine CW.block ?_;refine Sr fun _ kh6 => zl hcb rfl rfl (zm rfl ?_);refine WL.ev (Ev.sliceD (bs := bs) p rfl rfl (by omega) (by omega)) rfl ?_;refine WL.call hasF47 rfl rfl (stRead_spec (cutAt al p cl 1) (bs.drop p) (cl - p) _ (evV ea) (RW.slice_drop (hrow.keep0 hch) hple hcap) (by rw [List.length_drop]; omega) (hB.drop p) (by rw [List.length_drop]; omega) (by rw [List.length_drop]; omega) (hE.keep0 hch) (hg.keep hch (fun b hb => by cases hb))) fun v w1 h' => ?_;obtain ⟨hu, hC⟩ := h';have hch := hch.ta hC;have hcb := hcb.keep0 hC;rcases hu with ⟨hz, dv, rfl, hgd⟩ | ⟨hnz, rfl⟩
   ·obtain ⟨nm, dat, hz⟩ : ∃ nm dat, rdRec (bs.drop p) = (0, nm, dat) := by
     cases q : rdRec (bs.drop p) with
     | mk a b => obtain ⟨nm, dat⟩ := b; rw [q] at hz; cases hz; exact ⟨_, _, rfl⟩
    rw [hz] at hgd;dsimp only at hgd;rw [hz];dsimp only;obtain ⟨ad, cd, rfl, hcapd, hrd⟩ := hgd.row;have hok := rdRec_ok (hB.drop p) hz;rw [List.length_drop] at hok;refine zm rfl (zx rfl rfl (zx rfl rfl ?_));refine WL.allocB (l := [.string ⟨#[]⟩, .slice none 0 0]) rfl rfl fun b4 wm4 hb4 hcm4 hge4 => ?_;have hgehch4 := Nat.le_trans hch.size hge4;have hch := hch.ta hcm4;have hnecb4 : cb ≠ b4 := by have := hcb.lt; omega
    have hgd := hgd.keep0 hcm4;refine zss rfl rfl ao hb4 rfl fun ws12 hb4_ hcs12 => ?_;(try simp only [Sx.splice, qt] at hb4_);have hch := hch.s1 hcs12;have hgd := hgd.keepV hcs12 (fun y hy => by rw [List.mem_singleton.1 hy]; exact hgd.notBK hb4 (by decide));have hb4 := hb4_;refine za rfl (zz (kh6 (zc fun _ kh8 => Sr fun _ kh9 => zm rfl ?_)));refine WL.ev (Ev.neqNilN rfl) rfl ?_;refine zz (kh9 ?_);refine CW.condF rfl ?_;refine zkk ?_;refine kh8 (zc fun _ kh11 => zc fun _ kh12 => ?_);refine CW.ofI (CWI.regionI fun kR13 kr13 => ?_);refine WLI.at 2 rfl ?_;refine zm rfl (zg hb4 rfl ?_);refine WL.nil ?_;refine WLI.yield rfl rfl rfl (hW.one R p nm dat wr _ _ hwk hJ hch hpl hz hgd) fun v w2 h' => ?_;obtain ⟨rfl, hJ2, X, hX, hXl⟩ := h';have hb4 := hb4.keep hX (fun hm => by have := hXl _ hm; omega);have hch2 : Chg [] w2 w2 := Chg.refl _ _;refine WLI.of rfl ?_;refine WL.ev (Ev.not rfl) rfl ?_;refine WL.nil (kr13 _ _ _ (kh12 ?_));refine CW.condF rfl ?_;refine zkk ?_;refine kh11 ?_;refine zR fun _ kr14 => ?_;refine zm rfl (zg hb4 rfl ?_);refine WL.call hasF44 rfl rfl (stSize_spec (bA nm) ad dat.length cd _ (by rw [sB_bA hok.2.2.2.1]; omega) (by omega)) fun v w3 h' => ?_;obtain ⟨rfl, hC⟩ := h';have hch2 := hch2.trans hC;rw [sB_bA hok.2.2.2.1];(first | refine zi rfl rfl ?_ | refine zo rfl rfl ?_);refine za rfl ?_;refine WL.nil (kr14 _ _ _ ?_);refine ⟨rfl, (R ++ [(bA nm, dat)], p + (8 + nm.length + dat.length)), ?_, ?_, ?_⟩
    ·exact SLp
    ·exact ⟨hwk.step hpl hz, hW.keep _ _ _ _ hJ2 hch2⟩
    ·show bs.length - (p + (8 + nm.length + dat.length)) < bs.length - p; omega
   ·obtain ⟨c, hc⟩ : ∃ c, (rdRec (bs.drop p)).1 = c := ⟨_, rfl⟩;rw [hc] at hnz;rw [hc];refine zm rfl (zx rfl rfl (zx rfl rfl ?_));refine WL.allocB (l := [.string ⟨#[]⟩, .slice none 0 0]) rfl rfl fun b4 wm4 hb4 hcm4 hge4 => ?_;have hgehch4 := Nat.le_trans hch.size hge4;have hch := hch.ta hcm4;have hnecb4 : cb ≠ b4 := by have := hcb.lt; omega
    have hcb := hcb.keep0 hcm4;refine zss rfl rfl ao hb4 rfl fun ws13 hb4_ hcs13 => ?_;(try simp only [Sx.splice, qt] at hb4_);have hch := hch.s1 hcs13;have hcb := hcb.kq hcs13;have hb4 := hb4_;refine za rfl (zz (kh6 (zc fun _ kh15 => Sr fun _ kh16 => zm rfl ?_)));refine WL.ev (Ev.neqNilI rfl) rfl ?_;refine zz (kh16 ?_);refine CW.condT rfl ?_;refine zc fun _ kh18 => ?_;refine CW.ofI (CWI.regionI fun kR19 kr19 => ?_);refine WLI.at 7 rfl ?_;refine zm rfl (zg hb4 rfl (zm rfl (zm rfl ?_)));refine WL.ev (Ev.build (vs := _) (cs := [_, _]) rfl rfl) rfl ?_;refine zBh rfl rfl rfl hch fun b24 wm24 hb24 hcm24 hge24 hgehch24 hch => ?_;have hnecb24 : cb ≠ b24 := by have := hcb.lt; omega
    refine WL.ev (Ev.mkIface rfl) rfl ?_;refine WL.nil ?_;refine WLI.yield rfl rfl rfl (hW.bad R p c _ b24 hwk (hW.keep _ _ _ _ hJ hch) hpl hc hnz hb24) fun v w4 h' => ?_;refine WLI.nil (kr19 _ _ _ ?_);refine kh18 ?_;refine zr ?_;refine bodyA.ret0 rfl ?_;exact .inr ⟨R, p, c, hwk, hpl, hc, hnz, h'⟩
  ·have hpe : p = bs.length := by omega
   subst hpe;refine CW.exit ?_;refine bodyA.norm0 rfl ?_;exact .inl ⟨R, hwk, hJ⟩

end

/- Store: what Replay needs. No condition. -/
section
open Go Sx Wd Fl

/-- No cells lie there. -/
def NoC (w : World) (k : Nat) : Prop := ∀ c e z, w.heap[k]? ≠ some (.cells c e z)
section
variable {w w' : World} {k : Nat}
theorem Sx.LoopAt.noC {n : Nat} {s : Sl} {ps : Array Tmp} {assign body : Code} {st : LoopState} {pend : Option Code} {l : Nat} (h : LoopAt n s ps assign body st pend l k w) : NoC w l ∧ NoC w k :=
  ⟨fun c e z q => (h.ne q).1 rfl, fun c e z q => (h.ne q).2 rfl⟩
theorem noC_def (h : w.heap[k]? = some (.deferred (some []))) : NoC w k := fun c e z q => by rw [h] at q; cases q
theorem BK.keepN {b : Nat} {T : TypeId} {cs : List Value} (h : BK w b T cs) (hc : Chg [k] w w') (hn : NoC w k) : BK w' b T cs := h.keep hc (by simp only [List.mem_singleton]; rintro rfl; exact hn _ _ _ h)
theorem GR.keepNC {e : TypeId} {f : Nat → Value} {lo : Nat} {X : List Nat} {v : Value} {l : List Nat} (h : GR w e f lo X v l) (hc : Chg [k] w w') (hn : NoC w k) : GR w' e f lo X v l := h.keepV hc fun b hb q => by
  rw [List.mem_singleton.1 hb] at q
  obtain ⟨cur, hcur⟩ := h.cells q
  exact hn _ _ _ hcur
theorem GRc.keepN {e es lo m : Nat} {X : List Nat} {v : Value} {l : List Value} (h : GRc w e es lo X v m l) (hc : Chg [k] w w') (hn : NoC w k) : GRc w' e es lo X v m l := h.keepV hc fun b hb q => by
  rw [List.mem_singleton.1 hb] at q
  obtain ⟨cur, hcur⟩ := h.cells_ q
  exact hn _ _ _ hcur
theorem LgM.keepN {lo b : Nat} {G : List RG} (h : LgM lo w b G) (hc : Chg [k] w w') (hn : NoC w k) : LgM lo w' b G := by
  obtain ⟨⟨v, h1, h2⟩, h3, h4⟩ := h
  exact ⟨⟨v, BK.keepN h1 hc hn, h2.keepN hc hn⟩, fun g hg => ⟨(h3 g hg).1.keepNC hc hn, (h3 g hg).2⟩, h4⟩
/-- Another block turns, of no record, data or log. -/
theorem LgM.blocks {lo b : Nat} {G : List RG} (h : LgM lo w b G) : ∃ v t, BK w b 57 [v, t] ∧ ∀ y ∈ v.ownBlock.toList, y < w.heap.size := by
  obtain ⟨⟨v, h1, h2⟩, _⟩ := h
  exact ⟨v, _, h1, fun y hy => h2.lt (Option.mem_toList.1 hy)⟩
end
namespace Sx
section
variable {P : Program} {n : Nat} {D : List Deferred} {s : Sl} {w : World} {ty : TypeId} {x : Operand} {fn : Func} {R : Value → World → Prop}
theorem Ev.eqlNilN {t t' : TypeId} {ms : Array (String × TypeId)} {sz by_ : Nat} {z : Value} [hT : HasT P t (.interface ms) sz by_ z] (hx : opnd s x = some .nilIface) : Ev P s (.binOp .eql t x (.const .nilIface) t') ty w (.bool true) w := fun ρ d pos af g hρ => by
  have e1 := hρ x _ hx
  have e2 : ρ (.const .nilIface) = .nilIface := hρ _ _ rfl
  have := run_eqIn (P := P) (w := w) (t := t) (u := .nilIface) (v := .nilIface) (r := true) (fun d => by simp [Op.equalIn, hT.underlying])
  simp [execOp, e1, e2, eqGuard, binOp, this]
theorem bodyM.retM3 {r q p : ResultVar} (k : Nat) (hr : fn.results = #[r, q, p]) (hk : w.heap[k]? = some (.deferred (some []))) (h : ∀ w', Chg [k] w w' → ∃ v u x, RVal P n [mk_ k] s w' r v ∧ RVal P n [mk_ k] s w' q u ∧ RVal P n [mk_ k] s w' p x ∧ R (.tuple [v, u, x].toArray) w') : bodyM P fn n R .ret [mk_ k] s w :=
  .inr ⟨k, rfl, hk, fun w' hc => by
    obtain ⟨v, u, x, h1, h2, h3, hR⟩ := h w' hc
    exact ⟨_, fun a ha => by rw [results_rdR, hr]; simp [h1 a ha, h2 a ha, h3 a ha], hR⟩⟩
end
end Sx

theorem asNil_spec (t : Value) (w : World) : Ret Tryz.prog 33 [.nilIface, t] w fun u w' => u = .bool false ∧ w = w' := by
 refine zE2 Tryz.func33 rfl ?_;refine Sr fun _ kh1 => za rfl (zz (kh1 (zc fun _ kh3 => Sr fun _ kh4 => zm rfl ?_)));refine WL.ev (Ev.eqlNilN rfl) rfl ?_;refine zz (kh4 ?_);refine CW.condT rfl ?_;refine Sr fun _ kh6 => za rfl (zz (kh6 ?_));refine zr (zr1 rfl rfl ?_);exact ⟨rfl, rfl⟩

end

/- Store: Replay of bytes that are whole records. No condition. -/
section
open Go Sx Wd Fl

theorem Sx.LoopAt.abs {n : Nat} {s : Sl} {ps : Array Tmp} {assign body : Code} {st : LoopState} {pend : Option Code} {l k : Nat} {w : World} (h : LoopAt n s ps assign body st pend l k w) : ∃ LA : LoopState → Option Code → World → Prop, LA st pend w ∧ ∀ st pe W, LA st pe W ↔ LoopAt n s ps assign body st pe l k W := ⟨fun st pe W => LoopAt n s ps assign body st pe l k W, h, fun _ _ _ => Iff.rfl⟩
theorem Sx.LoopAt.lt {n : Nat} {s : Sl} {ps : Array Tmp} {assign body : Code} {st : LoopState} {pend : Option Code} {l k : Nat} {w : World} (h : LoopAt n s ps assign body st pend l k w) : l < w.heap.size ∧ k < w.heap.size := by
  obtain ⟨⟨x, h1, _⟩, h3⟩ := h
  exact ⟨(Array.getElem?_eq_some_iff.1 h1).1, (Array.getElem?_eq_some_iff.1 h3).1⟩
def tellG (G : List RG) : List (ByteArray × List Nat) := G.map fun g => (g.1, g.2.1)
theorem tellG_snoc (G : List RG) (g : RG) : tellG (G ++ [g]) = tellG G ++ [(g.1, g.2.1)] := by simp [tellG]
/-- Replay's loop between two rounds. -/
structure RepJ (w : World) (bl b2 b3 b4 b5 cb m cl : Nat) (al : Option Addr) (LA : LoopState → Option Code → World → Prop) (R : List (ByteArray × List Nat)) (p : Nat) (W : World) : Prop where
  ex : ∃ G, tellG G = R ∧ LgM w.heap.size W bl G ∧ totG G = p
  la : LA .ready none W
  h2 : BK W b2 23 [.pointer none]
  h3 : BK W b3 3 [.int .i64 0]
  h4 : BK W b4 32 [.int .i64 0]
  h5 : BK W b5 23 [.pointer (some ⟨bl, 0, none⟩)]
  hc : BK W cb 30 [.slice al m cl]
  ch : Chg [] w W
theorem RepJ.keep0 {w W W' : World} {bl b2 b3 b4 b5 cb m cl : Nat} {al : Option Addr} {LA : LoopState → Option Code → World → Prop} {R : List (ByteArray × List Nat)} {p : Nat} (h : RepJ w bl b2 b3 b4 b5 cb m cl al LA R p W) (hk : ∀ st pe W W', LA st pe W → Chg [] W W' → LA st pe W') (hc : Chg [] W W') : RepJ w bl b2 b3 b4 b5 cb m cl al LA R p W' := by
  obtain ⟨⟨G, g1, g2, g3⟩, a1, a2, a3, a4, a5, a6, a7⟩ := h
  exact ⟨⟨G, g1, g2.keep0 hc, g3⟩, hk _ _ _ _ a1 hc, a2.keep0 hc, a3.keep0 hc, a4.keep0 hc, a5.keep0 hc, a6.keep0 hc, a7.trans hc⟩
structure RepE (lo bl k : Nat) (G : List RG) (w : World) : Prop where
  lg : LgM lo w bl G
  kd : w.heap[k]? = some (.deferred (some []))
theorem RepE.keepBK {lo bl k b : Nat} {G : List RG} {w w' : World} {T : TypeId} {cs : List Value} (h : RepE lo bl k G w) (hb : BK w b T cs) (hc : Chg [b] w w') (_ : ∀ c ∈ cs, isU32 c = false) (h0 : 57 ≠ T := by decide) (h1 : 47 ≠ T := by decide) (h2 : 5 ≠ T := by decide) : RepE lo bl k G w' := by
  refine ⟨h.lg.keepBK hb hc (fun e => ?_) h1 h2, hc.heap h.kd fun e => ?_⟩
  · obtain ⟨⟨v, q1, _⟩, _⟩ := h.lg
    subst e
    have := q1.symm.trans hb
    simp at this
    exact h0 this.2
  · have hkb := List.mem_singleton.1 e
    have := h.kd
    rw [hkb, show w.heap[b]? = _ from hb] at this
    cases this
theorem BK.inj {w : World} {b : Nat} {T : TypeId} {cs ds : List Value} (h : BK w b T cs) (h' : BK w b T ds) : cs = ds := by
  have := h.symm.trans h'
  simpa using this

theorem stReplayOk_spec (al : Option Addr) (bs : List Nat) (cl : Nat) (w : World) (ea : Nat → Addr) (hrb : RW w al (bs.map u8v)) (hcap : bs.length ≤ cl) (hB : B8 bs) (hlen : bs.length ≤ 1048576) (hE : GE w (evV ea)) (hg : GW w) (hgood : ∀ R p, Wk bs R p → p < bs.length → (rdRec (bs.drop p)).1 = 0) : Ret Tryz.prog 17 [.slice al bs.length cl] w fun u w' => (∃ bl G, u = .tuple [.pointer (some ⟨bl, 0, none⟩), .int .i64 (bs.length : Int), .int .i64 0].toArray ∧ Wk bs (tellG G) bs.length ∧ LgM w.heap.size w' bl G ∧ w.heap.size ≤ bl) ∧ Chg [] w w' := by
  have hch : Chg [] w w := Chg.refl _ _;refine Ret.enterM Tryz.func17 rfl rfl ?_;simp only [args0, Nat.zero_add, Nat.reduceAdd];refine Sr fun _ kh1 => ?_;refine WL.allocB (l := [.pointer none]) rfl rfl fun b2 wm2 hb2 hcm2 hge2 => ?_;have hgehch2 := Nat.le_trans hch.size hge2;have hch := hch.ta hcm2;refine WL.allocB (l := [.int .i64 0]) rfl rfl fun b3 wm3 hb3 hcm3 hge3 => ?_;have hgehch3 := Nat.le_trans hch.size hge3;have hch := hch.ta hcm3;have hneb23 := zdd hb2.lt hge3;have hb2 := hb2.k0 hcm3;refine WL.allocB (l := [.int .i64 0]) rfl rfl fun b4 wm4 hb4 hcm4 hge4 => ?_;have hgehch4 := Nat.le_trans hch.size hge4;have hch := hch.ta hcm4;have hneb24 := zdd hb2.lt hge4;have hb2 := hb2.k0 hcm4;have hneb34 := zdd hb3.lt hge4;have hb3 := hb3.k0 hcm4;refine zz (kh1 (zc fun _ kh3 => Sr fun _ kh4 => zm rfl (zn rfl ?_)));refine WL.ev (Ev.gtr rfl rfl) rfl ?_;refine zz (kh4 ?_);refine zy rfl ?_ ?_<;>intro hc1<;>try simp only [qs] at hc1
  · omega
  · refine zkk ?_
    refine kh3 (Sr fun _ kh6 => ?_);refine WL.call hasF9 rfl rfl (stNew_spec _) fun v w1 h' => ?_;obtain ⟨⟨bl, rfl, hbl0, hgel⟩, hC⟩ := h';have hgel : w.heap.size ≤ bl := Nat.le_trans hch.size hgel;have hch := hch.ta hC;have hb2 := hb2.k0 hC;have hb3 := hb3.k0 hC;have hb4 := hb4.k0 hC;refine WL.allocB (l := [.pointer none]) rfl rfl fun b5 wm5 hb5 hcm5 hge5 => ?_;have hgehch5 := Nat.le_trans hch.size hge5;have hch := hch.ta hcm5;have hneb25 := zdd hb2.lt hge5;have hb2 := hb2.k0 hcm5;have hneb35 := zdd hb3.lt hge5;have hb3 := hb3.k0 hcm5;have hneb45 := zdd hb4.lt hge5;have hb4 := hb4.k0 hcm5;have hnebl5 := zdd hbl0.lt hge5;have hbl0 := hbl0.keep0 hcm5;refine WL.storeC rfl rfl o1 hb5 (by simp) rfl fun ws14 hb5_ hcs14 => ?_;(try simp only [Sx.splice, qt] at hb5_);have hch := hch.s1 hcs14;have hb2 := hb2.kq hcs14;have hb3 := hb3.kq hcs14;have hb4 := hb4.kq hcs14;have hbl0 := hbl0.kq hcs14;have hb5 := hb5_;refine zz (kh6 (zc fun _ kh8 => Sr fun _ kh9 => zm rfl ?_));refine WL.call hasF32 rfl rfl (stWalk_spec _ _ _ _) fun v w2 h' => ?_;obtain ⟨⟨cb, rfl, hcb, hgec⟩, hC⟩ := h';have hch := hch.ta hC;have hb2 := hb2.k0 hC;have hb3 := hb3.k0 hC;have hb4 := hb4.k0 hC;have hbl0 := hbl0.keep0 hC;have hb5 := hb5.k0 hC;refine zz (kh9 ?_);refine CW.block ?_;refine CW.rangeFunc rfl hasF46 fun l k w1 hkl hll hc1 hL => ?_;have hll : w.heap.size ≤ l := Nat.le_trans hch.size hll;have hkl : w.heap.size ≤ k := Nat.le_trans hch.size hkl;obtain ⟨LA, hLA, hLI⟩ := hL.abs;have hLk : ∀ st pe W W', LA st pe W → Chg [] W W' → LA st pe W' := fun st pe W W' h hc => (hLI _ _ _).2 (((hLI _ _ _).1 h).keep0 hc);have hW : Walks l cb cl al bs ea (RepJ w bl b2 b3 b4 b5 cb bs.length cl al LA) (fun _ _ _ => False) := {
      keep := fun R p W W' h hc => h.keep0 hLk hc
      has := fun R p W h => ⟨h.hc, hrb.keep0 h.ch, hE.keep0 h.ch, hg.keep h.ch (fun b hb => by cases hb)⟩
      bad := fun R p c W bf hwk _ hpl hc hnz _ => absurd (hgood R p hwk hpl) (by rw [hc]; exact hnz)
      one := fun R p nm dat W0 W dv hwk hJ hcW hpl hz hgd => by
        have hok := rdRec_ok (hB.drop p) hz;rw [List.length_drop] at hok;obtain ⟨hn1, hn2, hn3, hn4, hn5⟩ := hok;obtain ⟨⟨G, hG, hLg, htot⟩, hla, h2, h3, h4, h5, hc, hch⟩ := hJ;have hL0 := (hLI _ _ _).1 hla;obtain ⟨v0, t0, hv0, hv0l⟩ := hLg.blocks;have hLl := hL0.lt;have hbl0 := hLg.lt;obtain ⟨ad, cd, rfl, hcapd, hrd⟩ := hgd.row;have hL1 := hL0.keep0 hcW;refine round2 hL1 rfl rfl ?_;refine CWI.seq fun kA kha => ?_;refine CWI.region rfl fun kB khb => ?_;refine WL.allocB (l := [.string ⟨#[]⟩, .slice none 0 0]) rfl rfl fun b6 wm6 hb6 hcm6 hge6 => ?_;refine zss rfl rfl (by intro u hu; simp only [List.mem_cons, List.not_mem_nil, or_false] at hu; rcases hu with rfl | rfl <;> rfl) hb6 rfl fun ws6 hb6_ hcs6 => ?_;(try simp only [Sx.splice, qt] at hb6_);refine WL.nil (khb _ _ _ ?_);refine kha _ _ _ ?_;refine CWI.region rfl fun kC khc => ?_;refine za rfl ?_;refine WL.nil (khc _ _ _ ?_);have hW6 : Chg [] W ws6 := hcm6.step hcs6 fun y hy => by rw [List.mem_singleton.1 hy]; exact .inr hge6
        have h06 := hcW.trans hW6;have hL6 := hL0.keep0 h06;refine ⟨hL6, rfl, fun W2 hc2 hL2 => ?_⟩;have hN6 := hL6.noC;have hLg2 := (hLg.keep0 h06).keepN hc2 hN6.1;have h22 := BK.keepN (h2.keep0 h06) hc2 hN6.1;have h32 := BK.keepN (h3.keep0 h06) hc2 hN6.1;have h42 := BK.keepN (h4.keep0 h06) hc2 hN6.1;have h52 := BK.keepN (h5.keep0 h06) hc2 hN6.1;have hcc2 := BK.keepN (hc.keep0 h06) hc2 hN6.1;have hv2 := BK.keepN (hv0.keep0 h06) hc2 hN6.1;have hb62 := BK.keepN hb6_ hc2 hN6.1;have hgd2 := (hgd.keep0 hW6).keepNC hc2 hN6.1;have hX2 : Chg (l :: bl :: v0.ownBlock.toList) W W2 := (Chg.any hW6).trans (hc2.mono fun y hy => by rw [List.mem_singleton.1 hy]; exact List.mem_cons_self ..);have hch2 : Chg [bl] w W2 := ((Chg.any (hch.trans h06)).step hc2 fun y hy => by rw [List.mem_singleton.1 hy]; exact .inr hll);refine CWI.block ?_;refine CWI.seq fun kD khd => ?_;refine CWI.region rfl fun kE khe => ?_;refine WL.allocB (l := [.pointer none]) rfl rfl fun b8 wm8 hb8 hcm8 hge8 => ?_;refine WL.nil (khe _ _ _ ?_);refine khd _ _ _ ?_;refine CWI.seq fun kF khf => ?_;refine CWI.seq fun kG khg => ?_;refine CWI.region rfl fun kH khh => ?_;refine zm rfl ?_;refine WL.ev (Ev.mkIface rfl) rfl ?_;refine WL.call hasF33 rfl rfl (asNil_spec _ _) fun v w9 h' => ?_;obtain ⟨rfl, rfl⟩ := h';refine WL.nil (khh _ _ _ ?_);refine khg _ _ _ ?_;refine CWI.condF rfl ?_;refine CWI.skip ?_;refine khf _ _ _ ?_;refine CWI.region rfl fun kI khi => ?_;refine WL.ev (Ev.load (v := .pointer (some ⟨bl, 0, none⟩)) rfl rfl ((h52.keep0 hcm8).at_ rfl)) rfl ?_;refine WL.ev (Ev.loadA rfl rfl (hb62.keep0 hcm8) rfl) rfl ?_;have hsz : szG (bA nm, dat, Value.slice ad dat.length cd) = 8 + nm.length + dat.length := by unfold szG; dsimp only; rw [sB_bA hn4]
        refine WL.call hasF30 rfl rfl (stAdd_spec bl w.heap.size G (bA nm) ad dat cd w wm8 (hLg2.keep0 hcm8) (hgd2.keep0 hcm8) hn5 (by rw [sB_bA hn4]; omega) (by omega) (hch2.ta hcm8) (Nat.le_refl _) (hch2.ta hcm8).size) fun v w10 h' => ?_;obtain ⟨h', v1, t1, hv1, hX⟩ := h';have hev := BK.inj (BK.keep0 hv2 hcm8) hv1
        injection hev with hev hev2
        subst hev;refine WL.nil (khi _ _ _ ?_);rcases h' with ⟨hgt, _⟩ | ⟨hle, rfl, hLg3, hch3⟩
        · rw [hsz] at hgt; omega
        have hL8 := hL2.keep0 hcm8;have nl : l ∉ bl :: v0.ownBlock.toList := fun hm => by
          rcases List.mem_cons.1 hm with e | e
          · exact ((hL0.ne (show W0.heap[bl]? = _ from hv0)).1 e.symm)
          · obtain ⟨⟨vv, g1, g2⟩, _⟩ := hLg
            have e9 := BK.inj hv0 g1
            injection e9 with e9 _
            subst e9;obtain ⟨cur, hcur⟩ := g2.cells_ (Option.mem_toList.1 e);exact (hL0.ne hcur).1 rfl
        have nk : k ∉ bl :: v0.ownBlock.toList := fun hm => by
          rcases List.mem_cons.1 hm with e | e
          · exact ((hL0.ne (show W0.heap[bl]? = _ from hv0)).2 e.symm)
          · obtain ⟨⟨vv, g1, g2⟩, _⟩ := hLg
            have e9 := BK.inj hv0 g1
            injection e9 with e9 _
            subst e9;obtain ⟨cur, hcur⟩ := g2.cells_ (Option.mem_toList.1 e);exact (hL0.ne hcur).2 rfl
        have hL10 := hL8.keep hX nl nk;have other : ∀ {b T cs}, BK W0 b T cs → T ≠ 57 → T ≠ 47 → b ∉ bl :: v0.ownBlock.toList := fun {b T cs} hb n1 n2 hm => by
          rcases List.mem_cons.1 hm with e | e
          · subst e
            have := hb.symm.trans hv0;simp at this;exact n1 this.2
          · obtain ⟨⟨vv, g1, g2⟩, _⟩ := hLg
            have e9 := BK.inj hv0 g1
            injection e9 with e9 _
            subst e9;exact g2.notBK hb (Ne.symm n2) (Option.mem_toList.1 e)
        refine ⟨hL10, fun W3 hc3 hL3 => ⟨rfl, ⟨⟨_, ?_, hLg3.keepN hc3 hL10.noC.1, ?_⟩, (hLI _ _ _).2 hL3, BK.keepN ((h22.keep0 hcm8).keep hX (other h2 (by decide) (by decide))) hc3 hL10.noC.1, BK.keepN ((h32.keep0 hcm8).keep hX (other h3 (by decide) (by decide))) hc3 hL10.noC.1, BK.keepN ((h42.keep0 hcm8).keep hX (other h4 (by decide) (by decide))) hc3 hL10.noC.1, BK.keepN ((h52.keep0 hcm8).keep hX (other h5 (by decide) (by decide))) hc3 hL10.noC.1, BK.keepN ((hcc2.keep0 hcm8).keep hX (other hc (by decide) (by decide))) hc3 hL10.noC.1, ?_⟩, l :: bl :: v0.ownBlock.toList, ?_, ?_⟩⟩
        · rw [tellG_snoc, hG]
        · rw [totG_snoc, hsz, htot]
        · exact (hch3.drop hgel).step hc3 fun y hy => by rw [List.mem_singleton.1 hy]; exact .inr hll
        · exact ((hX2.ta hcm8).trans (hX.mono fun y hy => List.mem_cons_of_mem _ hy)).trans (hc3.mono fun y hy => by rw [List.mem_singleton.1 hy]; exact List.mem_cons_self ..)
        · intro y hy
          rcases List.mem_cons.1 hy with rfl | hy
          · exact hLl.1
          rcases List.mem_cons.1 hy with rfl | hy
          · exact hbl0
          · exact hv0l y hy
    }
    have hJ0 : RepJ w bl b2 b3 b4 b5 cb bs.length cl al LA [] 0 w1 := ⟨⟨[], rfl, LgM.new (hbl0.keep0 hc1), rfl⟩, hLA, hb2.keep0 hc1, hb3.keep0 hc1, hb4.keep0 hc1, hb5.keep0 hc1, hcb.keep0 hc1, hch.trans hc1⟩;refine (stWalk1_spec l cb cl al bs ea _ _ w1 hW hJ0 hcap hB hlen).mono fun v w2 h2 => ?_;rcases h2 with ⟨R, hwk, hJ⟩ | ⟨R, p, c, _, _, _, _, hf⟩
    rotate_left
    · exact hf.elim
    obtain ⟨⟨G, hG, hLg, htot⟩, hla, hb2, hb3, hb4, hb5, hcb, hch⟩ := hJ;have hL2 := (hLI _ _ _).1 hla;have hN := hL2.noC;refine .inl ⟨hL2, fun w3 hc3 hk3 => ?_⟩;have hLE : RepE w.heap.size bl k G w3 := ⟨hLg.keepN hc3 hN.1, hk3⟩;have hb2 := BK.keepN hb2 hc3 hN.1;have hb3 := BK.keepN hb3 hc3 hN.1;have hb4 := BK.keepN hb4 hc3 hN.1;have hb5 := BK.keepN hb5 hc3 hN.1;have hch := hch.step hc3 (fun y hy => by rw [List.mem_singleton.1 hy]; exact .inr hll);refine kh8 (Sr fun _ kh11 => zl hb5 rfl rfl (zm rfl (zn rfl ?_)));refine WL.storeC rfl rfl o1 hb2 (by simp) rfl fun ws15 hb2_ hcs15 => ?_;(try simp only [Sx.splice, qt] at hb2_);have hch := hch.s1 hcs15;have hb3 := hb3.kq hcs15;have hb4 := hb4.kq hcs15;have hLE := hLE.keepBK hb2 hcs15 an;have hb2 := hb2_;refine WL.storeC rfl rfl o1 hb3 (by simp) rfl fun ws16 hb3_ hcs16 => ?_;(try simp only [Sx.splice, qt] at hb3_);have hch := hch.s1 hcs16;have hb2 := hb2.kq hcs16;have hb4 := hb4.kq hcs16;have hLE := hLE.keepBK hb3 hcs16 an;have hb3 := hb3_;refine WL.storeC rfl rfl o1 hb4 (by simp) rfl fun ws17 hb4_ hcs17 => ?_;(try simp only [Sx.splice, qt] at hb4_);have hch := hch.s1 hcs17;have hb2 := hb2.kq hcs17;have hb3 := hb3.kq hcs17;have hLE := hLE.keepBK hb4 hcs17 an;have hb4 := hb4_;refine zz (kh11 ?_);refine zr ?_;refine bodyM.retM3 k rfl hLE.kd fun w9 hc9 => ⟨_, _, _, RVal.cell rfl ((BK.keepN hb2 hc9 (noC_def hLE.kd)).var1 rfl rfl), RVal.cell rfl ((BK.keepN hb3 hc9 (noC_def hLE.kd)).var1 rfl rfl), RVal.cell rfl ((BK.keepN hb4 hc9 (noC_def hLE.kd)).var1 rfl rfl), ?_⟩;exact ⟨⟨bl, G, rfl, by rw [hG]; exact hwk, hLE.lg.keepN hc9 (noC_def hLE.kd), hgel⟩, hch.step hc9 (fun y hy => by rw [List.mem_singleton.1 hy]; exact .inr hkl)⟩

end

/- Store: Total. No condition. -/
section
open Go Sx Wd Fl

namespace Sx
theorem Ev.neqStr {P : Program} {s : Sl} {w : World} {ty : TypeId} {x y : Operand} {t t' : TypeId} {a b : ByteArray} (hx : opnd s x = some (.string a)) (hy : opnd s y = some (.string b)) : Ev P s (.binOp .neq t x y t') ty w (.bool (decide (a ≠ b))) w := fun ρ d pos af g hρ => by
  have e1 := hρ x _ hx
  have e2 := hρ y _ hy
  have e3 : (!(a.toList == b.toList)) = decide (a ≠ b) := by
    rw [ByteArray.toList_eq, ByteArray.toList_eq]
    by_cases h : a = b
    · subst h; simp
    · have : a.data.toList ≠ b.data.toList := fun q => h (by cases a; cases b; congr 1; exact Array.ext' q)
      rw [decide_eq_true h, beq_eq_false_iff_ne.2 this]; rfl
  simp [execOp, e1, e2, eqGuard, binOp_string_neq, e3]
end Sx
/-- A name's total, record by record: the shard, whether there was one; or why there is none. -/
def totStep (nm : ByteArray) (acc : Except Nat (Sh × Bool)) (g : RG) : Except Nat (Sh × Bool) :=
  match acc with
  | .error e => .error e
  | .ok (S, a) => if g.1 = nm then (match decS g.2.1 with
    | none => .error 210
    | some U => if 1099511627776 < S.s.al + U.s.al then .error 2 else .ok (S.merge U, true)) else .ok (S, a)
def totW (nm : ByteArray) (G : List RG) : Except Nat (Sh × Bool) := G.foldl (totStep nm) (.ok (Sh.zero, false))
theorem totW_take {nm : ByteArray} {G : List RG} {i : Nat} {g : RG} (h : G[i]? = some g) : totW nm (G.take (i + 1)) = totStep nm (totW nm (G.take i)) g := by
  rw [List.take_add_one, h]
  simp [totW]
theorem totErr (nm : ByteArray) (G : List RG) (e : Nat) : G.foldl (totStep nm) (.error e) = .error e := by
  induction G with
  | nil => rfl
  | cons g G ih => exact ih
theorem totW_err {nm : ByteArray} {G : List RG} {i e : Nat} (h : totW nm (G.take i) = .error e) : totW nm G = .error e := by
  conv => lhs; rw [← List.take_append_drop i G]
  unfold totW at h ⊢
  rw [List.foldl_append, h, totErr]
theorem ShM.keepBK {T T' : TypeId} {w w' : World} {b c : Nat} {S : Sh} {cs : List Value} (h : ShM T w b S) (hb : BK w c T' cs) (hc : Chg [c] w w') (hn : ∀ x ∈ cs, isU32 x = false) (hne : T ≠ T' := by decide) : ShM T w' b S := by
  obtain ⟨rv, rq, hbb, h1, h2⟩ := h
  refine ⟨rv, rq, hbb.keep hc (fun e => ?_), h1.keepBK hb hc hn, h2.keepBK hb hc hn⟩
  have e := List.mem_singleton.1 e
  subst e
  have := hbb.symm.trans hb
  simp at this
  exact hne this.2
/-- All kinds together are no more than all. -/
def Sh.cnt (S : Sh) : Prop := S.s.na + S.s.up + S.s.dn + S.s.mi + S.s.pl ≤ S.s.al
theorem cnt_wf {S U : Sh} (hS : S.wf) (hU : U.wf) (hk : S.cnt) (hk2 : U.cnt) (h : S.s.al + U.s.al ≤ 1099511627776) : (S.merge U).wf ∧ (S.merge U).cnt := by
  unfold Sh.cnt at hk hk2
  exact ⟨Sh.merge_wf hS hU ⟨by show S.s.na + U.s.na ≤ _; omega, by show S.s.up + U.s.up ≤ _; omega, by show S.s.dn + U.s.dn ≤ _; omega, by show S.s.mi + U.s.mi ≤ _; omega, by show S.s.pl + U.s.pl ≤ _; omega, by show S.s.al + U.s.al ≤ _; exact h⟩,
    by show S.s.na + U.s.na + (S.s.up + U.s.up) + (S.s.dn + U.s.dn) + (S.s.mi + U.s.mi) + (S.s.pl + U.s.pl) ≤ S.s.al + U.s.al; omega⟩
theorem decS_cnt {bs : List Nat} {S : Sh} (h : decS bs = some S) : S.cnt := by
  unfold decS at h
  split at h
  · cases h
  rename_i hn
  unfold decD decV decE at h
  split at h
  · cases h
  cases h
  have h2 : ¬ ((Sh.mk (spOf (rdK bs 6).1) Dy.zero Dy.zero 0 0).fin < ((spOf (rdK bs 6).1).mi : Int) + (spOf (rdK bs 6).1).pl) := fun q => hn (.inr q)
  unfold Sh.fin at h2
  show (spOf (rdK bs 6).1).na + (spOf (rdK bs 6).1).up + (spOf (rdK bs 6).1).dn + (spOf (rdK bs 6).1).mi + (spOf (rdK bs 6).1).pl ≤ (spOf (rdK bs 6).1).al
  dsimp only at h2
  omega

theorem stTotal_spec (b lo : Nat) (G : List RG) (nm : ByteArray) (w : World) (hL : LgM lo w b G) (hg0 : GW w) : Ret Tryz.prog 21 [.pointer (some ⟨b, 0, none⟩), .string nm] w fun u w' => ((∃ S bt, totW nm G = .ok (S, true) ∧ u = .tuple [.pointer (some ⟨bt, 0, none⟩), .int .i64 0].toArray ∧ ShM 66 w' bt S ∧ S.wf ∧ w.heap.size ≤ bt) ∨ (∃ S, totW nm G = .ok (S, false) ∧ u = .tuple [.pointer none, .int .i64 3].toArray) ∨ (∃ e, totW nm G = .error e ∧ u = .tuple [.pointer none, .int .i64 (e : Int)].toArray)) ∧ Chg [] w w' := by
 obtain ⟨⟨v, hb, hgc⟩, hda, htot⟩ := hL;obtain ⟨av, cv, rfl, hcapv, hrv, -⟩ := hgc.row;have hGl := totG_len G;have hch : Chg [] w w := Chg.refl _ _;refine zE2 Tryz.func21 rfl ?_;refine Sr fun _ kh1 => za rfl (za rfl (zz (kh1 (Sr fun _ kh3 => ?_))));refine WL.call hasF11 rfl rfl (shNew_spec _) fun v w1 h' => ?_;obtain ⟨⟨bt, rfl, hbt, hget⟩, hC⟩ := h';have hch := hch.ta hC;refine za rfl (za rfl (zz (kh3 (zc fun _ kh5 => Sr fun _ kh6 => zm rfl ?_))));refine WL.ev (Ev.nilPtr rfl) rfl ?_;refine zf rfl ?_;refine WL.ev (Ev.load (v := .slice av G.length cv) rfl rfl ((hb.keep0 hch).at_ rfl)) rfl ?_;refine zn rfl (zm rfl (zz (kh6 ?_)));refine CW.block ?_;refine CW.loop (S := fun g : Nat × Sh × Bool => [(0, .pointer (some ⟨b, 0, none⟩)), (1, .string nm), (6, .pointer (some ⟨bt, 0, none⟩)), (7, .bool g.2.2), (16, .slice av G.length cv), (17, .int .i64 (G.length : Int)), (18, .int .i64 (g.1 : Int))]) (Inv := fun g w1 => g.1 ≤ G.length ∧ totW nm (G.take g.1) = .ok (g.2.1, g.2.2) ∧ ShM 66 w1 bt g.2.1 ∧ g.2.1.wf ∧ g.2.1.cnt ∧ Chg [] w w1) (mu := fun g => G.length - g.1) ((0, Sh.zero, false)) ?_ ?_ ?_
 ·exact ⟨Nat.zero_le _, rfl, hbt, Sh.wf.zero, Nat.le_refl _, hch⟩
 ·exact SLp
 ·rintro ⟨i, S, any⟩ wr ⟨hi, htw, hbt, hwf, hcn, hch⟩;dsimp only at hi htw hbt hwf hcn;dsimp only;have hget : w.heap.size ≤ bt := hget;refine Sr fun _ kh8 => ?_;refine WL.ev (Ev.lss rfl rfl) rfl ?_;refine zz (kh8 (zc fun _ kh10 => ?_));refine zy rfl ?_ ?_<;>intro hc1<;>try simp only [qs] at hc1
  ·obtain ⟨⟨nm1, data, dv⟩, hg⟩ : ∃ g, G[i]? = some g := ⟨_, List.getElem?_eq_getElem (by omega : i < G.length)⟩
   have hm := List.mem_of_getElem? hg;obtain ⟨q, rfl, -⟩ := hgc.at2 hg;obtain ⟨q2, e2, hcell⟩ := (hgc.keep0 hch).at2 hg;cases e2;obtain ⟨hd1, hB⟩ := hda _ hm;dsimp only at hd1 hB;obtain ⟨ad, cd, rfl, hcapd, hrd⟩ := hd1.row;have hs2 := szG_le hm;unfold szG at hs2;dsimp only at hs2;have hstep := totW_take (nm := nm) hg;rw [htw] at hstep;refine zkk ?_;refine kh10 (zc fun _ kh11 => ?_);refine CW.block ?_;refine Sr fun _ kh12 => ?_;refine WL.ev (Ev.indexAddr rfl rfl (by omega) (by omega)) rfl ?_;refine WL.ev (Ev.loadAgg (cs := [.string nm1, .slice ad data.length cd]) rfl rfl rfl hcell) rfl ?_;refine WL.allocB (l := [.string ⟨#[]⟩, .slice none 0 0]) rfl rfl fun b9 wm9 hb9 hcm9 hge9 => ?_;have hgehch9 := Nat.le_trans hch.size hge9;have hch := hch.ta hcm9;have hbt := hbt.keep0 hcm9;refine zss rfl rfl ao hb9 rfl fun ws18 hb9_ hcs18 => ?_;(try simp only [Sx.splice, qt] at hb9_);have hch := hch.s1 hcs18;have hbt := hbt.keepBK hb9 hcs18 an;have hb9 := hb9_;refine zz (kh12 (zc fun _ kh14 => Sr fun _ kh15 => zf rfl (zl hb9 rfl rfl (zm rfl ?_))));refine WL.ev (Ev.neqStr rfl rfl) rfl ?_;refine zz (kh15 ?_);refine zy rfl ?_ ?_<;>intro hc2<;>try simp only [qs] at hc2
   ·have hne : ¬ nm1 = nm := by simpa using hc2
    have hstep2 : totStep nm (.ok (S, any)) (nm1, data, Value.slice ad data.length cd) = .ok (S, any) := if_neg hne;refine CW.exit ?_;refine kh11 ?_;refine zR fun _ kr17 => ?_;(first | refine zi rfl rfl ?_ | refine zo rfl rfl ?_);refine zm rfl ?_;refine WL.nil (kr17 _ _ _ ?_);refine ⟨rfl, (i + 1, S, any), ?_, ?_, ?_⟩
    ·exact SLp
    ·exact ⟨by dsimp only; omega, by rw [hstep]; exact hstep2, hbt, hwf, hcn, hch⟩
    ·show G.length - (i + 1) < G.length - i; omega
   ·have heq : nm1 = nm := by simpa using hc2
    refine zkk ?_;refine kh14 (Sr fun _ kh18 => za rfl (zz (kh18 (Sr fun _ kh20 => zf rfl (zl hb9 rfl rfl ?_)))));refine WL.call hasF36 rfl rfl (Decode_spec21 ad data cd _ (hrd.keep0 hch) hcapd (fun a9 e => by subst e; exact Nat.lt_of_lt_of_le (hd1.lt rfl) hch.size) hB (by omega) (hg0.keep hch (fun b hb => by cases hb))) fun v w2 h' => ?_;obtain ⟨hu, hC⟩ := h';have hbt0 := hbt;have hch := hch.ta hC;have hbt := hbt.keep0 hC;obtain ⟨U, bu, hdec, rfl, hbu, hgeu, hwU⟩ | ⟨hdec, rfl⟩ := hu
    ·refine zm rfl (zx rfl rfl (zx rfl rfl (za rfl (za rfl (zz (kh20 (zc fun _ kh22 => Sr fun _ kh23 => zm rfl (zq rfl rfl (zz (kh23 ?_))))))))));refine CW.condT rfl ?_;refine zR fun _ kr25 => ?_;refine zm rfl (zm rfl ?_);refine WL.call hasF37 rfl rfl (shMerge_spec bt bu S U _ hbt hwf hbu hwU (by have := hbt0.lt; omega) (hg0.keep hch (fun b hb => by cases hb))) fun v w3 h' => ?_;rcases h' with ⟨hbig, rfl, hbt, hC⟩ | ⟨hfit, rfl, hbt, hC⟩
     ·have hch := hch.step hC (fun y hy => by rw [List.mem_singleton.1 hy]; exact .inr hget);refine za rfl ?_;refine WL.nil (kr25 _ _ _ (kh22 ?_));refine Sr fun _ kh26 => zm rfl ?_;refine WL.ev (Ev.neq rfl rfl) rfl ?_;refine zz (kh26 ?_);refine CW.condT rfl ?_;refine Sr fun _ kh28 => zm rfl (za rfl (za rfl (zz (kh28 ?_))));refine zr (zr2 rfl rfl rfl ?_);have herr : totW nm (G.take (i + 1)) = .error 2 := by
       rw [hstep]; unfold totStep; dsimp only; rw [if_pos heq, hdec]; dsimp only; rw [if_pos hbig]
      exact ⟨.inr (.inr ⟨2, totW_err herr, rfl⟩), hch⟩
     ·have hch := hch.step hC (fun y hy => by rw [List.mem_singleton.1 hy]; exact .inr hget);have hcU := decS_cnt hdec;have hwc := cnt_wf hwf hwU hcn hcU hfit;have hstep2 : totStep nm (.ok (S, any)) (nm1, data, Value.slice ad data.length cd) = .ok (S.merge U, true) := by
       unfold totStep; dsimp only; rw [if_pos heq, hdec]; dsimp only; rw [if_neg (by omega)]
      refine za rfl ?_;refine WL.nil (kr25 _ _ _ (kh22 ?_));refine Sr fun _ kh30 => zm rfl ?_;refine WL.ev (Ev.neq rfl rfl) rfl ?_;refine zz (kh30 ?_);refine CW.condF rfl ?_;refine zkk ?_;refine kh11 ?_;refine zR fun _ kr32 => ?_;(first | refine zi rfl rfl ?_ | refine zo rfl rfl ?_);refine zm rfl ?_;refine WL.nil (kr32 _ _ _ ?_);refine ⟨rfl, (i + 1, S.merge U, true), ?_, ?_, ?_⟩
      ·exact SLp
      ·exact ⟨by dsimp only; omega, by rw [hstep]; exact hstep2, hbt, hwc.1, hwc.2, hch⟩
      ·show G.length - (i + 1) < G.length - i; omega
    ·refine zm rfl (zx rfl rfl (zx rfl rfl (za rfl (za rfl (zz (kh20 (zc fun _ kh33 => Sr fun _ kh34 => zm rfl (zq rfl rfl (zz (kh34 ?_))))))))));refine CW.condF rfl ?_;refine zkk ?_;refine kh33 (Sr fun _ kh36 => zm rfl ?_);refine WL.ev (Ev.neq rfl rfl) rfl ?_;refine zz (kh36 ?_);refine CW.condT rfl ?_;refine Sr fun _ kh38 => zm rfl (za rfl (za rfl (zz (kh38 ?_))));refine zr (zr2 rfl rfl rfl ?_);have herr : totW nm (G.take (i + 1)) = .error 210 := by
      rw [hstep]; unfold totStep; dsimp only; rw [if_pos heq, hdec]
     exact ⟨.inr (.inr ⟨210, totW_err herr, rfl⟩), hch⟩
  ·have hiX : i = G.length := by omega
   subst hiX;rw [List.take_length] at htw;refine CW.exit ?_;refine kh5 (zc fun _ kh40 => Sr fun _ kh41 => zm rfl ?_);refine WL.ev (Ev.not rfl) rfl ?_;refine zz (kh41 ?_);refine zy rfl ?_ ?_<;>intro hc3<;>try simp only [qs] at hc3
   ·have hany : any = false := by simpa using hc3
    subst hany;refine Sr fun _ kh43 => za rfl (za rfl (zz (kh43 ?_)));refine zr (zr2 rfl rfl rfl ?_);exact ⟨.inr (.inl ⟨S, htw, rfl⟩), hch⟩
   ·have hany : any = true := by simpa using hc3
    subst hany;refine zkk ?_;refine kh40 (Sr fun _ kh45 => zm rfl (za rfl (za rfl (zz (kh45 ?_)))));refine zr (zr2 rfl rfl rfl ?_);exact ⟨.inl ⟨S, bt, htw, rfl, hbt, hwf, hget⟩, hch⟩

end

/- Store: Records. No condition. -/
section
open Go Sx Wd Fl

namespace Sx
section
variable {P : Program} {ops : Array Oper} {K : KK} {fuel : Nat} {listed : Array Bool} {n : Nat} {D : List Deferred} {s : Sl} {w : World} {ty : TypeId} {pos : String} {af : Array Edge} {d : Nat} {x y : Operand}
theorem WH.buildSliceT (i : Nat) {w0 : World} {T0 : List Nat} {t e : TypeId} {de : TypeDesc} {sz by_ es be : Nat} {z ze : Value} {ps : List (Nat × Operand)} {vs : List (Nat × Value)} {cs : List Value} {m : Nat} [hT : HasT P t (.slice e) sz by_ z] [hE : HasT P e de es be ze]
    (hi : ops[i]? = some ⟨some d, .buildSlice t m ps.toArray, ty, pos, af, none⟩) (hr : Region.ready .any ops listed = [i]) (hS : Chg T0 w0 w)
    (hm : m * es ≤ 2 ^ 24) (hp : 0 < m * es) (hx : opndP s ps = some vs) (hf : Instr.fill (fun i => some (i * es, es)) ((Array.range (m * es)).map (ze.cells[· % ze.cells.size]!)) vs = some cs.toArray) (hd : Nat.blt d n = true)
    (k : ∀ b w', New w b (.cells cs.toArray e) w' → Chg T0 w0 w' → WH P ops K (Chg T0 w0) fuel (listed.setIfInBounds i true) n D ((d, .slice (some ⟨b, 0, none⟩) m m) :: s) w') : WH P ops K (Chg T0 w0) (fuel + 1) listed n D s w := by
  obtain ⟨b, w', he, hn⟩ := ev_buildSlice (P := P) (ty := ty) (w := w) (t := t) (hT := hT) (hE := hE) hm hp hx hf
  exact WH.one i hi hr he (hS.trans (Chg.any hn.chg)) hd (k b w' hn (hS.trans (Chg.any hn.chg)))
theorem WH.growRc (i : Nat) {w0 : World} {t e es be : Nat} {de : TypeDesc} {ze : Value} {sz by_ : Nat} {z0 : Value} {v : Value} {lo m : Nat} {l news : List Value} {ad : Addr} {mm c : Nat} [hT : HasT P t (.slice e) sz by_ z0] [hE : HasT P e de es be ze]
    (hi : ops[i]? = some ⟨some d, .call ⟨.builtin .append, [x, y].toArray, #[t, t]⟩, ty, pos, af, none⟩) (hr : Region.ready .any ops listed = [i]) (hS : Chg v.ownBlock.toList w0 w)
    (hzs : ze.cells.size = es) (hsz : 0 < es) (h1 : ∀ u ∈ news, u.oneCell' = true) (hx : opnd s x = some v) (hy : opnd s y = some (.slice (some ad) mm c)) (hg : GRc w e es lo [] v m l) (hm : news.length = mm * es) (hrw : RW w (some ad) news) (hlo : lo ≤ w.heap.size)
    (hbytes : (m + mm) * be ≤ 140737488355328) (h63 : m + mm ≤ 70368744177664) (hd : Nat.blt d n = true)
    (k : ∀ v' w', GRc w' e es lo [] v' (m + mm) (l ++ news) → Chg v.ownBlock.toList w w' → Chg v.ownBlock.toList w0 w' → WH P ops K (Chg v.ownBlock.toList w0) fuel (listed.setIfInBounds i true) n D ((d, v') :: s) w') : WH P ops K (Chg v.ownBlock.toList w0) (fuel + 1) listed n D s w := by
  obtain ⟨j, hj, hj1, hj2, hj3⟩ := hE.inf
  obtain ⟨v', w', hrr, ho, hgr, _, hloc⟩ := run_append_own_at (P := P) w 0 t ty e j ze es be hT.und hj hj3 hj1 hj2 hzs hsz v m l hg.1 ad mm c news hm (fun q u hu => by obtain ⟨ad', e1, hcell⟩ := hrw q u hu; cases e1; exact hcell) h1 (by unfold maxLen; omega) hbytes (Nat.zero_le _)
  have hc : Chg v.ownBlock.toList w w' := Chg.of_grown hgr
  have hS' := hS.step hc (fun y hy => .inl hy)
  refine WH.one (v := v') (w' := w') i hi hr (fun ρ d' pos af g hρ => ?_) hS' hd (k _ _ ⟨ho, fun b hb => ⟨?_, by simp⟩⟩ hc hS')
  · have e1 := hρ x _ hx
    have e2 := hρ y _ hy
    simp [execOp, resolve, invoke, builtin, e1, e2, hrr]
  · rcases hloc with q | q
    · rw [q] at hb; exact (hg.2 b hb).1
    · rw [q] at hb; cases hb; exact hlo
end
end Sx
theorem tellG_take {G : List RG} {i : Nat} {g : RG} (h : G[i]? = some g) : tellG (G.take (i + 1)) = tellG (G.take i) ++ [(g.1, g.2.1)] := by
  rw [List.take_add_one, h]
  simp [tellG]

theorem stRecords_spec (b lo : Nat) (G : List RG) (w : World) (hL : LgM lo w b G) : Ret Tryz.prog 18 [.pointer (some ⟨b, 0, none⟩)] w fun u w' => (∃ G2, tellG G2 = tellG G ∧ GRc w' 47 2 w.heap.size [] u G.length (recC G2) ∧ DatM w' G2) ∧ Chg [] w w' := by
 obtain ⟨⟨v, hb, hgc⟩, hda, htot⟩ := hL;obtain ⟨av, cv, rfl, hcapv, hrv, -⟩ := hgc.row;have hGl := totG_len G;have hch : Chg [] w w := Chg.refl _ _;refine zE1 Tryz.func18 rfl ?_;refine Sr fun _ kh1 => za rfl (zz (kh1 (Sr fun _ kh3 => za rfl (zz (kh3 (zc fun _ kh5 => Sr fun _ kh6 => zm rfl ?_))))));refine WL.ev (Ev.nilPtr rfl) rfl ?_;refine zf rfl ?_;refine WL.ev (Ev.load (v := .slice av G.length cv) rfl rfl (hb.at_ rfl)) rfl ?_;refine zn rfl (zm rfl (zz (kh6 ?_)));refine CW.block ?_;refine CW.loop (S := fun g : Nat × Value × List RG => [(3, g.2.1), (9, .slice av G.length cv), (10, .int .i64 (G.length : Int)), (11, .int .i64 (g.1 : Int))]) (Inv := fun g w1 => g.1 ≤ G.length ∧ tellG g.2.2 = tellG (G.take g.1) ∧ GRc w1 47 2 w.heap.size [] g.2.1 g.1 (recC g.2.2) ∧ DatM w1 g.2.2 ∧ Chg [] w w1) (mu := fun g => G.length - g.1) ((0, .slice none 0 0, [])) ?_ ?_ ?_
 ·exact ⟨Nat.zero_le _, rfl, GRc.nil, (fun g hg => by cases hg), hch⟩
 ·exact SLp
 ·rintro ⟨i, vi, G2⟩ wr ⟨hi, htl, hgc2, hda2, hch⟩;dsimp only at hi htl hgc2 hda2;obtain ⟨a3, c3, rfl, hcap3, hr3, -⟩ := hgc2.row;dsimp only;refine Sr fun _ kh8 => ?_;refine WL.ev (Ev.lss rfl rfl) rfl ?_;refine zz (kh8 (zc fun _ kh10 => ?_));refine zy rfl ?_ ?_<;>intro hc1<;>try simp only [qs] at hc1
  ·obtain ⟨⟨nm, data, dv⟩, hg⟩ : ∃ g, G[i]? = some g := ⟨_, List.getElem?_eq_getElem (by omega : i < G.length)⟩
   have hm := List.mem_of_getElem? hg;obtain ⟨q, rfl, -⟩ := hgc.at2 hg;obtain ⟨q2, e2, hcell⟩ := (hgc.keep0 hch).at2 hg;cases e2;obtain ⟨hd1, hB⟩ := hda _ hm;dsimp only at hd1 hB;obtain ⟨ad, cd, rfl, hcapd, hrd⟩ := hd1.row;have hs2 := szG_le hm;unfold szG at hs2;dsimp only at hs2;refine zkk ?_;refine kh10 (zc fun _ kh11 => ?_);refine CW.block ?_;refine Sr fun _ kh12 => ?_;refine WL.ev (Ev.indexAddr rfl rfl (by omega) (by omega)) rfl ?_;refine WL.ev (Ev.loadAgg (cs := [.string nm, .slice ad data.length cd]) rfl rfl rfl hcell) rfl ?_;refine WL.allocB (l := [.string ⟨#[]⟩, .slice none 0 0]) rfl rfl fun b5 wm5 hb5 hcm5 hge5 => ?_;have hgehch5 := Nat.le_trans hch.size hge5;have hch := hch.ta hcm5;have hda2 := hda2.keep0 hcm5;refine zss rfl rfl ao hb5 rfl fun ws1 hb5_ hcs1 => ?_;(try simp only [Sx.splice, qt] at hb5_);have hch := hch.s1 hcs1;have hda2 := hda2.keepBK hb5 hcs1 an;have hb5 := hb5_;refine zz (kh12 ?_);refine CW.regionHT (Value.slice a3 i c3).ownBlock.toList 10 rfl hmix fun kR14 kr14 hS hdr => ?_;have hch := hch.ta hdr;have hb5 := hb5.k0 hdr;have hda2 := hda2.keep0 hdr;have hb5_r := hb5;have hnb5 : b5 ∉ (Value.slice a3 i c3).ownBlock.toList := fun hm => by have := hgc2.lt (Option.mem_toList.1 hm); omega
   have hgc2 := ((hgc2.keep0 hcm5).keepV hcs1 (fun y hy e => hnb5 (by rw [← List.mem_singleton.1 hy]; exact Option.mem_toList.2 e))).keep0 hdr;refine wh 0 rfl hS (fun _ _ => Ev.move rfl) (wh 1 rfl hS (fun _ _ => Ev.fieldAddr rfl) (wh 2 rfl hS (fun _ hw' => Ev.load (v := .string nm) rfl rfl ((hb5_r.keep hw' hnb5).at_ rfl)) (wh 3 rfl hS (fun _ _ => Ev.fieldAddr rfl) (wh 4 rfl hS (fun _ hw' => Ev.load (v := .slice ad data.length cd) rfl rfl ((hb5_r.keep hw' hnb5).at_ rfl)) ?_))));refine WH.oneCall 5 rfl (by kernel_rfl) hasF35 rfl rfl (CloneB_spec ad data cd _ (hrd.keep0 hch) (by omega)) fun v w1 h' => ?_;obtain ⟨hgd, hC⟩ := h';obtain ⟨a20, c20, rfl, hcap20, hr20⟩ := hgd.row;have hch := hch.ta hC;have hda2 := hda2.keep0 hC;have hgc2 := hgc2.keep0 hC;have hS := hS.ta hC;refine ⟨hS, ?_⟩;refine wh 6 rfl hS (fun _ _ => Ev.build (vs := _) (cs := [_, _]) rfl rfl) ?_;refine WH.buildSliceT (m := 1) (cs := [.string nm, .slice a20 data.length c20]) 7 rfl (by kernel_rfl) hS (by decide) (by decide) rfl (by kernel_rfl) rfl fun b22 w22 hn22 hS => ?_;have hb22 := RW.of_heap hn22.at_;have hgc2 := hgc2.keep0 hn22.chg;have hda2 := hda2.keep0 hn22.chg;have hgd := hgd.keep0 hn22.chg;have hch := hch.trans (Chg.any hn22.chg);refine WH.growRc (news := [.string nm, .slice a20 data.length c20]) 8 rfl (by kernel_rfl) hS (by rfl) (by decide) (by intro u hu; simp only [List.mem_cons, List.not_mem_nil, or_false] at hu; rcases hu with rfl | rfl <;> rfl) rfl rfl hgc2 rfl hb22 (by have := hch.size; omega) (by omega) (by omega) rfl fun v23 w23 hg23 hc23 hS => ?_;have hgd := hgd.keepV hc23 (hgc2.sep hgd (by decide));have hda2 := hda2.keepRow hgc2 hc23 (by decide);have hch := hgc2.frame hc23 hch (Nat.le_refl _);have hgc2 := hg23;rw [show recC G2 ++ [Value.string nm, Value.slice a20 data.length c20] = recC (G2 ++ [(nm, data, Value.slice a20 data.length c20)]) from (recC_snoc G2 (nm, data, Value.slice a20 data.length c20)).symm] at hgc2;have hda2 : DatM w23 (G2 ++ [(nm, data, Value.slice a20 data.length c20)]) := fun g hg => by
    rcases List.mem_append.1 hg with hg | hg
    · exact hda2 g hg
    · rw [List.mem_singleton.1 hg]; exact ⟨hgd.mono (Nat.zero_le _) (by simp), hB⟩
   obtain ⟨a23, c23, rfl, hcap23, hr23, -⟩ := hgc2.row;refine wh 9 rfl hS (fun _ _ => Ev.assign rfl) ?_;refine WH.done (by kernel_rfl) (kr14 _ _ _ ?_);refine kh11 ?_;refine zR fun _ kr15 => ?_;(first | refine zi rfl rfl ?_ | refine zo rfl rfl ?_);refine zm rfl ?_;refine WL.nil (kr15 _ _ _ ?_);refine ⟨rfl, (i + 1, .slice a23 (i + 1) c23, G2 ++ [(nm, data, .slice a20 data.length c20)]), ?_, ?_, ?_⟩
   ·exact SLp
   ·exact ⟨by dsimp only; omega, by rw [tellG_snoc, htl, tellG_take hg], hgc2, hda2, hch⟩
   ·show G.length - (i + 1) < G.length - i; omega
  ·have hiX : i = G.length := by omega
   subst hiX;rw [List.take_length] at htl;refine CW.exit ?_;refine kh5 (Sr fun _ kh16 => zm rfl (za rfl (zz (kh16 ?_))));refine zr (zr1 rfl rfl ?_);exact ⟨⟨G2, htl, hgc2, hda2⟩, hch⟩

end

/- Store: the empty log's Names. No condition. -/
section
open Go Sx Wd Fl

end

end Go.Proofs.YtbplehaogncjoaaGreatDoor
/-
  DERIVED: THE SHELF's CONTRACTS AT THIS DUMP, IN PLAIN WORDS (tools/lay-plain.mjs out of 'TmpSortStr.lean', which tools/lay-shelf.mjs wrote): THE SAME DECLARATIONS UNDER THE SAME NAMES: 'import', 'namespace', 'open', 'def', 'theorem' AND NOTHING ELSE: no command of the shelf's: FOR A HAND-IN. Each laying: the table of numbers ('.._ren') and one theorem, a field a fact of the dump's own or the kernel's comparison; each contract: ONE APPLICATION.
-/
namespace Go.Proofs
open Go.Shelf
def Tryz.laysSort_ren : Go.Shelf.Ren := ⟨fun | 190 => 38 | 125 => 63 | 258 => 62 | 128 => 98 | 129 => 99 | 302 => 89 | 303 => 90 | 304 => 91 | 305 => 92 | 306 => 93 | 307 => 94 | 308 => 95 | 309 => 96 | 310 => 97 | 333 => 118 | 329 => 119 | 330 => 120 | 334 => 121 | 335 => 122 | 336 => 123 | 344 => 128 | n => n, fun | 31 => 52 | 9 => 9 | 3 => 3 | 46 => 101 | 0 => 0 | 51 => 100 | 53 => 69 | 4 => 4 | 183 => 171 | 182 => 170 | 131 => 43 | 5 => 5 | 218 => 196 | 222 => 122 | 228 => 202 | 229 => 203 | n => n, fun | n => n⟩
theorem Tryz.laysSort : Go.Proofs.Lays.n190 Tryz.prog Tryz.laysSort_ren := {
  mixed := by kernel_rfl
  f125 := Tryz.func63.trans (congrArg some (by kernel_rfl))
  f128 := Tryz.func98.trans (congrArg some (by kernel_rfl))
  f129 := Tryz.func99.trans (congrArg some (by kernel_rfl))
  f190 := Tryz.func38.trans (congrArg some (by kernel_rfl))
  f258 := Tryz.func62.trans (congrArg some (by kernel_rfl))
  f302 := Tryz.func89.trans (congrArg some (by kernel_rfl))
  f303 := Tryz.func90.trans (congrArg some (by kernel_rfl))
  f304 := Tryz.func91.trans (congrArg some (by kernel_rfl))
  f305 := Tryz.func92.trans (congrArg some (by kernel_rfl))
  f306 := Tryz.func93.trans (congrArg some (by kernel_rfl))
  f307 := Tryz.func94.trans (congrArg some (by kernel_rfl))
  f308 := Tryz.func95.trans (congrArg some (by kernel_rfl))
  f309 := Tryz.func96.trans (congrArg some (by kernel_rfl))
  f310 := Tryz.func97.trans (congrArg some (by kernel_rfl))
  f329 := Tryz.func119.trans (congrArg some (by kernel_rfl))
  f330 := Tryz.func120.trans (congrArg some (by kernel_rfl))
  f333 := Tryz.func118.trans (congrArg some (by kernel_rfl))
  f334 := Tryz.func121.trans (congrArg some (by kernel_rfl))
  f335 := Tryz.func122.trans (congrArg some (by kernel_rfl))
  f336 := Tryz.func123.trans (congrArg some (by kernel_rfl))
  f344 := Tryz.func128.trans (congrArg some (by kernel_rfl))
  t0 := Tryz.underlying0
  a0 := Tryz.isAgg0
  z0 := Tryz.sizeOf0
  v0 := Tryz.zeroValue0
  t3 := Tryz.underlying3
  a3 := Tryz.isAgg3
  z3 := Tryz.sizeOf3
  v3 := Tryz.zeroValue3
  t4 := Tryz.underlying4
  a4 := Tryz.isAgg4
  z4 := Tryz.sizeOf4
  v4 := Tryz.zeroValue4
  t5 := Tryz.underlying5
  a5 := Tryz.isAgg5
  z5 := Tryz.sizeOf5
  v5 := Tryz.zeroValue5
  t9 := Tryz.underlying9
  a9 := Tryz.isAgg9
  z9 := Tryz.sizeOf9
  v9 := Tryz.zeroValue9
  t31 := Tryz.underlying52
  a31 := Tryz.isAgg52
  z31 := Tryz.sizeOf52
  v31 := Tryz.zeroValue52
  t46 := Tryz.underlying101
  a46 := Tryz.isAgg101
  z46 := Tryz.sizeOf101
  v46 := Tryz.zeroValue101
  t51 := Tryz.underlying100
  a51 := Tryz.isAgg100
  z51 := Tryz.sizeOf100
  v51 := Tryz.zeroValue100
  t53 := Tryz.underlying69
  a53 := Tryz.isAgg69
  z53 := Tryz.sizeOf69
  v53 := Tryz.zeroValue69
  t131 := Tryz.underlying43
  a131 := Tryz.isAgg43
  z131 := Tryz.sizeOf43
  v131 := Tryz.zeroValue43
  t182 := Tryz.underlying170
  a182 := Tryz.isAgg170
  z182 := Tryz.sizeOf170
  v182 := Tryz.zeroValue170
  t183 := Tryz.underlying171
  a183 := Tryz.isAgg171
  z183 := Tryz.sizeOf171
  v183 := Tryz.zeroValue171
  t218 := Tryz.underlying196
  a218 := Tryz.isAgg196
  z218 := Tryz.sizeOf196
  v218 := Tryz.zeroValue196
  t222 := Tryz.underlying122
  a222 := Tryz.isAgg122
  z222 := Tryz.sizeOf122
  v222 := Tryz.zeroValue122
  t228 := Tryz.underlying202
  a228 := Tryz.isAgg202
  z228 := Tryz.sizeOf202
  v228 := Tryz.zeroValue202
  t229 := Tryz.underlying203
  a229 := Tryz.isAgg203
  z229 := Tryz.sizeOf203
  v229 := Tryz.zeroValue203 }
def Tryz.laysCompact_ren : Go.Shelf.Ren := ⟨fun | 194 => 39 | n => n, fun | 31 => 52 | 9 => 9 | 3 => 3 | 4 => 4 | 0 => 0 | n => n, fun | n => n⟩
theorem Tryz.laysCompact : Go.Proofs.Lays.n194 Tryz.prog Tryz.laysCompact_ren := {
  mixed := by kernel_rfl
  f194 := Tryz.func39.trans (congrArg some (by kernel_rfl))
  t0 := Tryz.underlying0
  a0 := Tryz.isAgg0
  z0 := Tryz.sizeOf0
  v0 := Tryz.zeroValue0
  t3 := Tryz.underlying3
  a3 := Tryz.isAgg3
  z3 := Tryz.sizeOf3
  v3 := Tryz.zeroValue3
  t4 := Tryz.underlying4
  a4 := Tryz.isAgg4
  z4 := Tryz.sizeOf4
  v4 := Tryz.zeroValue4
  t9 := Tryz.underlying9
  a9 := Tryz.isAgg9
  z9 := Tryz.sizeOf9
  v9 := Tryz.zeroValue9
  t31 := Tryz.underlying52
  a31 := Tryz.isAgg52
  z31 := Tryz.sizeOf52
  v31 := Tryz.zeroValue52 }
end Go.Proofs

namespace Go.Proofs.YtbplehaogncjoaaGreatDoor
/- Strings sorted, and each kept once: the library's two functions by their contracts. No condition. -/
section
open Go Sx Wd Go.Shelf Go.Sort

abbrev leS : List UInt8 → List UInt8 → Bool := fun x y => decide (x ≤ y)
theorem chg_putRow (w : World) (g q : Nat) (d : Array (List UInt8)) : Chg [g] w (putRow encStr (Sort.ahead w q) g 0 d) :=
  ⟨rfl, rfl, rfl, by simp [putRow, mapBlock, Sort.ahead], fun k hk hn => by
    have : g ≠ k := fun e => hn (by rw [e]; simp)
    simp [putRow, mapBlock, Sort.ahead, Array.getElem?_modify, this]⟩
/-- slices.Sort of strings. -/
theorem sortS_spec (v : Value) (m lo : Nat) (ss : List (List UInt8)) (w : World) (hg : GRc w 9 1 lo [] v m (ss.map encStr)) (hm : m < 4611686018427387904) : Ret Tryz.prog 38 [v] w fun u w' => GRc w' 9 1 lo [] v m ((ss.mergeSort leS).map encStr) ∧ Chg v.ownBlock.toList w w' := by
  have hlen : ss.length = m := by have := hg.1.1; simpa using this
  have hsl : (ss.mergeSort leS).length = ss.length := List.length_mergeSort ss
  by_cases hv : v = .slice none 0 0
  · subst hv
    have h0 : ss = [] := by
      rcases hg.1.2 with ⟨_, h⟩ | ⟨_, _, _, h, _⟩
      · exact List.length_eq_zero_iff.1 (by omega)
      · cases h
    subst h0;refine Calls.mono (calls_of_every_depth fun D => AnyS.slices_Sort_string_none_alone Tryz.laysSort D none 0 w) fun e w' ⟨he, hw⟩ => ⟨_, he, ?_⟩;subst hw;exact ⟨by rw [show ([] : List (List UInt8)).mergeSort leS = [] from by simp]; exact hg, Chg.refl _ _⟩
  · obtain ⟨g, cap, rfl, hb, hgl, hn, hcm, hl, hH⟩ := Lib.holds_of_ownsRow hg.1 hv
    subst hlen;refine Calls.mono (calls_of_every_depth fun D => AnyS.slices_Sort_string_alone Tryz.laysSort D g 0 cap ss w hH hgl hm) fun e w' ⟨he, nn, os, hw⟩ => ⟨_, he, ?_⟩;subst hw;rcases hg.1.2 with ⟨h0, _⟩ | ⟨g', cap', cur, e0, hbase, hheap, h1, h2, h3, h4⟩
    · cases h0
    · cases e0
      exact ⟨⟨ownsRow_sorted hsl hbase hheap h1 h2 h3, hg.2⟩, Chg.of_grown (grownBy_sorted _)⟩
/-- slices.Compact of strings. -/
theorem compactS_spec (v : Value) (m lo : Nat) (ss : List (List UInt8)) (w : World) (hg : GRc w 9 1 lo [] v m (ss.map encStr)) (hm : m ≤ 4611686018427387904) : Ret Tryz.prog 39 [v] w fun u w' => GRc w' 9 1 lo [] u (Lib.compact ss).length ((Lib.compact ss).map encStr) ∧ Chg v.ownBlock.toList w w' := by
  have hlen : ss.length = m := by have := hg.1.1; simpa using this
  have hle := Lib.compact_length_le ss
  by_cases hv : v = .slice none 0 0
  · subst hv
    have h0 : ss = [] := by
      rcases hg.1.2 with ⟨_, h⟩ | ⟨_, _, _, h, _⟩
      · exact List.length_eq_zero_iff.1 (by omega)
      · cases h
    subst h0;refine Calls.mono (calls_of_every_depth fun D => AnyS.slices_Compact_string_empty_in Tryz.laysCompact D none 0 w) fun e w' ⟨he, hw⟩ => ⟨_, he, ?_⟩;subst hw;exact ⟨GRc.nil, Chg.refl _ _⟩
  · obtain ⟨g, cap, rfl, hb, hgl, hn, hcm, hl, hH⟩ := Lib.holds_of_ownsRow hg.1 hv
    subst hlen;refine Calls.mono (calls_of_every_depth fun D => AnyS.slices_Compact_string_in Tryz.laysCompact D g 0 cap ss w hH (by omega) hn) fun e w' ⟨he, q, hw⟩ => ⟨_, he, ?_⟩;subst hw;have hc := Lib.ownsRow_putRow (q := q) (k := (Lib.compact ss).length) (ys := Lib.compact ss ++ List.replicate (ss.length - (Lib.compact ss).length) []) hg.1 (by simp; omega) hle;rw [List.take_left] at hc;exact ⟨⟨hc, fun b hb => by
      have := hg.2 b (by simpa [Value.ownBlock] using hb);exact this⟩, chg_putRow _ _ _ _⟩
end

/- Store: Names. No condition. -/
section
open Go Sx Wd Go.Sort Fl

/-- The names of a log's records, as bytes; sorted, each once. -/
def nmS (G : List RG) : List (List UInt8) := G.map fun g => g.1.data.toList
def nmL (G : List RG) : List (List UInt8) := Lib.compact ((nmS G).mergeSort leS)
theorem enc_nm (nm : ByteArray) : encStr nm.data.toList = .string nm := by
  show Value.string ⟨nm.data.toList.toArray⟩ = _
  rw [Array.toArray_toList]
theorem nmS_take {G : List RG} {i : Nat} {g : RG} (h : G[i]? = some g) : (nmS (G.take (i + 1))).map encStr = (nmS (G.take i)).map encStr ++ [Value.string g.1] := by
  rw [List.take_add_one, h]
  unfold nmS
  simp only [Option.toList_some, List.map_append, List.map_cons, List.map_nil] <;> rw [enc_nm]

theorem stNames_spec (b lo : Nat) (G : List RG) (w : World) (hL : LgM lo w b G) : Ret Tryz.prog 22 [.pointer (some ⟨b, 0, none⟩)] w fun u w' => GRc w' 9 1 w.heap.size [] u (nmL G).length ((nmL G).map encStr) ∧ Chg [] w w' := by
 obtain ⟨⟨v0, hb, hgc⟩, hda, htot⟩ := hL;obtain ⟨av, cv, rfl, hcapv, hrv, -⟩ := hgc.row;have hGl := totG_len G;have hch : Chg [] w w := Chg.refl _ _;refine zE1 Tryz.func22 rfl ?_;refine Sr fun _ kh1 => za rfl (zz (kh1 (Sr fun _ kh3 => za rfl (zz (kh3 (zc fun _ kh5 => Sr fun _ kh6 => zm rfl ?_))))));refine WL.ev (Ev.nilPtr rfl) rfl ?_;refine zf rfl ?_;refine WL.ev (Ev.load (v := .slice av G.length cv) rfl rfl (hb.at_ rfl)) rfl ?_;refine zn rfl (zm rfl (zz (kh6 ?_)));refine CW.block ?_;refine CW.loop (S := fun g : Nat × Value => [(3, g.2), (9, .slice av G.length cv), (10, .int .i64 (G.length : Int)), (11, .int .i64 (g.1 : Int))]) (Inv := fun g w1 => g.1 ≤ G.length ∧ GRc w1 9 1 w.heap.size [] g.2 g.1 ((nmS (G.take g.1)).map encStr) ∧ Chg [] w w1) (mu := fun g => G.length - g.1) ((0, .slice none 0 0)) ?_ ?_ ?_
 ·exact ⟨Nat.zero_le _, GRc.nil, hch⟩
 ·exact SLp
 ·rintro ⟨i, vi⟩ wr ⟨hi, hgr, hch⟩;dsimp only at hi hgr;dsimp only;refine Sr fun _ kh8 => ?_;refine WL.ev (Ev.lss rfl rfl) rfl ?_;refine zz (kh8 (zc fun _ kh10 => ?_));refine zy rfl ?_ ?_<;>intro hc1<;>try simp only [qs] at hc1
  ·obtain ⟨⟨nm, data, dv⟩, hg⟩ : ∃ g, G[i]? = some g := ⟨_, List.getElem?_eq_getElem (by omega : i < G.length)⟩
   have hm := List.mem_of_getElem? hg;obtain ⟨q, rfl, -⟩ := hgc.at2 hg;obtain ⟨q2, e2, hcell⟩ := (hgc.keep0 hch).at2 hg;cases e2;obtain ⟨hd1, hB⟩ := hda _ hm;dsimp only at hd1 hB;obtain ⟨ad, cd, rfl, hcapd, hrd⟩ := hd1.row;refine zkk ?_;refine kh10 (zc fun _ kh11 => ?_);refine CW.block ?_;refine Sr fun _ kh12 => ?_;refine WL.ev (Ev.indexAddr rfl rfl (by omega) (by omega)) rfl ?_;refine WL.ev (Ev.loadAgg (cs := [.string nm, .slice ad data.length cd]) rfl rfl rfl hcell) rfl ?_;refine WL.allocB (l := [.string ⟨#[]⟩, .slice none 0 0]) rfl rfl fun b5 wm5 hb5 hcm5 hge5 => ?_;have hgehch5 := Nat.le_trans hch.size hge5;have hch := hch.ta hcm5;have hgr := hgr.keep0 hcm5;refine zss rfl rfl ao hb5 rfl fun ws6 hb5_ hcs6 => ?_;(try simp only [Sx.splice, qt] at hb5_);have hch := hch.s1 hcs6;have hgr := hgr.keepBK hb5 hcs6 an;have hb5 := hb5_;refine zz (kh12 ?_);refine zR fun _ kr14 => ?_;refine zm rfl (zf rfl (zl hb5 rfl rfl ?_));refine WL.buildSlice (m := 1) (cs := [.string nm]) (by decide) (by decide) rfl (by kernel_rfl) rfl fun b18 w18 hn18 => ?_;have hb18 := RW.of_heap hn18.at_;have hgr := hgr.keep0 hn18.chg;have hch := hch.trans (Chg.any hn18.chg);refine WL.growC (news := [.string nm]) (mm := 1) (by rfl) (by decide) (by intro u hu; rw [List.mem_singleton.1 hu]; rfl) rfl rfl hgr rfl hb18 (by have := hch.size; omega) (by omega) (by omega) rfl fun v19 w19 hg19 hc19 => ?_;have hch := hgr.frame hc19 hch (Nat.le_refl _);have hgr := hg19;refine za rfl ?_;refine WL.nil (kr14 _ _ _ (kh11 ?_));refine zR fun _ kr15 => ?_;(first | refine zi rfl rfl ?_ | refine zo rfl rfl ?_);refine zm rfl ?_;refine WL.nil (kr15 _ _ _ ?_);refine ⟨rfl, (i + 1, v19), ?_, ?_, ?_⟩
   ·exact SLp
   ·exact ⟨by dsimp only; omega, by rw [nmS_take hg]; exact hgr, hch⟩
   ·show G.length - (i + 1) < G.length - i; omega
  ·have hiX : i = G.length := by omega
   subst hiX;rw [List.take_length] at hgr;refine CW.exit ?_;refine kh5 (Sr fun _ kh16 => zm rfl ?_);refine WL.call hasF38 rfl rfl (sortS_spec _ _ _ _ _ hgr (by omega)) fun v w1 h' => ?_;obtain ⟨hg22, hc22⟩ := h';have hch := hgr.frame hc22 hch (Nat.le_refl _);have hgr := hg22;refine zz (kh16 (Sr fun _ kh18 => zm rfl ?_));refine WL.call hasF39 rfl rfl (compactS_spec _ _ _ _ _ hgr (by omega)) fun v w2 h' => ?_;obtain ⟨hg24, hc24⟩ := h';have hch := hgr.frame hc24 hch (Nat.le_refl _);refine za rfl (zz (kh18 ?_));refine zr (zr1 rfl rfl ?_);exact ⟨hg24, hch⟩

end

/- Package steelyardlaw22: one. No condition. -/
section
open Go Sx Wd Fl

/-- The shard of some numbers. -/
def oneStep (S : Sh) (x : Nat) : Sh := if 1099511627776 < S.s.al + 1 then S else S.merge (Sh.one x)
def oneL (l : List Nat) : Sh := l.foldl oneStep Sh.zero
theorem oneL_take {l : List Nat} {i : Nat} (h : i < l.length) : oneL (l.take (i + 1)) = oneStep (oneL (l.take i)) (l.getD i 0) := by
  rw [take_step h]; simp [oneL]
theorem one_cnt (x : Nat) : (Sh.one x).cnt := by
  show (countP SP.zero (kindP x)).na + (countP SP.zero (kindP x)).up + (countP SP.zero (kindP x)).dn + (countP SP.zero (kindP x)).mi + (countP SP.zero (kindP x)).pl ≤ (countP SP.zero (kindP x)).al
  simp only [countP, SP.zero]
  repeat (first | omega | split)
theorem one_al (x : Nat) : (Sh.one x).s.al = 1 := rfl
theorem oneAdd {T : TypeId} {S : Sh} {x b : Nat} {w w' : World} {u : Value} (h : (1099511627776 < S.s.al + 1 ∧ u = .int .i64 2 ∧ ShM T w' b S ∧ Chg [b] w w') ∨ (S.s.al + 1 ≤ 1099511627776 ∧ u = .int .i64 0 ∧ ShM T w' b (S.merge (Sh.one x)) ∧ Chg [b] w w')) : ShM T w' b (oneStep S x) ∧ Chg [b] w w' := by
  unfold oneStep
  rcases h with ⟨h1, _, h2, h3⟩ | ⟨h1, _, h2, h3⟩
  · rw [if_pos h1]; exact ⟨h2, h3⟩
  · rw [if_neg (by omega)]; exact ⟨h2, h3⟩
theorem oneStep_ok {S : Sh} {x : Nat} (hx : x < 18446744073709551616) (hS : S.wf) (hc : S.cnt) : (oneStep S x).wf ∧ (oneStep S x).cnt := by
  unfold oneStep
  split
  · exact ⟨hS, hc⟩
  · exact cnt_wf hS (one_wf hx) hc (one_cnt x) (by rw [one_al]; omega)
theorem oneL_ok {l : List Nat} (hw : ∀ x ∈ l, x < 18446744073709551616) : (oneL l).wf ∧ (oneL l).cnt := by
  unfold oneL
  have key : ∀ (l : List Nat) (S : Sh), S.wf → S.cnt → (∀ x ∈ l, x < 18446744073709551616) → (l.foldl oneStep S).wf ∧ (l.foldl oneStep S).cnt := by
    intro l
    induction l with
    | nil => intro S h1 h2 _; exact ⟨h1, h2⟩
    | cons x l ih =>
      intro S h1 h2 hw
      obtain ⟨a, b⟩ := oneStep_ok (hw x (List.mem_cons_self ..)) h1 h2
      exact ih _ a b fun y hy => hw y (List.mem_cons_of_mem _ hy)
  exact key l Sh.zero Sh.wf.zero (Nat.le_refl _) hw

theorem l22one_spec (al : Option Addr) (l : List Nat) (cl : Nat) (w : World) (hrl : RW w al (l.map f64v)) (hWl : ∀ x ∈ l, x < 18446744073709551616) (hll : l.length ≤ 70368744177664) (hg0 : GW w) : Ret Tryz.prog 10 [.slice al l.length cl] w fun u w' => (∃ b, u = .pointer (some ⟨b, 0, none⟩) ∧ ShM 66 w' b (oneL l) ∧ w.heap.size ≤ b) ∧ Chg [] w w' := by
 have hch : Chg [] w w := Chg.refl _ _;refine zE1 Tryz.func10 rfl ?_;refine Sr fun _ kh1 => za rfl (zz (kh1 (Sr fun _ kh3 => ?_)));refine WL.call hasF11 rfl rfl (shNew_spec _) fun v w1 h' => ?_;obtain ⟨⟨bt, rfl, hbt, hget⟩, hC⟩ := h';have hch := hch.ta hC;refine za rfl (zz (kh3 (zc fun _ kh5 => Sr fun _ kh6 => zm rfl ?_)));refine WL.ev (Ev.eqlPtrNil rfl rfl) rfl ?_;refine zz (kh6 ?_);refine CW.condF rfl ?_;refine zkk ?_;refine kh5 (zc fun _ kh8 => Sr fun _ kh9 => za rfl (zz (kh9 ?_)));refine CW.block ?_;refine CW.loop (S := fun i : Nat => [(0, .slice al l.length cl), (3, .pointer (some ⟨bt, 0, none⟩)), (4, .int .i64 (i : Int))]) (Inv := fun i w1 => i ≤ l.length ∧ ShM 66 w1 bt (oneL (l.take i)) ∧ Chg [] w w1) (mu := fun i => l.length - i) (0) ?_ ?_ ?_
 ·exact ⟨Nat.zero_le _, hbt, hch⟩
 ·exact SLp
 ·rintro i wr ⟨hi, hbt, hch⟩;refine zc fun _ kh11 => Sr fun _ kh12 => zm rfl (zm rfl (zn rfl ?_));refine WL.ev (Ev.lss rfl rfl) rfl ?_;refine zz (kh12 ?_);refine zy rfl ?_ ?_<;>intro hc1<;>try simp only [qs] at hc1
  ·have hok := oneL_ok (l := l.take i) (fun x hx => hWl x (List.mem_of_mem_take hx));have hxi : l.getD i 0 < 18446744073709551616 := by rw [List.getD_eq_getElem?_getD, List.getElem?_eq_getElem (by omega)]; exact hWl _ (List.getElem_mem _)
   refine zkk ?_;refine kh11 (zc fun _ kh14 => ?_);refine CW.block ?_;refine zR fun _ kr15 => ?_;refine zm rfl (zm rfl (zm rfl ?_));refine WL.ev (Ev.ixR (i) rfl rfl (hrl.keep0 hch) (by omega) (by omega) (by simp; omega)) rfl ?_;refine WL.ev (Ev.load rfl rfl ((hrl.keep0 hch).f64 (by first | omega | (simp; omega)))) rfl ?_;refine WL.call hasF25 rfl rfl (shAdd_spec bt _ _ _ hbt hok.1 hxi (hg0.keep hch (fun b hb => by cases hb))) fun v w2 h' => ?_;obtain ⟨hbt, hC⟩ := oneAdd h';have hch := hch.step hC (fun y hy => by rw [List.mem_singleton.1 hy]; exact .inr hget);refine WL.nil (kr15 _ _ _ (kh14 ?_));refine zR fun _ kr16 => ?_;refine zm rfl ?_;(first | refine zi rfl rfl ?_ | refine zo rfl rfl ?_);refine za rfl ?_;refine WL.nil (kr16 _ _ _ ?_);refine ⟨rfl, i + 1, ?_, ?_, ?_⟩
   ·exact SLp
   ·exact ⟨by omega, by rw [oneL_take (by omega)]; exact hbt, hch⟩
   ·show l.length - (i + 1) < l.length - i; omega
  ·have hiX : i = l.length := by omega
   subst hiX;rw [List.take_length] at hbt;refine CW.exit ?_;refine kh8 (Sr fun _ kh17 => zm rfl (za rfl (zz (kh17 ?_))));refine zr (zr1 rfl rfl ?_);exact ⟨⟨bt, rfl, hbt, hget⟩, hch⟩

end

/- What a shard of some numbers is: by its list. No condition. -/
section
open Go Sx Wd Fl
set_option exponentiation.threshold 9000

/-- How many numbers of a kind there are. -/
def cntK (j : Nat) (L : List Nat) : Nat := (L.filter fun x => kindP x == j).length
theorem cntK_cons (j : Nat) (L : List Nat) (x : Nat) : cntK j (x :: L) = (if kindP x = j then 1 else 0) + cntK j L := by
  unfold cntK
  by_cases h : kindP x = j
  · simp [h]; omega
  · simp [h]
theorem cntK_pos {j : Nat} {L : List Nat} : 0 < cntK j L ↔ ∃ y ∈ L, kindP y = j := by
  unfold cntK
  rw [List.length_pos_iff_exists_mem]
  constructor
  · rintro ⟨y, hy⟩
    rw [List.mem_filter] at hy
    exact ⟨y, hy.1, by simpa using hy.2⟩
  · rintro ⟨y, hy, hk⟩
    exact ⟨y, List.mem_filter.2 ⟨hy, by simpa using hk⟩⟩
theorem cntK_sum (L : List Nat) : cntK 0 L + cntK 1 L + cntK 2 L + cntK 3 L + cntK 4 L + cntK 5 L = L.length := by
  induction L with
  | nil => rfl
  | cons x L ih =>
    rw [cntK_cons, cntK_cons, cntK_cons, cntK_cons, cntK_cons, cntK_cons, List.length_cons]
    have := kindP_le5 x
    have h : kindP x = 0 ∨ kindP x = 1 ∨ kindP x = 2 ∨ kindP x = 3 ∨ kindP x = 4 ∨ kindP x = 5 := by omega
    rcases h with h | h | h | h | h | h <;> rw [h] <;> simp <;> omega
theorem nan_kind {x : Nat} (hx : x < 18446744073709551616) : isNaN x = true ↔ kindP x = 5 := by
  rw [kindP_bits hx]
  unfold isNaN
  rw [decide_eq_true_eq]
  constructor
  · intro h; rw [if_pos h]
  · intro h
    apply Classical.byContradiction
    intro q
    rw [if_neg q] at h
    split at h
    · omega
    split at h
    · omega
    split at h
    · omega
    split at h <;> omega
theorem fv_kind {x : Nat} (hx : x < 18446744073709551616) : fvI x ≠ 0 ↔ kindP x = 0 := by
  have hb := kindP_bits hx
  by_cases hc : (splitP x).cls ≤ 2
  · rw [ne_eq, fvI_nought hc hx]
    have hk := kind_cls.2 hc
    rw [hb] at hk ⊢
    by_cases a : 9218868437227405312 < x % 9223372036854775808
    · rw [if_pos a] at hk; omega
    rw [if_neg a] at hk ⊢
    by_cases b : x % 9223372036854775808 = 9218868437227405312 ∧ x / 9223372036854775808 = 1
    · rw [if_pos b] at hk; omega
    rw [if_neg b] at hk ⊢
    by_cases c : x % 9223372036854775808 = 9218868437227405312
    · rw [if_pos c] at hk; omega
    rw [if_neg c]
    by_cases d : x % 9223372036854775808 = 0
    · rw [if_pos d]
      split <;> simp [d]
    · rw [if_neg (fun q => d q.1), if_neg d]; simp [d]
  · have hk : ¬ kindP x ≤ 2 := fun q => hc (kind_cls.1 q)
    rw [fvI_zero (fun q => hc (by omega))]
    constructor
    · intro h; exact absurd rfl h
    · intro h; omega
/-- A number's square, in units of two to the power of -2148. -/
def sqI (x : Nat) : Int := if kindP x = 0 then thv (prodP x x) else 0
theorem k0_cls {x : Nat} (h : kindP x = 0) : (splitP x).cls ≤ 2 := kind_cls.1 (by omega)
theorem sq_mul {x : Nat} (hx : x < 18446744073709551616) : sqI x * (2 ^ 2148 : Nat) = fvI x * fvI x := by
  unfold sqI
  by_cases h : kindP x = 0
  · rw [if_pos h]; exact thv_prod (k0_cls h) (k0_cls h)
  · have h0 : fvI x = 0 := Classical.byContradiction fun q => h ((fv_kind hx).1 q)
    rw [if_neg h, h0, Int.zero_mul, Int.zero_mul]
theorem mul_self_nonneg (a : Int) : 0 ≤ a * a := by
  rcases Int.le_total 0 a with h | h
  · exact Int.mul_nonneg h h
  · exact Int.mul_nonneg_of_nonpos_of_nonpos h h
theorem sq_pos {x : Nat} (hx : x < 18446744073709551616) : 0 ≤ sqI x ∧ (kindP x = 0 → 0 < sqI x) := by
  have h := sq_mul hx
  have hn := mul_self_nonneg (fvI x)
  have hp : (0 : Int) < ((2 ^ 2148 : Nat) : Int) := by have := Nat.two_pow_pos 2148; omega
  constructor
  · apply Classical.byContradiction
    intro q
    have := Int.mul_neg_of_neg_of_pos (show sqI x < 0 by omega) hp
    omega
  · intro hk
    apply Classical.byContradiction
    intro q
    have h0 := (fv_kind hx).2 hk
    have hne : fvI x * fvI x ≠ 0 := fun e => by rcases Int.mul_eq_zero.1 e with e | e <;> exact h0 e
    rcases Int.lt_or_eq_of_le (show sqI x ≤ 0 by omega) with e | e
    · have := Int.mul_neg_of_neg_of_pos e hp
      omega
    · rw [e, Int.zero_mul] at h; exact hne h.symm
theorem sq_lt {x : Nat} (hx : x < 18446744073709551616) : sqI x < ((2 ^ 4196 : Nat) : Int) := by
  have hp := Nat.two_pow_pos 4196
  unfold sqI
  by_cases h : kindP x = 0
  · rw [if_pos h]
    have := thv_prod_lt (k0_cls h) (k0_cls h)
    omega
  · rw [if_neg h]; omega
def sqS (L : List Nat) : Int := (L.map sqI).sum
/-- The sums' bounds, by how many numbers are no noughts. -/
theorem sq_bounds {L : List Nat} (hw : ∀ x ∈ L, x < 18446744073709551616) : 0 ≤ sqS L ∧ (0 < cntK 0 L → 0 < sqS L) ∧ (cntK 0 L = 0 → sqS L = 0 ∧ sumI L = 0) ∧ (0 < cntK 0 L → sqS L < (cntK 0 L : Int) * ((2 ^ 4196 : Nat) : Int)) ∧ sumI L * sumI L ≤ (cntK 0 L : Int) * (sqS L * ((2 ^ 2148 : Nat) : Int)) := by
  induction L with
  | nil => exact ⟨Int.le_refl _, fun h => absurd h (by decide), fun _ => ⟨rfl, rfl⟩, fun h => absurd h (by decide), by simp [sumI, sqS, cntK]⟩
  | cons x L ih =>
    obtain ⟨i1, i2, i3, i4, i5⟩ := ih fun y hy => hw y (List.mem_cons_of_mem _ hy)
    have hx := hw x (List.mem_cons_self ..)
    obtain ⟨p1, p2⟩ := sq_pos hx
    have hlt := sq_lt hx
    have hm := sq_mul hx
    have eS : sqS (x :: L) = sqI x + sqS L := by simp [sqS]
    have eA : sumI (x :: L) = fvI x + sumI L := by simp [sumI]
    rw [eS, eA, cntK_cons]
    generalize hM : ((2 ^ 4196 : Nat) : Int) = M at *
    generalize hT : ((2 ^ 2148 : Nat) : Int) = T at *
    generalize hA : sumI L = A at *
    generalize hQ : sqS L = Q at *
    generalize ha : fvI x = a at *
    generalize hq : sqI x = q at *
    by_cases hk : kindP x = 0
    · rw [if_pos hk]
      have hq0 := p2 hk
      refine ⟨by omega, fun _ => by omega, fun h => by omega, fun _ => ?_, ?_⟩
      · push_cast
        rw [Int.add_mul, Int.one_mul]
        by_cases hc : cntK 0 L = 0
        · have := (i3 hc).1
          rw [hc]; simp; omega
        · have := i4 (by omega)
          omega
      · -- (a + A)^2 <= (1 + k)(q + Q)T, with A^2 <= k Q T and q T = a^2
        push_cast
        generalize hkk : ((cntK 0 L : Nat) : Int) = k at *
        have hk0 : 0 ≤ k := by omega
        have hQT : 0 ≤ Q * T := Int.mul_nonneg i1 (by rw [← hT]; omega)
        generalize hz : Q * T = Z at *
        have hqz : (q + Q) * T = a * a + Z := by rw [Int.add_mul, hm, hz]
        rw [hqz]
        by_cases hk1 : k = 0
        · rw [hk1, Int.zero_mul] at i5
          have hA0 : A = 0 := Classical.byContradiction fun hne => by
            have : 0 < A * A := by
              have h1 := mul_self_nonneg A
              rcases Int.lt_or_eq_of_le h1 with h | h
              · exact h
              · rcases Int.mul_eq_zero.1 h.symm with h | h <;> exact absurd h hne
            omega
          rw [hA0, hk1]
          simp only [Int.add_zero, Int.one_mul]
          omega
        · have hs := mul_self_nonneg (k * a - A)
          have e1 : (k * a - A) * (k * a - A) = k * (k * (a * a)) - 2 * (k * (a * A)) + A * A := by
            rw [Int.sub_mul, Int.mul_sub, Int.mul_sub]
            have q1 : k * a * (k * a) = k * (k * (a * a)) := by rw [Int.mul_assoc, Int.mul_left_comm a k a]
            have q2 : A * (k * a) = k * (a * A) := by rw [Int.mul_left_comm, Int.mul_comm A a]
            have q3 : k * a * A = k * (a * A) := Int.mul_assoc ..
            rw [q1, q2, q3]; omega
          rw [e1] at hs
          have e2 : 0 ≤ k * (k * (a * a) - 2 * (a * A) + Z) := by
            have : k * (k * (a * a) - 2 * (a * A) + Z) = k * (k * (a * a)) - 2 * (k * (a * A)) + k * Z := by
              rw [Int.mul_add, Int.mul_sub, Int.mul_left_comm k 2]
            rw [this]; omega
          have e3 : 0 ≤ k * (a * a) - 2 * (a * A) + Z := by
            apply Classical.byContradiction
            intro hneg
            have := Int.mul_neg_of_pos_of_neg (show 0 < k by omega) (show k * (a * a) - 2 * (a * A) + Z < 0 by omega)
            omega
          have e4 : (a + A) * (a + A) = a * a + 2 * (a * A) + A * A := by
            rw [Int.add_mul, Int.mul_add, Int.mul_add, Int.mul_comm A a]; omega
          have e5 : (1 + k) * (a * a + Z) = a * a + Z + (k * (a * a) + k * Z) := by rw [Int.add_mul, Int.one_mul, Int.mul_add]
          rw [e4, e5]
          omega
    · rw [if_neg hk]
      have hf0 : a = 0 := Classical.byContradiction fun h => hk ((fv_kind hx).1 (by rw [ha]; exact h))
      have hq0 : q = 0 := by rw [← hq]; unfold sqI; rw [if_neg hk]
      rw [hf0, hq0, Nat.zero_add, Int.zero_add, Int.zero_add]
      exact ⟨i1, i2, i3, i4, i5⟩
theorem pow4236 : ∀ a, a = 4196 → (2 : Nat) ^ (a + 42) = 4398046511104 * 2 ^ a := by
  intro a _; rw [Nat.pow_add, Nat.mul_comm]
theorem sq_in {L : List Nat} (hw : ∀ x ∈ L, x < 18446744073709551616) (hn : L.length ≤ 1099511627776) : InB (sqS L) := by
  obtain ⟨i1, i2, i3, i4, i5⟩ := sq_bounds hw
  have hk : cntK 0 L ≤ L.length := by have := cntK_sum L; omega
  have hp := pow4236 4196 rfl
  have hb : ((16384 * BB : Nat) : Int) = 4398046511104 * ((2 ^ 4196 : Nat) : Int) := by
    have h1 : (16384 * BB : Nat) = 4398046511104 * 2 ^ 4196 := by rw [BB_pow] <;> exact hp
    rw [h1, Int.natCast_mul] <;> rfl
  have h0 : (0 : Int) < ((2 ^ 4196 : Nat) : Int) := by have := Nat.two_pow_pos 4196; omega
  unfold InB
  rw [hb]
  generalize ((2 ^ 4196 : Nat) : Int) = M at *
  refine ⟨by omega, ?_⟩
  by_cases hc : cntK 0 L = 0
  · rw [(i3 hc).1]; omega
  · have h1 := i4 (by omega)
    have h2 : ((cntK 0 L : Nat) : Int) * M ≤ 1099511627776 * M := Int.mul_le_mul_of_nonneg_right (by omega) (by omega)
    omega
end

/- A shard of some numbers is one that its bytes give back. No condition. -/
section
open Go Sx Wd Fl

theorem cntK_app (j : Nat) (L K : List Nat) : cntK j (L ++ K) = cntK j L + cntK j K := by
  unfold cntK; rw [List.filter_append, List.length_append]
theorem sqS_app (L K : List Nat) : sqS (L ++ K) = sqS L + sqS K := by
  induction L with
  | nil => simp [sqS]
  | cons x L ih =>
    show sqI x + sqS (L ++ K) = sqI x + sqS L + sqS K
    rw [ih]; omega
theorem sumI_app (L K : List Nat) : sumI (L ++ K) = sumI L + sumI K := by
  induction L with
  | nil => simp [sumI]
  | cons x L ih =>
    have e : ∀ M, sumI (x :: M) = fvI x + sumI M := fun M => by simp [sumI]
    rw [List.cons_append, e, e, ih]; omega
/-- A shard of the numbers of a list. -/
structure Mk (S : Sh) (L : List Nat) : Prop where
  w : ∀ x ∈ L, x < 18446744073709551616
  n : L.length ≤ 1099511627776
  s : S.s = ⟨cntK 5 L, cntK 3 L, cntK 4 L, cntK 1 L, cntK 2 L, L.length⟩
  V : S.V = sumD (sumI L)
  Q : S.Q = sumD (sqS L)
  e : cntK 5 L = L.length ∨ (S.lo ∈ L ∧ kindP S.lo ≠ 5 ∧ S.hi ∈ L ∧ kindP S.hi ≠ 5 ∧ ∀ y ∈ L, kindP y ≠ 5 → key S.lo ≤ key y ∧ key y ≤ key S.hi)
theorem cntK_le (j : Nat) (L : List Nat) : cntK j L ≤ L.length := List.length_filter_le ..
theorem Mk.some_iff {S : Sh} {L : List Nat} (h : Mk S L) : S.some ↔ cntK 5 L < L.length := by
  unfold Sh.some; rw [h.s]
theorem Mk.zero : Mk Sh.zero [] := ⟨fun x hx => (by cases hx), (by decide), rfl, rfl, rfl, .inl rfl⟩
theorem Mk.one {x : Nat} (hx : x < 18446744073709551616) : Mk (Sh.one x) [x] := by
  refine ⟨fun y hy => by rw [List.mem_singleton.1 hy]; exact hx, by simp, ?_, ?_, ?_, ?_⟩
  · show countP SP.zero (kindP x) = _
    have e : ∀ j, cntK j [x] = if kindP x = j then 1 else 0 := fun j => by rw [cntK_cons]; rfl
    rw [e, e, e, e, e]
    unfold countP SP.zero
    simp
  · show fdy x = _
    have e : sumI [x] = fvI x := by simp [sumI]
    rw [e]
    unfold fdy
    split
    · rfl
    · rename_i hc; rw [fvI_zero (fun q => hc (by omega))]; rfl
  · show (mulD (fdy x) (fdy x)).getD Dy.zero = _
    have e : sqS [x] = sqI x := by simp [sqS]
    rw [e]
    unfold sqI fdy
    by_cases hk : kindP x = 0
    · have hc := k0_cls hk
      rw [if_pos hc, if_pos hk, mulD_sum hc hc]; rfl
    · have h0 : fvI x = 0 := Classical.byContradiction fun q => hk ((fv_kind hx).1 q)
      rw [if_neg hk, h0]
      have : ∀ d, d = Dy.zero → (mulD d d).getD Dy.zero = sumD 0 := fun d hd => by subst hd; unfold mulD; rw [show Dy.zero.m * Dy.zero.m = 0 from rfl, formD_zero]; split <;> rfl
      refine this _ ?_
      split <;> rfl
  · by_cases hk : kindP x = 5
    · exact .inl (by rw [cntK_cons, if_pos hk]; rfl)
    · exact .inr ⟨List.mem_singleton.2 rfl, hk, List.mem_singleton.2 rfl, hk, fun y hy _ => by rw [List.mem_singleton.1 hy]; exact ⟨Int.le_refl _, Int.le_refl _⟩⟩
theorem all_nan {L : List Nat} (h : cntK 5 L = L.length) : ∀ y ∈ L, kindP y = 5 := by
  intro y hy
  apply Classical.byContradiction
  intro q
  have h1 := cntK_sum L
  have h2 := kindP_le5 y
  have h3 : 0 < cntK (kindP y) L := cntK_pos.2 ⟨y, hy, rfl⟩
  have h4 : kindP y = 0 ∨ kindP y = 1 ∨ kindP y = 2 ∨ kindP y = 3 ∨ kindP y = 4 := by omega
  rcases h4 with e | e | e | e | e <;> rw [e] at h3 <;> omega
theorem Mk.merge {S U : Sh} {L K : List Nat} (h : Mk S L) (g : Mk U K) (hn : L.length + K.length ≤ 1099511627776) : Mk (S.merge U) (L ++ K) := by
  have hw : ∀ x ∈ L ++ K, x < 18446744073709551616 := fun x hx => by
    rcases List.mem_append.1 hx with q | q
    · exact h.w x q
    · exact g.w x q
  have hl : (L ++ K).length ≤ 1099511627776 := by rw [List.length_append]; omega
  refine ⟨hw, hl, ?_, ?_, ?_, ?_⟩
  · show S.s.add U.s = _
    rw [h.s, g.s]
    unfold SP.add
    rw [cntK_app, cntK_app, cntK_app, cntK_app, cntK_app, List.length_append]
  · show (addD S.V U.V).getD Dy.zero = _
    rw [h.V, g.V, addD_sum (sumI_in h.n) (sumI_in g.n) (by rw [← sumI_app]; exact sumI_in hl), sumI_app]; rfl
  · show (addD S.Q U.Q).getD Dy.zero = _
    rw [h.Q, g.Q, addD_sum (sq_in h.w h.n) (sq_in g.w g.n) (by rw [← sqS_app]; exact sq_in hw hl), sqS_app]; rfl
  · have hs := h.some_iff
    have gs := g.some_iff
    have c1 := cntK_le 5 L
    have c2 := cntK_le 5 K
    rcases h.e with he | ⟨a1, a2, a3, a4, a5⟩
    · have nS : ¬ S.some := fun q => by have := hs.1 q; omega
      rcases g.e with ge | ⟨b1, b2, b3, b4, b5⟩
      · exact .inl (by rw [cntK_app, List.length_append]; omega)
      · have hU : U.some := gs.2 (by
          apply Classical.byContradiction
          intro q
          exact b2 (all_nan (by omega) _ b1))
        have e1 : (S.merge U).lo = U.lo := if_pos ⟨hU, .inl nS⟩
        have e2 : (S.merge U).hi = U.hi := if_pos ⟨hU, .inl nS⟩
        rw [e1, e2]
        refine .inr ⟨List.mem_append_right _ b1, b2, List.mem_append_right _ b3, b4, fun y hy hk => ?_⟩
        rcases List.mem_append.1 hy with q | q
        · exact absurd (all_nan he y q) hk
        · exact b5 y q hk
    · have hS : S.some := hs.2 (by
        apply Classical.byContradiction
        intro q
        exact a2 (all_nan (by omega) _ a1))
      rcases g.e with ge | ⟨b1, b2, b3, b4, b5⟩
      · have nU : ¬ U.some := fun q => by have := gs.1 q; omega
        have e1 : (S.merge U).lo = S.lo := if_neg fun q => nU q.1
        have e2 : (S.merge U).hi = S.hi := if_neg fun q => nU q.1
        rw [e1, e2]
        refine .inr ⟨List.mem_append_left _ a1, a2, List.mem_append_left _ a3, a4, fun y hy hk => ?_⟩
        rcases List.mem_append.1 hy with q | q
        · exact a5 y q hk
        · exact absurd (all_nan ge y q) hk
      · have hU : U.some := gs.2 (by
          apply Classical.byContradiction
          intro q
          exact b2 (all_nan (by omega) _ b1))
        have e1 : (S.merge U).lo = if key U.lo < key S.lo then U.lo else S.lo := by
          show (if U.some ∧ (¬ S.some ∨ key U.lo < key S.lo) then U.lo else S.lo) = _
          by_cases q : key U.lo < key S.lo
          · rw [if_pos ⟨hU, .inr q⟩, if_pos q]
          · rw [if_neg (fun z => z.2.elim (fun z => z hS) q), if_neg q]
        have e2 : (S.merge U).hi = if key S.hi < key U.hi then U.hi else S.hi := by
          show (if U.some ∧ (¬ S.some ∨ key S.hi < key U.hi) then U.hi else S.hi) = _
          by_cases q : key S.hi < key U.hi
          · rw [if_pos ⟨hU, .inr q⟩, if_pos q]
          · rw [if_neg (fun z => z.2.elim (fun z => z hS) q), if_neg q]
        rw [e1, e2]
        refine .inr ⟨?_, ?_, ?_, ?_, fun y hy hk => ?_⟩
        · split
          · exact List.mem_append_right _ b1
          · exact List.mem_append_left _ a1
        · split
          · exact b2
          · exact a2
        · split
          · exact List.mem_append_right _ b3
          · exact List.mem_append_left _ a3
        · split
          · exact b4
          · exact a4
        · rcases List.mem_append.1 hy with q | q
          · have := a5 y q hk
            constructor <;> split <;> omega
          · have := b5 y q hk
            constructor <;> split <;> omega
/-- Where all are no numbers, the ends are noughts. -/
def Sh.noE (S : Sh) : Prop := ¬ S.some → S.lo = 0 ∧ S.hi = 0
theorem Mk.noE {S U : Sh} {L K : List Nat} (h : Mk S L) (g : Mk U K) (hS : S.noE) : (S.merge U).noE := by
  intro q
  have c1 := cntK_le 5 L
  have c2 := cntK_le 5 K
  have q2 : ¬ (S.s.na + U.s.na < S.s.al + U.s.al) := q
  rw [h.s, g.s] at q2
  dsimp only at q2
  have nS : ¬ S.some := fun z => by have := h.some_iff.1 z; omega
  have nU : ¬ U.some := fun z => by have := g.some_iff.1 z; omega
  have e1 : (S.merge U).lo = S.lo := if_neg fun z => nU z.1
  have e2 : (S.merge U).hi = S.hi := if_neg fun z => nU z.1
  rw [e1, e2]; exact hS nS
end

/- A shard of some numbers: its bytes give it back. No condition. -/
section
open Go Sx Wd Fl
set_option exponentiation.threshold 9000

theorem kd {x : Nat} (hx : x < 18446744073709551616) : (kindP x = 5 ↔ 9218868437227405312 < x % 9223372036854775808) ∧ (kindP x = 4 ↔ x = 18442240474082181120) ∧ (kindP x = 3 ↔ x = 9218868437227405312) ∧ (kindP x = 1 ↔ x = 9223372036854775808) ∧ (kindP x = 2 ↔ x = 0) := by
  rw [kindP_bits hx]
  refine ⟨?_, ?_, ?_, ?_, ?_⟩ <;> (repeat' split) <;> constructor <;> intro h <;> omega
theorem key5 {x : Nat} (hx : x < 18446744073709551616) (h : kindP x ≠ 5) : isNaN x = false ∧ x % 9223372036854775808 ≤ 9218868437227405312 ∧ key x = if 9223372036854775808 ≤ x then -1 - ((x : Int) - 9223372036854775808) else x := by
  have hn : isNaN x = false := by
    cases q : isNaN x with
    | false => rfl
    | true => exact absurd ((nan_kind hx).1 q) h
  refine ⟨hn, ?_, ?_⟩
  · have := (kd hx).1
    omega
  · unfold key; rw [hn]; simp
theorem mulD_comm (x y : Dy) : mulD x y = mulD y x := by
  unfold mulD
  rw [Nat.mul_comm x.m y.m, Int.add_comm x.e y.e]
  have : (x.neg != y.neg) = (y.neg != x.neg) := by cases x.neg <;> cases y.neg <;> rfl
  rw [this]
theorem wlenB {n k : Nat} (h : ∀ c, c = 32 * k → n < 2 ^ c) : (wd n).length ≤ k := wd_length_le.2 (h _ rfl)
/-- Two odd numbers' product is in its form. -/
theorem mulD_odd {x y : Dy} (hx : x.m % 2 = 1) (hy : y.m % 2 = 1) (h1 : x.m < 2 ^ 4300) (h2 : y.m < 2 ^ 4300) (h3 : -100000 ≤ x.e ∧ x.e ≤ 100000) (h4 : -100000 ≤ y.e ∧ y.e ≤ 100000) : mulD x y = some ⟨x.neg != y.neg, x.m * y.m, x.e + y.e⟩ := by
  have ho : x.m * y.m % 2 = 1 := by rw [Nat.mul_mod, hx, hy]
  have h0 : x.m * y.m ≠ 0 := fun e => by rw [e] at ho; cases ho
  have ht := tz_odd ho
  have hlen : (wd (x.m * y.m)).length ≤ 8192 := wlenB fun c hc => by
    have a : x.m * y.m < 2 ^ 4300 * 2 ^ 4300 := Nat.mul_lt_mul'' h1 h2
    rw [← Nat.pow_add] at a
    exact Nat.lt_of_lt_of_le a (Nat.pow_le_pow_right (by omega) (by omega))
  unfold mulD
  rw [if_neg (by omega), formD_some h0 (by rw [ht]; rw [Nat.pow_zero, Nat.div_one]; omega), ht, Nat.pow_zero, Nat.div_one]
  simp
theorem sgn_le0 {a b : Nat} (h : a ≤ b) : sgn a b ≤ 0 := by
  unfold sgn
  repeat' split
  all_goals omega
theorem sumD_in {S : Int} (h : InB S) (h0 : S ≠ 0) : ∃ a : Nat, S.natAbs = (sumD S).m * 2 ^ a ∧ (sumD S).e = -2148 + (a : Int) ∧ (sumD S).neg = decide (S < 0) ∧ (sumD S).m % 2 = 1 ∧ (sumD S).m < 2 ^ 4238 ∧ a < 4238 := by
  obtain ⟨a, h1, h2, h3⟩ := sumD_up h h0
  have hok := rsumD_ok h
  have hm : (sumD S).m ≠ 0 := fun e => h0 ((rsumD_m0 h).1 e)
  have hl := h.lt
  have hp := Nat.two_pow_pos a
  have hle : (sumD S).m ≤ S.natAbs := by rw [h1]; exact Nat.le_mul_of_pos_right _ hp
  refine ⟨a, h1, h2, h3, hok.odd hm, Nat.lt_of_le_of_lt hle hl, ?_⟩
  have h5 : 2 ^ a ≤ S.natAbs := by rw [h1]; exact Nat.le_mul_of_pos_left _ (by omega)
  exact (Nat.pow_lt_pow_iff_right (by omega)).1 (Nat.lt_of_le_of_lt h5 hl)
theorem Mk.fin {S : Sh} {L : List Nat} (h : Mk S L) : S.fin = (cntK 0 L : Int) + cntK 1 L + cntK 2 L ∧ S.pln = cntK 0 L := by
  have hc := cntK_sum L
  unfold Sh.pln Sh.fin
  rw [h.s]
  dsimp only
  omega
theorem Mk.wf {S : Sh} {L : List Nat} (h : Mk S L) (hn : S.noE) : S.wf := by
  have c0 := cntK_sum L
  have hl := h.n
  refine ⟨?_, ?_, ?_, ?_, ?_⟩
  · rw [h.s]; refine ⟨?_, ?_, ?_, ?_, ?_, ?_⟩ <;> dsimp only <;> omega
  · rw [h.V]; exact rsumD_ok (sumI_in h.n)
  · rw [h.Q]; exact rsumD_ok (sq_in h.w h.n)
  · rcases h.e with q | q
    · rw [(hn (fun z => by have := h.some_iff.1 z; omega)).1]; omega
    · exact h.w _ q.1
  · rcases h.e with q | q
    · rw [(hn (fun z => by have := h.some_iff.1 z; omega)).2]; omega
    · exact h.w _ q.2.2.1
theorem ex_of {S : Int} (h : InB S) : (-4096 ≤ (sumD S).e ∧ (sumD S).e ≤ 61439) ∧ (wd (sumD S).m).length ≤ 160 := by
  by_cases h0 : S = 0
  · subst h0
    rw [sumD_zero]
    exact ⟨by decide, by show (wd 0).length ≤ 160; rw [wd_zero]; decide⟩
  · obtain ⟨a, h1, h2, h3, h4, h5, h6⟩ := sumD_in h h0
    refine ⟨by omega, wd_length_le.2 (Nat.lt_of_lt_of_le h5 (Nat.pow_le_pow_right (by omega) (by omega)))⟩
theorem Mk.ex {S : Sh} {L : List Nat} (h : Mk S L) : S.ex := by
  have h1 := ex_of (sumI_in h.n)
  have h2 := ex_of (sq_in h.w h.n)
  rw [← h.V] at h1
  rw [← h.Q] at h2
  exact ⟨h1.1, h2.1, h1.2, h2.2⟩
/-- The least of some numbers, told by its kind. -/
theorem lo_end {lo n c0 c1 c2 c3 c4 c5 : Nat} {hi : Int} (lw : lo < 18446744073709551616) (l2 : lo % 9223372036854775808 ≤ 9218868437227405312) (l3 : key lo = if 9223372036854775808 ≤ lo then -1 - ((lo : Int) - 9223372036854775808) else lo)
    (lk : (kindP lo = 5 ↔ 9218868437227405312 < lo % 9223372036854775808) ∧ (kindP lo = 4 ↔ lo = 18442240474082181120) ∧ (kindP lo = 3 ↔ lo = 9218868437227405312) ∧ (kindP lo = 1 ↔ lo = 9223372036854775808) ∧ (kindP lo = 2 ↔ lo = 0)) (l5 : kindP lo ≤ 5) (a2 : kindP lo ≠ 5)
    (k0 : kindP lo = 0 → 0 < c0) (k1 : kindP lo = 1 → 0 < c1) (k2 : kindP lo = 2 → 0 < c2) (k3 : kindP lo = 3 → 0 < c3) (k4 : kindP lo = 4 → 0 < c4) (hc : c0 + c1 + c2 + c3 + c4 + c5 = n)
    (g1 : 0 < c1 → ∃ y, kindP y = 1 ∧ y < 18446744073709551616 ∧ y % 9223372036854775808 ≤ 9218868437227405312 ∧ key lo ≤ key y ∧ key y ≤ hi ∧ key y = (if 9223372036854775808 ≤ y then -1 - ((y : Int) - 9223372036854775808) else y)) (g4 : 0 < c4 → ∃ y, kindP y = 4 ∧ y < 18446744073709551616 ∧ y % 9223372036854775808 ≤ 9218868437227405312 ∧ key lo ≤ key y ∧ key y ≤ hi ∧ key y = (if 9223372036854775808 ≤ y then -1 - ((y : Int) - 9223372036854775808) else y))
    (fy : 0 < (c0 : Int) + c1 + c2 → ∃ y, y < 18446744073709551616 ∧ y % 9223372036854775808 < 9218868437227405312 ∧ key lo ≤ key y ∧ key y ≤ hi ∧ key y = (if 9223372036854775808 ≤ y then -1 - ((y : Int) - 9223372036854775808) else y)) :
    if 0 < c4 then isInfP lo (-1) else if (c0 : Int) + c1 + c2 = 0 then 0 < c3 ∧ isInfP lo (- -1) else if isInfP lo 0 then False else if (0 : Int) < c0 then True else lo % 9223372036854775808 = 0 ∧ (9223372036854775808 ≤ lo ↔ ((-1 : Int) < 0 ↔ 0 < c1)) := by
  rw [l3] at g1 g4 fy
  generalize kindP lo = kl at *
  clear l3
  by_cases q4 : 0 < c4
  · rw [if_pos q4]
    obtain ⟨y, y1, y2, y3, y4, y5, y6⟩ := g4 q4
    have yk := (kd y2).2.1.1 y1
    unfold isInfP
    rw [if_neg (by omega), if_pos (by omega)]
    rw [y6, yk] at y4
    simp at y4
    split at y4 <;> omega
  · rw [if_neg q4]
    by_cases qf : (c0 : Int) + c1 + c2 = 0
    · rw [if_pos qf]
      have l3' : kl = 3 := by omega
      refine ⟨k3 l3', ?_⟩
      unfold isInfP
      rw [if_neg (by omega), if_neg (by omega)]
      omega
    · rw [if_neg qf]
      obtain ⟨y, y2, y3, y4, y5, y6⟩ := fy (by omega)
      have ninf : ¬ lo % 9223372036854775808 = 9218868437227405312 := by
        intro q
        rw [y6] at y4
        split at y4 <;> split at y4 <;> omega
      have ninf' : ¬ isInfP lo 0 := by unfold isInfP; rw [if_pos rfl]; exact ninf
      rw [if_neg ninf']
      by_cases qp : (0 : Int) < c0
      · rw [if_pos qp]; trivial
      · rw [if_neg qp]
        by_cases q1 : 0 < c1
        · obtain ⟨z, z1, z2, z3, z4, z5, z6⟩ := g1 q1
          have zk := (kd z2).2.2.2.1.1 z1
          rw [z6, zk] at z4
          simp at z4
          have hl : 9223372036854775808 ≤ lo := by
            split at z4 <;> omega
          refine ⟨by omega, ?_⟩
          simp [q1, hl]
        · have lo0 : lo = 0 := by omega
          rw [lo0]
          simp [q1]
/-- The greatest of some numbers, told by its kind. -/
theorem hi_end {hi n c0 c1 c2 c3 c4 c5 : Nat} {lo : Int} (lw : hi < 18446744073709551616) (l2 : hi % 9223372036854775808 ≤ 9218868437227405312) (l3 : key hi = if 9223372036854775808 ≤ hi then -1 - ((hi : Int) - 9223372036854775808) else hi)
    (lk : (kindP hi = 5 ↔ 9218868437227405312 < hi % 9223372036854775808) ∧ (kindP hi = 4 ↔ hi = 18442240474082181120) ∧ (kindP hi = 3 ↔ hi = 9218868437227405312) ∧ (kindP hi = 1 ↔ hi = 9223372036854775808) ∧ (kindP hi = 2 ↔ hi = 0)) (l5 : kindP hi ≤ 5) (a2 : kindP hi ≠ 5)
    (k0 : kindP hi = 0 → 0 < c0) (k1 : kindP hi = 1 → 0 < c1) (k2 : kindP hi = 2 → 0 < c2) (k3 : kindP hi = 3 → 0 < c3) (k4 : kindP hi = 4 → 0 < c4) (hc : c0 + c1 + c2 + c3 + c4 + c5 = n)
    (g2 : 0 < c2 → ∃ y, kindP y = 2 ∧ y < 18446744073709551616 ∧ y % 9223372036854775808 ≤ 9218868437227405312 ∧ lo ≤ key y ∧ key y ≤ key hi ∧ key y = (if 9223372036854775808 ≤ y then -1 - ((y : Int) - 9223372036854775808) else y)) (g3 : 0 < c3 → ∃ y, kindP y = 3 ∧ y < 18446744073709551616 ∧ y % 9223372036854775808 ≤ 9218868437227405312 ∧ lo ≤ key y ∧ key y ≤ key hi ∧ key y = (if 9223372036854775808 ≤ y then -1 - ((y : Int) - 9223372036854775808) else y))
    (fy : 0 < (c0 : Int) + c1 + c2 → ∃ y, y < 18446744073709551616 ∧ y % 9223372036854775808 < 9218868437227405312 ∧ lo ≤ key y ∧ key y ≤ key hi ∧ key y = (if 9223372036854775808 ≤ y then -1 - ((y : Int) - 9223372036854775808) else y)) :
    if 0 < c3 then isInfP hi 1 else if (c0 : Int) + c1 + c2 = 0 then 0 < c4 ∧ isInfP hi (-1) else if isInfP hi 0 then False else if (0 : Int) < c0 then True else hi % 9223372036854775808 = 0 ∧ (9223372036854775808 ≤ hi ↔ ((1 : Int) < 0 ↔ 0 < c2)) := by
  rw [l3] at g2 g3 fy
  generalize kindP hi = kl at *
  clear l3
  by_cases q4 : 0 < c3
  · rw [if_pos q4]
    obtain ⟨y, y1, y2, y3, y4, y5, y6⟩ := g3 q4
    have yk := (kd y2).2.2.1.1 y1
    unfold isInfP
    rw [if_neg (by omega), if_neg (by omega)]
    rw [y6, yk] at y5
    simp at y5
    split at y5 <;> omega
  · rw [if_neg q4]
    by_cases qf : (c0 : Int) + c1 + c2 = 0
    · rw [if_pos qf]
      have l3' : kl = 4 := by omega
      refine ⟨k4 l3', ?_⟩
      unfold isInfP
      rw [if_neg (by omega), if_pos (by omega)]
      omega
    · rw [if_neg qf]
      obtain ⟨y, y2, y3, y4, y5, y6⟩ := fy (by omega)
      have ninf : ¬ hi % 9223372036854775808 = 9218868437227405312 := by
        intro q
        rw [y6] at y5
        split at y5 <;> split at y5 <;> omega
      have ninf' : ¬ isInfP hi 0 := by unfold isInfP; rw [if_pos rfl]; exact ninf
      rw [if_neg ninf']
      by_cases qp : (0 : Int) < c0
      · rw [if_pos qp]; trivial
      · rw [if_neg qp]
        by_cases q1 : 0 < c2
        · obtain ⟨z, z1, z2, z3, z4, z5, z6⟩ := g2 q1
          have zk := (kd z2).2.2.2.2.1 z1
          rw [z6, zk] at z5
          simp at z5
          have hl : ¬ 9223372036854775808 ≤ hi := by
            split at z5 <;> omega
          refine ⟨by omega, ?_⟩
          simp [q1, hl]
        · have lo0 : hi = 9223372036854775808 := by omega
          rw [lo0]
          simp [q1]
theorem Mk.ends {S : Sh} {L : List Nat} (h : Mk S L) (hs : S.some) : endsP S := by
  have hc := cntK_sum L
  have hsm := h.some_iff.1 hs
  obtain ⟨f1, f2⟩ := h.fin
  rcases h.e with he | ⟨a1, a2, a3, a4, a5⟩
  · omega
  obtain ⟨l1, l2, l3⟩ := key5 (h.w _ a1) a2
  obtain ⟨u1, u2, u3⟩ := key5 (h.w _ a3) a4
  have lk := kd (h.w _ a1)
  have uk := kd (h.w _ a3)
  have lw := h.w _ a1
  have uw := h.w _ a3
  have lu := a5 _ a3 a4
  have hex : ∀ j, 0 < cntK j L → ∃ y ∈ L, kindP y = j := fun j => cntK_pos.1
  have hin : ∀ y ∈ L, 0 < cntK (kindP y) L := fun y hy => cntK_pos.2 ⟨y, hy, rfl⟩
  have il := hin _ a1
  have iu := hin _ a3
  have l5 := kindP_le5 S.lo
  have u5 := kindP_le5 S.hi
  have of_kind : ∀ j, j ≠ 5 → 0 < cntK j L → ∃ y, kindP y = j ∧ y < 18446744073709551616 ∧ y % 9223372036854775808 ≤ 9218868437227405312 ∧ key S.lo ≤ key y ∧ key y ≤ key S.hi ∧ key y = (if 9223372036854775808 ≤ y then -1 - ((y : Int) - 9223372036854775808) else y) := fun j hj hp => by
    obtain ⟨y, hy, hk⟩ := hex j hp
    have hk5 : kindP y ≠ 5 := by rw [hk]; exact hj
    obtain ⟨b1, b2, b3⟩ := key5 (h.w _ hy) hk5
    exact ⟨y, hk, h.w _ hy, b2, (a5 y hy hk5).1, (a5 y hy hk5).2, b3⟩
  have fin_y : 0 < S.fin → ∃ y, y < 18446744073709551616 ∧ y % 9223372036854775808 < 9218868437227405312 ∧ key S.lo ≤ key y ∧ key y ≤ key S.hi ∧ key y = (if 9223372036854775808 ≤ y then -1 - ((y : Int) - 9223372036854775808) else y) := fun hf => by
    have : ∃ j, j ≤ 2 ∧ 0 < cntK j L := by
      by_cases q0 : 0 < cntK 0 L
      · exact ⟨0, by omega, q0⟩
      by_cases q1 : 0 < cntK 1 L
      · exact ⟨1, by omega, q1⟩
      · exact ⟨2, by omega, by omega⟩
    obtain ⟨j, hj, hp⟩ := this
    obtain ⟨y, y1, y2, y3, y4, y5, y6⟩ := of_kind j (by omega) hp
    have yk := kd y2
    exact ⟨y, y2, by omega, y4, y5, y6⟩
  have g1 := of_kind 1 (by omega)
  have g2 := of_kind 2 (by omega)
  have g3 := of_kind 3 (by omega)
  have g4 := of_kind 4 (by omega)
  have lk' : ∀ j, kindP S.lo = j → 0 < cntK j L := fun j e => by rw [← e]; exact il
  have uk' : ∀ j, kindP S.hi = j → 0 < cntK j L := fun j e => by rw [← e]; exact iu
  have lk0 := lk' 0
  have lk1 := lk' 1
  have lk2 := lk' 2
  have lk3 := lk' 3
  have lk4 := lk' 4
  have uk0 := uk' 0
  have uk1 := uk' 1
  have uk2 := uk' 2
  have uk3 := uk' 3
  have uk4 := uk' 4
  clear lk' uk' il iu of_kind hin hex
  refine ⟨?_, ?_, ?_⟩
  · rw [l1, u1]
    simp
    omega
  · unfold endP
    rw [f1, f2, h.s]
    dsimp only
    rw [f1] at fin_y
    exact lo_end lw l2 l3 lk l5 a2 lk0 lk1 lk2 lk3 lk4 hc g1 g4 fin_y
  · unfold endP
    rw [f1, f2, h.s]
    dsimp only
    rw [f1] at fin_y
    exact hi_end uw u2 u3 uk u5 a4 uk0 uk1 uk2 uk3 uk4 hc g2 g3 fin_y
end

/- A shard of some numbers: its sums may be. No condition. -/
section
open Go Sx Wd Fl
set_option exponentiation.threshold 9000

theorem sumI_dvd {L : List Nat} (hw : ∀ x ∈ L, x < 18446744073709551616) : ∀ a, a = 1074 → ∃ z : Int, sumI L = z * ((2 ^ a : Nat) : Int) := by
  intro a ha
  induction L with
  | nil => exact ⟨0, by simp [sumI]⟩
  | cons x L ih =>
    obtain ⟨z, hz⟩ := ih fun y hy => hw y (List.mem_cons_of_mem _ hy)
    have hx := hw x (List.mem_cons_self ..)
    have e : sumI (x :: L) = fvI x + sumI L := by simp [sumI]
    obtain ⟨q, hq⟩ : ∃ q : Int, fvI x = q * ((2 ^ a : Nat) : Int) := by
      by_cases hc : (splitP x).cls ≤ 2
      · rw [fvI_nz hc hx, ha]
        split
        · exact ⟨-(nz (x % 9223372036854775808) : Int), by rw [Int.natCast_mul, Int.neg_mul]⟩
        · exact ⟨(nz (x % 9223372036854775808) : Int), by rw [Int.natCast_mul]⟩
      · exact ⟨0, by rw [fvI_zero (fun q => hc (by omega)), Int.zero_mul]⟩
    exact ⟨q + z, by rw [e, hz, hq, Int.add_mul]⟩
theorem odd_dvd {m a b : Nat} {z : Nat} (h : m * 2 ^ a = z * 2 ^ b) (hm : m % 2 = 1) (hz : z ≠ 0) : b ≤ a := by
  apply Classical.byContradiction
  intro q
  have e : 2 ^ b = 2 ^ (b - a) * 2 ^ a := by rw [← Nat.pow_add]; congr 1; omega
  rw [e, ← Nat.mul_assoc] at h
  have h1 := Nat.eq_of_mul_eq_mul_right (Nat.two_pow_pos a) h
  rw [h1, show b - a = (b - a - 1) + 1 by omega, Nat.pow_succ, ← Nat.mul_assoc, Nat.mul_mod_left] at hm
  cases hm
theorem sumD_low {S : Int} (h : InB S) (h0 : S ≠ 0) (hd : ∀ a, a = 1074 → ∃ z : Int, S = z * ((2 ^ a : Nat) : Int)) : -1074 ≤ (sumD S).e := by
  obtain ⟨a, h1, h2, h3, h4, h5, h6⟩ := sumD_in h h0
  obtain ⟨z, hz⟩ := hd 1074 rfl
  have hz' : S.natAbs = z.natAbs * 2 ^ 1074 := by rw [hz, Int.natAbs_mul, Int.natAbs_natCast]
  have := odd_dvd (h1.symm.trans hz') h4 (by
    intro e
    have : z = 0 := by omega
    rw [this, Int.zero_mul] at hz
    exact h0 hz)
  omega
theorem cmpY_sum {S T : Int} (hS : InB S) (hT : InB T) : cmpY (sumD S) (sumD T) = if S < T then -1 else if T < S then 1 else 0 := cmpD_sum hS hT
theorem topD_sum : ∀ a, a = 4196 → topD = sumD ((2 ^ a : Nat) : Int) := by
  intro a ha
  have hp : (0 : Int) < ((2 ^ a : Nat) : Int) := by have := Nat.two_pow_pos a; omega
  have hin : InB ((2 ^ a : Nat) : Int) := by
    subst ha
    have h : 2 ^ 4196 < 16384 * BB := by rw [BB_pow]; exact Nat.pow_lt_pow_right (by decide) (by decide)
    unfold InB
    omega
  rw [sumD_val hin (by omega), Int.natAbs_natCast]
  have ht : tz (2 ^ a) = a := by have := tz_mul 1 a rfl; rwa [Nat.one_mul] at this
  rw [ht, Nat.div_self (Nat.two_pow_pos a), decide_eq_false (by omega)]
  subst ha
  rfl
theorem cmpV_le {a b A B c : Nat} {e f : Int} (he : e = (A : Int) - c) (hf : f = (B : Int) - c) (h : a * 2 ^ A ≤ b * 2 ^ B) : cmpV a e b f ≤ 0 := by
  unfold cmpV
  apply sgn_le0
  have hm : min e f + c = ((min A B : Nat) : Int) := by omega
  have e1 : (e - min e f).toNat = A - min A B := by omega
  have e2 : (f - min e f).toNat = B - min A B := by omega
  rw [e1, e2]
  have hp := Nat.two_pow_pos (min A B)
  refine Nat.le_of_mul_le_mul_right (c := 2 ^ min A B) ?_ hp
  rw [Nat.mul_assoc, Nat.mul_assoc, ← Nat.pow_add, ← Nat.pow_add, show A - min A B + min A B = A by omega, show B - min A B + min A B = B by omega]
  exact h
theorem sh2 (km qm t b c : Nat) : km * 2 ^ t * (qm * 2 ^ b * 2 ^ c) = km * qm * 2 ^ (t + b + c) := by rw [Nat.pow_add, Nat.pow_add]; ac_rfl
theorem Mk.sums {S : Sh} {L : List Nat} (h : Mk S L) : sumsP S := by
  obtain ⟨f1, f2⟩ := h.fin
  obtain ⟨i1, i2, i3, i4, i5⟩ := sq_bounds h.w
  have hV := sumI_in h.n
  have hV' : InB (sumI L) := hV
  have hQ := sq_in h.w h.n
  have hk : cntK 0 L ≤ L.length := cntK_le 0 L
  have hn := h.n
  unfold sumsP
  rw [f2, h.V, h.Q]
  by_cases h0 : ((cntK 0 L : Nat) : Int) = 0
  · rw [if_pos h0]
    obtain ⟨e1, e2⟩ := i3 (by omega)
    rw [e1, e2]
    exact ⟨rfl, rfl⟩
  · rw [if_neg h0]
    have hk0 : 0 < cntK 0 L := by omega
    have q0 := i2 hk0
    obtain ⟨b, b1, b2, b3, b4, b5, b6⟩ := sumD_in hQ (by omega)
    have hqneg : (sumD (sqS L)).neg = false := by rw [b3]; exact decide_eq_false (by omega)
    have hsgQ : sgD (sumD (sqS L)).neg (sumD (sqS L)).m = 1 := by
      unfold sgD
      rw [if_neg (fun e => by rw [e] at b4; cases b4), hqneg]; rfl
    refine ⟨?_, ?_, ?_⟩
    · rw [hsgQ]
      rintro (q | q | ⟨q1, q2⟩)
      · omega
      · omega
      · have hne : sumI L ≠ 0 := fun e => q1 (by rw [e]; rfl)
        have := sumD_low hV' hne (sumI_dvd h.w)
        omega
    · have hp := pow4236 4196 rfl
      have hb : ((16384 * BB : Nat) : Int) = 4398046511104 * ((2 ^ 4196 : Nat) : Int) := by
        have h1 : (16384 * BB : Nat) = 4398046511104 * 2 ^ 4196 := by rw [BB_pow] <;> exact hp
        rw [h1, Int.natCast_mul] <;> rfl
      have ht := topD_sum 4196 rfl
      have hlt := i4 hk0
      have hM : (0 : Int) < ((2 ^ 4196 : Nat) : Int) := by have := Nat.two_pow_pos 4196; omega
      generalize ((2 ^ 4196 : Nat) : Int) = M at *
      have h2 : M * ((cntK 0 L : Nat) : Int) ≤ M * 1099511627776 := Int.mul_le_mul_of_nonneg_left (by omega) (by omega)
      have h3 : 0 ≤ M * ((cntK 0 L : Nat) : Int) := Int.mul_nonneg (by omega) (by omega)
      have hMin : InB M := by unfold InB; rw [hb]; omega
      have hPin : InB (M * ((cntK 0 L : Nat) : Int)) := by unfold InB; rw [hb]; omega
      rw [ht, mulD_comm, mulD_int hMin (by omega) (by omega) hPin, Option.getD_some, cmpY_sum hQ hPin, if_pos (by rw [Int.mul_comm]; exact hlt)]
      decide
    · obtain ⟨t, t1, t2, t3⟩ := intD_form (n := cntK 0 L) (by omega) (by omega)
      have hok := intD_ok (n := ((cntK 0 L : Nat) : Int)) (by omega)
      have hkm : (intD ((cntK 0 L : Nat) : Int)).m ≠ 0 := fun e => by rw [e, Nat.zero_mul] at t1; omega
      have hko := hok.odd hkm
      have hpt := Nat.two_pow_pos t
      have hkle : (intD ((cntK 0 L : Nat) : Int)).m ≤ cntK 0 L := by
        conv => rhs; rw [t1]
        exact Nat.le_mul_of_pos_right _ hpt
      have htle : 2 ^ t ≤ cntK 0 L := by
        conv => rhs; rw [t1]
        exact Nat.le_mul_of_pos_left _ (by omega)
      have ht41 : t < 41 := by
        have h41 : cntK 0 L < 2 ^ 41 := by omega
        exact (Nat.pow_lt_pow_iff_right (by omega : 1 < 2)).1 (Nat.lt_of_le_of_lt htle h41)
      have hbig : ∀ c, c = 4300 → 2 ^ 4238 < 2 ^ c ∧ cntK 0 L < 2 ^ c := by
        intro c hc
        subst hc
        have h42 : cntK 0 L < 2 ^ 42 := by omega
        exact ⟨Nat.pow_lt_pow_right (by omega) (by omega), Nat.lt_trans h42 (Nat.pow_lt_pow_right (by omega) (by omega))⟩
      obtain ⟨g1, g2⟩ := hbig 4300 rfl
      rw [mulD_odd hko b4 (Nat.lt_of_le_of_lt hkle g2) (Nat.lt_trans b5 g1) (by omega) (by omega), Option.getD_some, t3, hqneg]
      by_cases hA : sumI L = 0
      · rw [hA, sumD_zero]
        have e : (mulD Dy.zero Dy.zero).getD Dy.zero = Dy.zero := by unfold mulD; rw [show Dy.zero.m * Dy.zero.m = 0 from rfl, formD_zero]; split <;> rfl
        rw [e]
        unfold cmpY cmpD
        have e1 : sgD Dy.zero.neg Dy.zero.m = 0 := rfl
        have e2 : sgD (false != false) ((intD ((cntK 0 L : Nat) : Int)).m * (sumD (sqS L)).m) = 1 := by
          unfold sgD
          rw [if_neg (Nat.mul_ne_zero hkm (fun e => by rw [e] at b4; cases b4))]; rfl
        dsimp only
        rw [e1, e2, if_pos (by decide)]
        decide
      · obtain ⟨a, a1, a2, a3, a4, a5, a6⟩ := sumD_in hV' hA
        rw [mulD_odd a4 a4 (Nat.lt_trans a5 g1) (Nat.lt_trans a5 g1) (by omega) (by omega), Option.getD_some]
        have hvm : (sumD (sumI L)).m ≠ 0 := fun e => by rw [e] at a4; cases a4
        have hneg : ((sumD (sumI L)).neg != (sumD (sumI L)).neg) = false := by cases (sumD (sumI L)).neg <;> rfl
        unfold cmpY cmpD
        dsimp only
        rw [hneg]
        have e1 : sgD false ((sumD (sumI L)).m * (sumD (sumI L)).m) = 1 := by
          unfold sgD
          rw [if_neg (Nat.mul_ne_zero hvm hvm)]; rfl
        have e2 : sgD (false != false) ((intD ((cntK 0 L : Nat) : Int)).m * (sumD (sqS L)).m) = 1 := by
          unfold sgD
          rw [if_neg (Nat.mul_ne_zero hkm (fun e => by rw [e] at b4; cases b4))]; rfl
        rw [e1, e2, if_neg (by decide), if_neg (by decide), if_neg (by decide), Int.one_mul]
        refine cmpV_le (c := 4296) (A := a + a) (B := t + b + 2148) (by omega) (by omega) ?_
        -- from the bound on the squares
        have hsq : (sumI L).natAbs * (sumI L).natAbs ≤ cntK 0 L * ((sqS L).natAbs * 2 ^ 2148) := by
          have w1 : (((sumI L).natAbs * (sumI L).natAbs : Nat) : Int) = sumI L * sumI L := by rw [Int.natCast_mul, Int.natAbs_mul_self']
          have w2 : (((sqS L).natAbs : Nat) : Int) = sqS L := by omega
          have w3 : ((cntK 0 L * ((sqS L).natAbs * 2 ^ 2148) : Nat) : Int) = (cntK 0 L : Int) * (sqS L * ((2 ^ 2148 : Nat) : Int)) := by rw [Int.natCast_mul, Int.natCast_mul, w2]
          have := i5
          rw [← w1, ← w3] at this
          exact Int.ofNat_le.1 this
        rw [a1, b1] at hsq
        generalize hvM : (sumD (sumI L)).m = vm at *
        generalize hqM : (sumD (sqS L)).m = qm at *
        generalize hkM : (intD ((cntK 0 L : Nat) : Int)).m = km at *
        have r1 : vm * 2 ^ a * (vm * 2 ^ a) = vm * vm * 2 ^ (a + a) := by rw [Nat.pow_add]; ac_rfl
        have r2 := sh2 km qm t b 2148
        rw [r1] at hsq
        rw [← r2, ← t1]
        exact hsq
theorem Mk.back {S : Sh} {L : List Nat} (h : Mk S L) (hn : S.noE) : S.back := by
  refine ⟨h.wf hn, h.ex, hn, ?_, h.sums, h.ends⟩
  rw [h.fin.1, h.s]
  dsimp only
  omega
theorem Mk.dec {S : Sh} {L : List Nat} (h : Mk S L) (hn : S.noE) : decS (encS S) = some S := decS_encS (h.back hn)
end

/- A log's bytes, read again, are its records. No condition. -/
section
open Go Sx Wd Fl

theorem rdRec_laid {nm dat : List Nat} (rest : List Nat) (h1 : 1 ≤ nm.length) (h2 : nm.length ≤ 64) (hl : dat.length < 16777216) (hs : decS dat ≠ none) : rdRec (laidB nm dat ++ rest) = (0, nm, dat) := by
  obtain ⟨bs, hbs⟩ : ∃ bs, laidB nm dat ++ rest = bs := ⟨_, rfl⟩
  have e1 : bs = [nm.length % 256] ++ (nm ++ (leB dat.length 3 ++ (dat ++ (leB (fnv (recB nm dat)) 4 ++ rest)))) := by
    obtain ⟨F, hF⟩ : ∃ F, fnv (recB nm dat) = F := ⟨_, rfl⟩
    rw [← hbs]; unfold laidB; rw [hF]; unfold recB
    simp only [List.append_assoc]
  have e2 : bs = ([nm.length % 256] ++ nm) ++ (leB dat.length 3 ++ (dat ++ (leB (fnv (recB nm dat)) 4 ++ rest))) := by rw [e1, List.append_assoc]
  have e3 : bs = (([nm.length % 256] ++ nm) ++ leB dat.length 3) ++ (dat ++ (leB (fnv (recB nm dat)) 4 ++ rest)) := by rw [e2, List.append_assoc (_ ++ nm)]
  have e4 : bs = recB nm dat ++ (leB (fnv (recB nm dat)) 4 ++ rest) := by rw [← hbs]; unfold laidB; rw [List.append_assoc]
  have hlen : bs.length = 8 + nm.length + dat.length + rest.length := by rw [← hbs, List.length_append, laidB_len]
  have h0 : bs.getD 0 0 = nm.length := by
    rw [e1]; show nm.length % 256 = nm.length; exact Nat.mod_eq_of_lt (by omega)
  have hd1 : (bs.drop 1).take nm.length = nm := by
    rw [e1, List.drop_left' (by rfl), List.take_left' rfl]
  have hd2 : leV ((bs.drop (1 + nm.length)).take 3) = dat.length := by
    rw [e2, List.drop_left' (by rw [List.length_append]; rfl), List.take_left' (leB_len _ _), leV_leB]; exact Nat.mod_eq_of_lt (by omega)
  have hd3 : (bs.drop (4 + nm.length)).take dat.length = dat := by
    rw [e3, List.drop_left' (by simp only [List.length_append, leB_len, List.length_cons, List.length_nil]; omega), List.take_left' rfl]
  have hd4 : (bs.drop (4 + nm.length + dat.length)).take 4 = leB (fnv (recB nm dat)) 4 := by
    rw [e4, List.drop_left' (recB_len _ _), List.take_left' (leB_len _ _)]
  have hd5 : bs.take (4 + nm.length + dat.length) = recB nm dat := by
    rw [e4, List.take_left' (recB_len _ _)]
  unfold rdRec
  rw [hbs, h0, hd2, if_neg (by omega), if_neg (by omega), if_neg (by omega), hd4, hd5, if_neg (by simp), hd3, if_neg hs, hd1]
/-- Records that a log keeps, which read again. -/
structure GoodG (G : List RG) : Prop where
  g : ∀ g ∈ G, 1 ≤ (sB g.1).length ∧ (sB g.1).length ≤ 64 ∧ B8 g.2.1 ∧ decS g.2.1 ≠ none
  tot : totG G ≤ 1048576
theorem bytG_append (A B : List RG) : bytG (A ++ B) = bytG A ++ bytG B := by simp [bytG]
theorem bytG_at {G : List RG} {i : Nat} {g : RG} (h : G[i]? = some g) : (bytG G).drop (totG (G.take i)) = laidB (sB g.1) g.2.1 ++ bytG (G.drop (i + 1)) := by
  have hlt : i < G.length := (List.getElem?_eq_some_iff.1 h).1
  have e : G = G.take i ++ (g :: G.drop (i + 1)) := by
    conv => lhs; rw [← List.take_append_drop i G]
    rw [List.drop_eq_getElem_cons hlt]
    congr 2
    exact (List.getElem?_eq_some_iff.1 h).2
  have e2 : bytG G = bytG (G.take i) ++ (laidB (sB g.1) g.2.1 ++ bytG (G.drop (i + 1))) := by
    conv => lhs; rw [e]
    rw [bytG_append]; rfl
  rw [e2, List.drop_left' (bytG_len _)]
theorem bytG_B8 {G : List RG} (h : ∀ g ∈ G, B8 g.2.1) : B8 (bytG G) := by
  intro x hx
  obtain ⟨m, hm, hx⟩ := List.mem_flatten.1 hx
  obtain ⟨g, hg, rfl⟩ := List.mem_map.1 hm
  unfold laidB recB at hx
  exact ((((B8.append (fun x hx => by rw [List.mem_singleton.1 hx]; exact Nat.mod_lt _ (by decide)) (sB_lt g.1)).append (leB_B8 _ _)).append (h g hg)).append (leB_B8 _ _)) x hx
theorem totG_take_lt {G : List RG} {i : Nat} (h : i < G.length) : totG (G.take i) < totG G := by
  have h1 := totG_take G (i + 1)
  rw [List.take_add_one, List.getElem?_eq_getElem h] at h1
  simp only [Option.toList_some] at h1
  rw [totG_snoc] at h1
  unfold szG at h1
  omega
theorem GoodG.read {G : List RG} (h : GoodG G) {i : Nat} {g : RG} (hg : G[i]? = some g) : rdRec ((bytG G).drop (totG (G.take i))) = (0, sB g.1, g.2.1) := by
  obtain ⟨a, b, c, d⟩ := h.g g (List.mem_of_getElem? hg)
  have hs := szG_le (List.mem_of_getElem? hg)
  have ht := h.tot
  rw [bytG_at hg]
  exact rdRec_laid _ a b (by unfold szG at hs; omega) d
theorem GoodG.wk {G : List RG} (h : GoodG G) {R : List (ByteArray × List Nat)} {p : Nat} (hw : Wk (bytG G) R p) : ∃ i, i ≤ G.length ∧ R = tellG (G.take i) ∧ p = totG (G.take i) := by
  induction hw with
  | nil => exact ⟨0, Nat.zero_le _, rfl, rfl⟩
  | @step R p nm dat hw hp hr ih =>
    obtain ⟨i, hi, rfl, rfl⟩ := ih
    rw [bytG_len] at hp
    have hlt : i < G.length := by
      rcases Nat.lt_or_ge i G.length with q | q
      · exact q
      · rw [List.take_of_length_le q] at hp; omega
    obtain ⟨g, hg⟩ : ∃ g, G[i]? = some g := ⟨_, List.getElem?_eq_getElem hlt⟩
    rw [h.read hg] at hr
    injection hr with _ hr
    injection hr with h1 h2
    subst h1; subst h2
    refine ⟨i + 1, hlt, ?_, ?_⟩
    · rw [List.take_add_one, hg, Option.toList_some, tellG_snoc, bA_sB]
    · rw [List.take_add_one, hg, Option.toList_some, totG_snoc]; unfold szG; omega
theorem GoodG.all {G : List RG} (h : GoodG G) {R : List (ByteArray × List Nat)} (hw : Wk (bytG G) R (bytG G).length) : R = tellG G := by
  obtain ⟨i, hi, rfl, hp⟩ := h.wk hw
  rw [bytG_len] at hp
  rcases Nat.lt_or_ge i G.length with q | q
  · have := totG_take_lt q; omega
  · rw [List.take_of_length_le q]
theorem GoodG.good {G : List RG} (h : GoodG G) : ∀ R p, Wk (bytG G) R p → p < (bytG G).length → (rdRec ((bytG G).drop p)).1 = 0 := fun R p hw hp => by
  obtain ⟨i, hi, rfl, rfl⟩ := h.wk hw
  rw [bytG_len] at hp
  rcases Nat.lt_or_ge i G.length with q | q
  · obtain ⟨g, hg⟩ : ∃ g, G[i]? = some g := ⟨_, List.getElem?_eq_getElem q⟩
    rw [h.read hg]
  · rw [List.take_of_length_le q] at hp; omega
theorem tell_one {G : List RG} {nm : ByteArray} {d : List Nat} (h : tellG G = [(nm, d)]) : ∃ v, G = [(nm, d, v)] := by
  match G, h with
  | [(a, b, v)], h => cases h; exact ⟨v, rfl⟩
end

/- A log's bytes cut, or one of them changed: what is read. No condition. -/
section
open Go Sx Wd Fl

/-! ### The sum -/
/-! ### Reading on, up to a place -/
end

/- Store and steelyardlaw22: size, pick, first. No condition. -/
section
open Go Sx Wd Fl

namespace Sx
section
variable {P : Program} {s : Sl} {w : World} {ty : TypeId} {x : Operand}
theorem Ev.fieldAddrG {t : TypeId} {i off : Nat} {ad : Addr} [hF : HasFld P t i off] (hx : opnd s x = some (.pointer (some ad))) : Ev P s (.fieldAddr t x i) ty w (.pointer (some (ad.add off))) w := fun ρ d' pos af g hρ => by
  have h1 := hρ x _ hx
  have h2 := hF.run ad w
  simp [execOp, h1, h2]
end
end Sx
theorem GRc.ne_row {w : World} {e e' es es' lo lo' m m' : Nat} {X X' : List Nat} {v v' : Value} {l l' : List Value} (h : GRc w e es lo X v m l) (h' : GRc w e' es' lo' X' v' m' l') (hne : e ≠ e') : ∀ y ∈ v'.ownBlock.toList, v.ownBlock ≠ some y := fun y hy hv => by
  obtain ⟨c, hc⟩ := h.cells_ hv
  obtain ⟨c', hc'⟩ := h'.cells_ (Option.mem_toList.1 hy)
  rw [hc] at hc'
  simp at hc'
  exact hne hc'.2
theorem LgM.keepRow {lo : Nat} {w w' : World} {b : Nat} {G : List RG} {e es lo' m : Nat} {X : List Nat} {v : Value} {l : List Value} (h : LgM lo w b G) (hr : GRc w e es lo' X v m l) (hc : Chg v.ownBlock.toList w w') (h1 : e ≠ 57 := by decide) (h2 : e ≠ 47 := by decide) (h3 : e ≠ 5 := by decide) : LgM lo w' b G := by
  obtain ⟨⟨v0, a1, a2⟩, a3, a4⟩ := h
  refine ⟨⟨v0, a1.keep hc (hr.notMB a1 h1), a2.keepV hc (a2.ne_row hr (Ne.symm h2))⟩, fun g hg => ⟨(a3 g hg).1.keepV hc (hr.sep (a3 g hg).1 h3), (a3 g hg).2⟩, a4⟩
/-- A row of other cells, where a log's Append turns. -/
theorem GRc.keepLog {lo : Nat} {w w' : World} {b : Nat} {G : List RG} {e es lo' m : Nat} {X : List Nat} {v v0 t0 : Value} {l : List Value} (hr : GRc w e es lo' X v m l) (h : LgM lo w b G) (hv : BK w b 57 [v0, t0]) (hc : Chg (b :: v0.ownBlock.toList) w w') (h1 : e ≠ 57 := by decide) (h2 : e ≠ 47 := by decide) : GRc w' e es lo' X v m l := by
  obtain ⟨⟨vv, a1, a2⟩, _⟩ := h
  have e9 := BK.inj hv a1
  injection e9 with e9 _
  subst e9
  refine hr.keepV hc fun y hy => ?_
  rcases List.mem_cons.1 hy with rfl | hy
  · exact fun q => hr.notBK hv h1 q
  · exact hr.ne_row a2 h2 y hy

theorem stAppend2_spec (b lo : Nat) (G : List RG) (nm : ByteArray) (c : Nat) (S : Sh) (w0 w : World) (hL : LgM lo w b G) (hS : ShM 66 w c S) (hwf : S.wf) (hex : S.ex) (hch : Chg [b] w0 w) (hlo : w0.heap.size ≤ lo) (hlw : lo ≤ w.heap.size) : Ret Tryz.prog 13 [.pointer (some ⟨b, 0, none⟩), .string nm, .pointer (some ⟨c, 0, none⟩)] w fun u w' => ((((sB nm).length < 1 ∨ 64 < (sB nm).length) ∧ u = .int .i64 1 ∧ LgM lo w' b G ∧ Chg [b] w0 w') ∨ (¬ ((sB nm).length < 1 ∨ 64 < (sB nm).length) ∧ 1048576 < totG G + (8 + (sB nm).length + (encS S).length) ∧ u = .int .i64 2 ∧ LgM lo w' b G ∧ Chg [b] w0 w') ∨ (¬ ((sB nm).length < 1 ∨ 64 < (sB nm).length) ∧ totG G + (8 + (sB nm).length + (encS S).length) ≤ 1048576 ∧ u = .int .i64 0 ∧ (∃ dv, LgM lo w' b (G ++ [(nm, encS S, dv)])) ∧ Chg [b] w0 w')) ∧ ∃ v t, BK w b 57 [v, t] ∧ Chg (b :: v.ownBlock.toList) w w' := by
 have hwn : Chg [] w w := Chg.refl _ _;have hel := encS_len hex;obtain ⟨v0, t0, hv0, -⟩ := hL.blocks;refine zE3 Tryz.func13 rfl ?_;refine Sr fun _ kh1 => za rfl (zz (kh1 (zc fun _ kh3 => ?_)));refine CW.seqM 14 (decide ((sB nm).length < 1 ∨ 64 < (sB nm).length)) ?_ ?_
 ·refine zR fun _ kr4 => ?_;refine zm rfl ?_;refine WL.ev (Ev.lenS rfl) rfl ?_;refine WL.ev (Ev.lss rfl rfl) rfl ?_;refine zm rfl ?_;refine zb ?_ ?_<;>intro hg1<;>try simp only [qs] at hg1
  ·refine zv rfl (zv rfl (zv rfl (zt rfl rfl ?_)));refine WL.nil (kr4 _ _ _ ?_);refine ⟨rfl, rfl, Subs.consB rfl ?_ ?_⟩
   ·first | (refine (decide_eq_true (.inl ?_)).symm; omega) | (refine decide_eq_decide.2 ?_; omega)
   ·exact SMg
  ·refine zw rfl (zm rfl (zw rfl ?_));refine WL.ev (Ev.lenS rfl) rfl ?_
   refine zw rfl ?_;refine WL.ev (Ev.gtr rfl rfl) rfl ?_;refine ze rfl rfl ?_;refine WL.nil (kr4 _ _ _ ?_);refine ⟨rfl, rfl, Subs.consB rfl ?_ ?_⟩
   ·first | (refine (decide_eq_true (.inl ?_)).symm; omega) | (refine decide_eq_decide.2 ?_; omega)
   ·exact SMg
 ·refine zy rfl ?_ ?_<;>intro hc2<;>try simp only [qs] at hc2
  ·have hbad : (sB nm).length < 1 ∨ 64 < (sB nm).length := hc2
   refine Sr fun _ kh5 => za rfl (zz (kh5 ?_));refine zr (zr1 rfl rfl ?_);exact ⟨.inl ⟨hbad, rfl, hL, hch⟩, v0, t0, hv0, Chg.any hwn⟩
  ·have hbad : ¬ ((sB nm).length < 1 ∨ 64 < (sB nm).length) := hc2
   refine zkk ?_;refine kh3 (zc fun _ kh7 => Sr fun _ kh8 => zm rfl (zm rfl (zm rfl ?_)));refine WL.call hasF12 rfl rfl (shEncode_spec c S _ (hS.keep0 hwn) hwf hex) fun v w1 h' => ?_;obtain ⟨hge, hC⟩ := h';obtain ⟨ae, ce, rfl, hcape, hre⟩ := hge.row;have hgd := hge.mono (lo' := 0) (X' := []) (Nat.zero_le _) (by simp);have hch := hch.ta hC;have hwn := hwn.ta hC;have hL := hL.keep0 hC;refine WL.ev (Ev.build (vs := _) (cs := [_, _]) rfl rfl) rfl ?_;refine WL.call hasF30 rfl rfl (stAdd_spec b lo G nm ae (encS S) ce w0 _ hL hgd (encS_B8 S) (by omega) (by omega) hch hlo (Nat.le_trans hlw hwn.size)) fun v w2 h' => ?_;obtain ⟨h', v1, t1, hv1, hX⟩ := h';have hev := BK.inj (hv0.keep0 hwn) hv1
   injection hev with hev hev2
   subst hev;have hXw := (Chg.any hwn).trans hX;rcases h' with ⟨hgt, rfl, hL, hch⟩ | ⟨hgt, rfl, hL, hch⟩
   ·unfold szG at hgt;dsimp only at hgt;refine WL.ev (Ev.not rfl) rfl ?_;refine zz (kh8 ?_);refine CW.condT rfl ?_;refine Sr fun _ kh10 => za rfl (zz (kh10 ?_));refine zr (zr1 rfl rfl ?_);exact ⟨.inr (.inl ⟨hbad, by omega, rfl, hL, hch⟩), v0, t0, hv0, hXw⟩
   ·unfold szG at hgt;dsimp only at hgt;refine WL.ev (Ev.not rfl) rfl ?_;refine zz (kh8 ?_);refine CW.condF rfl ?_;refine zkk ?_;refine kh7 (Sr fun _ kh12 => za rfl (zz (kh12 ?_)));refine zr (zr1 rfl rfl ?_);exact ⟨.inr (.inr ⟨hbad, by omega, rfl, ⟨_, hL⟩, hch⟩), v0, t0, hv0, hXw⟩

end

/- Package steelyardlaw22: laid. No condition. -/
section
open Go Sx Wd Fl

theorem RW.pair {w : World} {a : Option Addr} {P : List RG} (h : RW w a (recC P)) {i : Nat} {g : RG} (hg : P[i]? = some g) : ∃ ad, a = some ad ∧ ∀ j v, [Value.string g.1, g.2.2][j]? = some v → w.cell? ((ad.add ((i : Int).toNat * 2)).add j) = some v := by
  obtain ⟨h1, h2⟩ := recC_at hg
  obtain ⟨ad, e1, c1⟩ := h _ _ h1
  obtain ⟨ad2, e2, c2⟩ := h _ _ h2
  refine ⟨ad, e1, fun j v hv => ?_⟩
  rw [e1] at e2
  cases e2
  rw [addr_add2]
  match j, hv with
  | 0, hv => cases hv; rw [show (i : Int).toNat * 2 + 0 = 2 * i by omega]; exact c1
  | 1, hv => cases hv; rw [show (i : Int).toNat * 2 + 1 = 2 * i + 1 by omega]; exact c2
/-- Asked records: names and numbers, as they lie. -/
def PutM (w : World) (P : List RG) : Prop := ∀ g ∈ P, NF w g.2.2 g.2.1
theorem GoodG.nil : GoodG [] := ⟨(fun g hg => by cases hg), by decide⟩
theorem GoodG.snoc {G : List RG} {nm : ByteArray} {S : Sh} {dv : Value} (h : GoodG G) (hn : ¬ ((sB nm).length < 1 ∨ 64 < (sB nm).length)) (hd : decS (encS S) = some S) (ht : totG (G ++ [(nm, encS S, dv)]) ≤ 1048576) : GoodG (G ++ [(nm, encS S, dv)]) := by
  refine ⟨fun g hg => ?_, ht⟩
  rcases List.mem_append.1 hg with hg | hg
  · exact h.g g hg
  · rw [List.mem_singleton.1 hg]
    exact ⟨by dsimp only; omega, by dsimp only; omega, encS_B8 S, by dsimp only; rw [hd]; simp⟩

end

/- errors.As at the program's own kind of error. Lines of a worked proof, turned to this claim. -/
section
open Go Sx Go.RowKit Go.Extern.Stop Go.Stop Go.Extern

end

/- errors.Is at the program's own kind of error. Lines of a worked proof, turned to this claim. -/
section
open Go Sx Go.RowKit Go.Extern.Stop Go.Stop Go.Extern

end

/- Store: errors told. No condition. -/
section
open Go Sx Wd Fl

/-- The store's errors and errors.As's own type, as they lie. -/
structure GF (w : World) (ea : Nat → Addr) : Prop where
  ge : GE w (evV ea)
  cell : ∀ c, 1 ≤ c → c ≤ 4 → ∃ cs t, w.heap[(ea c).block]? = some (.cells cs t (0, 0))
  ne : ∀ c d, 1 ≤ c → c ≤ 4 → 1 ≤ d → d ≤ 4 → c ≠ d → ea c ≠ ea d
  et : w.cell? ⟨1, 0, none⟩ = some (.iface 145 (.agg #[.pointer (some ⟨7, 80, none⟩)]))
namespace Sx
section
variable {r : Option Nat} {P : Program} {A : AQ} {n : Nat} {D : List Deferred} {s : Sl} {w : World}
variable {ops : Array Oper} {K : KK} {fuel : Nat} {listed : Array Bool} {pos : String} {af : Array Edge} {ty : TypeId}
end
end Sx

end

/- Store: Replay of any bytes. No condition. -/
section
open Go Sx Wd Fl

end

/- Package steelyardlaw22: live. No condition. -/
section
open Go Sx Wd Fl

def l12 : List Nat := [4607182418800017408, 4611686018427387904]
theorem ex12 : (oneL l12).ex := by constructor <;> decide +kernel
theorem w12 : ∀ x ∈ l12, x < 18446744073709551616 := by decide
theorem back12 : (oneL l12).back := ⟨(oneL_ok w12).1, ex12, fun h => absurd (by decide +kernel : (oneL l12).some) h, by decide +kernel, by decide +kernel, fun _ => by decide +kernel⟩
theorem dec12 : decS (encS (oneL l12)) = some (oneL l12) := decS_encS back12
theorem tot12 (nm : ByteArray) (dv : Value) : totW nm [(nm, encS (oneL l12), dv)] = .ok (Sh.zero.merge (oneL l12), true) := by
  have h : ¬ 1099511627776 < Sh.zero.s.al + (oneL l12).s.al := by decide +kernel
  show totStep nm (.ok (Sh.zero, false)) (nm, encS (oneL l12), dv) = _
  unfold totStep
  dsimp only
  rw [if_pos rfl, dec12]
  dsimp only
  rw [if_neg h]
theorem al12 : (Sh.zero.merge (oneL l12)).s.al = 2 := by decide +kernel
theorem sBa : sB ⟨#[97]⟩ = [97] := by decide
theorem enc12_len : 58 ≤ (encS (oneL l12)).length := by
  unfold encS
  simp only [List.length_append, leB_len, encD_len]
  omega
theorem good12 (dv : Value) : GoodG [(⟨#[97]⟩, encS (oneL l12), dv)] := by
  refine ⟨fun g hg => ?_, ?_⟩
  · rw [List.mem_singleton.1 hg]
    dsimp only
    rw [sBa, dec12]
    exact ⟨by decide, by decide, encS_B8 _, by simp⟩
  · have := encS_len ex12
    show szG _ + 0 ≤ _
    unfold szG
    dsimp only
    rw [sBa]
    simp only [List.length_cons, List.length_nil]
    omega

theorem l22live_spec (w : World) (ea : Nat → Addr) (hg0 : GW w) (hE0 : GE w (evV ea)) : Ret Tryz.prog 8 [] w fun u w' => u = .bool true ∧ Chg [] w w' := by
 have hch : Chg [] w w := Chg.refl _ _;refine zE0 Tryz.func8 rfl ?_;refine Sr fun _ kh1 => za rfl (zz (kh1 (Sr fun _ kh3 => ?_)));refine WL.call hasF9 rfl rfl (stNew_spec _) fun v w1 h' => ?_;obtain ⟨⟨bl, rfl, hbl0, hgel⟩, hC⟩ := h';have hL : LgM w.heap.size _ bl [] := LgM.new hbl0;have hch := hch.ta hC;refine za rfl (zz (kh3 (Sr fun _ kh5 => ?_)));refine WL.buildSlice (m := 2) (cs := [f64v (4607182418800017408), f64v (4611686018427387904)]) (by decide) (by decide) rfl (by kernel_rfl) rfl fun b11 w11 hn11 => ?_;have hcm11 := hn11.chg;have hge11 := hn11.ge;have hb11 : FB w11 b11 _ [4607182418800017408, 4611686018427387904] := hn11.at_;have hgehch11 := Nat.le_trans hch.size hge11;have hch := hch.ta hcm11;have hL := hL.keep0 hcm11;refine WL.call hasF10 rfl rfl (l22one_spec _ l12 2 _ hb11.row w12 (by decide) (hg0.keep hch (fun b hb => by cases hb))) fun v w2 h' => ?_;obtain ⟨⟨bs1, rfl, hbs, hges⟩, hC⟩ := h';have hch := hch.ta hC;have hL := hL.keep0 hC;refine za rfl (zz (kh5 (zc fun _ kh7 => Sr fun _ kh8 => zm rfl ?_)));refine WL.ev (Ev.eqlPtrNil rfl rfl) rfl ?_;refine zm rfl (zw rfl (zm rfl (zw rfl ?_)));refine WL.ev (Ev.eqlPtrNil rfl rfl) rfl ?_;refine ze rfl rfl (zz (kh8 ?_));refine CW.condF rfl ?_;refine zkk ?_;refine kh7 (Sr fun _ kh10 => zm rfl (zm rfl ?_));refine WL.call hasF13 rfl rfl (stAppend_spec bl w.heap.size [] ⟨#[97]⟩ bs1 _ w _ hL hbs (oneL_ok w12).1 ex12 (Chg.any hch) (Nat.le_refl _) hch.size) fun v w3 h' => ?_;rcases h' with ⟨hbad, _⟩ | ⟨_, hbig, _⟩ | ⟨_, hle, rfl, ⟨dv, hL⟩, hch⟩
 · rw [sBa] at hbad; exact absurd hbad (by decide)
 · have := encS_len ex12; rw [sBa] at hbig; simp only [totG, List.map_nil, List.sum_nil, List.length_cons, List.length_nil] at hbig; omega
 have hch := hch.drop hgel;rw [List.nil_append] at hL;refine za rfl (zz (kh10 (Sr fun _ kh12 => zm rfl ?_)));refine WL.call hasF14 rfl rfl (stBytes_spec bl w.heap.size [(⟨#[97]⟩, encS (oneL l12), dv)] _ hL) fun v w4 h' => ?_;obtain ⟨hgb, hC⟩ := h';have hGd := good12 dv;have hbl58 := enc12_len;have hlenB := bytG_len [(⟨#[97]⟩, encS (oneL l12), dv)];have htotB : totG [(⟨#[97]⟩, encS (oneL l12), dv)] = 9 + (encS (oneL l12)).length := by show szG _ + 0 = _; unfold szG; dsimp only; rw [sBa]; rfl
 have htB := hGd.tot;have hB0 : (bytG [(⟨#[97]⟩, encS (oneL l12), dv)]).getD 0 0 = 1 := rfl;have hB1 : (bytG [(⟨#[97]⟩, encS (oneL l12), dv)]).getD 1 0 = 97 := rfl;obtain ⟨bs, hbs⟩ : ∃ bs, bytG [(⟨#[97]⟩, encS (oneL l12), dv)] = bs := ⟨_, rfl⟩;rw [hbs] at hgb hlenB hB0 hB1;obtain ⟨a23, c23, rfl, hcap23, hr23⟩ := hgb.row;have hch := hch.ta hC;refine za rfl (zz (kh12 (Sr fun _ kh14 => zm rfl ?_)));refine WL.call hasF17 rfl rfl (stReplayOk_spec a23 bs c23 _ ea hr23 hcap23 (by rw [← hbs]; exact bytG_B8 (fun g hg => (hGd.g g hg).2.2.1)) (by omega) (hE0.keep0 hch) (hg0.keep hch (fun b hb => by cases hb)) (by rw [← hbs]; exact hGd.good)) fun v w5 h' => ?_;obtain ⟨⟨bl2, G2, rfl, hWk, hL2, hge2⟩, hC⟩ := h';obtain ⟨dv2, rfl⟩ := tell_one (by rw [← hbs] at hWk; exact (hGd.all hWk : tellG G2 = tellG [(⟨#[97]⟩, encS (oneL l12), dv)]));have hch := hch.ta hC;have hr23 := hr23.keep0 hC;refine zm rfl (zx rfl rfl (zx rfl rfl (zx rfl rfl (za rfl (za rfl (za rfl (zz (kh14 (zc fun _ kh16 => Sr fun _ kh17 => zm rfl ?_)))))))));refine WL.ev (Ev.neq rfl rfl) rfl ?_;rw [decide_eq_false (by simp)];refine zm rfl (zw rfl (zm rfl (zw rfl ?_)));refine WL.ev (Ev.neq rfl rfl) rfl ?_;rw [decide_eq_false (by simp)];refine ze rfl rfl (zm rfl (zw rfl (zm rfl (zw rfl ?_))));refine WL.ev (Ev.eqlPtrNil rfl rfl) rfl ?_;refine ze rfl rfl (zm rfl (zw rfl (zm rfl (zw rfl (zm rfl (zw rfl (zn rfl (zw rfl ?_))))))));refine WL.ev (Ev.neq rfl rfl) rfl ?_;rw [decide_eq_false (by simp)];refine ze rfl rfl (zm rfl (zw rfl (zm rfl (zw rfl ?_))));refine WL.ev (Ev.lss rfl rfl) rfl ?_;rw [decide_eq_false (by omega)];refine ze rfl rfl (zz (kh17 ?_));refine CW.condF rfl ?_;refine zkk ?_;refine kh16 (Sr fun _ kh19 => zm rfl ?_);refine WL.call hasF21 rfl rfl (stTotal_spec bl2 _ _ ⟨#[97]⟩ _ hL2 (hg0.keep hch (fun b hb => by cases hb))) fun v w6 h' => ?_;obtain ⟨hu, hC⟩ := h';rw [tot12] at hu;rcases hu with ⟨S, bt, hS, rfl, hbt, hwt, _⟩ | ⟨S, hS, _⟩ | ⟨e, hS, _⟩
 rotate_left
 · cases hS
 · cases hS
 obtain rfl : Sh.zero.merge (oneL l12) = S := by injection hS with hS; injection hS
 have hch := hch.ta hC;have hr23 := hr23.keep0 hC;refine zm rfl (zx rfl rfl (zx rfl rfl (za rfl (za rfl (zz (kh19 (Sr fun _ kh21 => zm rfl (zq rfl rfl (zm rfl (zw rfl (zm rfl (zw rfl ?_))))))))))));refine WL.ev (Ev.neqPtrNil rfl rfl) rfl ?_;refine zt rfl rfl (zm rfl (zw rfl (zm rfl (zw rfl ?_))));refine WL.call hasF24 rfl rfl (Count_spec_ bt _ _ hbt hwt.1) fun v w7 h' => ?_;obtain ⟨rfl, hC⟩ := h';rw [al12];have hch := hch.ta hC;have hr23 := hr23.keep0 hC;refine zw rfl (zq rfl rfl (zt rfl rfl (zm rfl (zw rfl (zm rfl (zw rfl ?_))))));refine WL.ev (Ev.ixR (0) rfl rfl hr23 (by omega) (by omega) (by simp; omega)) rfl ?_;refine zw rfl ?_;refine WL.ev (Ev.load rfl rfl (hr23.u8 (by omega))) rfl ?_;rw [hB0];refine zw rfl (zq rfl rfl (zt rfl rfl (zm rfl (zw rfl (zm rfl (zw rfl ?_))))));refine WL.ev (Ev.ixR (1) rfl rfl hr23 (by omega) (by omega) (by simp; omega)) rfl ?_;refine zw rfl ?_;refine WL.ev (Ev.load rfl rfl (hr23.u8 (by omega))) rfl ?_;rw [hB1];refine zw rfl (zq rfl rfl (zt rfl rfl (za rfl (zz (kh21 ?_)))));refine zr (zr1 rfl rfl ?_);exact ⟨rfl, hch⟩

end

/- The law StoreCuts. No condition. -/
section
open Go Sx Wd Fl

namespace Sx
section
variable {P : Program} {ops : Array Oper} {K : KK} {fuel : Nat} {listed : Array Bool} {n : Nat} {D : List Deferred} {s : Sl} {w : World} {ty : TypeId} {pos : String} {af : Array Edge} {d : Nat} {op : Op} {v : Value} {S : World → Prop}
end
end Sx
namespace Sx
theorem Ev.eqlStr {P : Program} {s : Sl} {w : World} {ty : TypeId} {x y : Operand} {t t' : TypeId} {a b : ByteArray} (hx : opnd s x = some (.string a)) (hy : opnd s y = some (.string b)) : Ev P s (.binOp .eql t x y t') ty w (.bool (decide (a = b))) w := fun ρ d pos af g hρ => by
  have e1 := hρ x _ hx
  have e2 := hρ y _ hy
  have e3 : (a.toList == b.toList) = decide (a = b) := by
    rw [ByteArray.toList_eq, ByteArray.toList_eq]
    by_cases h : a = b
    · subst h; simp
    · have : a.data.toList ≠ b.data.toList := fun q => h (by cases a; cases b; congr 1; exact Array.ext' q)
      rw [decide_eq_false h, beq_eq_false_iff_ne.2 this]
  simp [execOp, e1, e2, eqGuard, binOp_string_eql, e3]
end Sx
theorem totG_tell {A B : List RG} (h : tellG A = tellG B) : totG A = totG B := by
  have e : ∀ G : List RG, totG G = ((tellG G).map fun p => 8 + (sB p.1).length + p.2.length).sum := fun G => by
    unfold totG tellG
    rw [List.map_map]; rfl
  rw [e, e, h]
theorem bytG_tell {A B : List RG} (h : tellG A = tellG B) : bytG A = bytG B := by
  have e : ∀ G : List RG, bytG G = ((tellG G).map fun p => laidB (sB p.1) p.2).flatten := fun G => by
    unfold bytG tellG
    rw [List.map_map]; rfl
  rw [e, e, h]
theorem tellG_len (G : List RG) : (tellG G).length = G.length := by unfold tellG; rw [List.length_map]
theorem tellG_tk (G : List RG) (i : Nat) : tellG (G.take i) = (tellG G).take i := by unfold tellG; rw [List.map_take]
end

/- Names, each once; totals of records that are shards of lists. No condition. -/
section
open Go Sx Wd Go.Sort Fl

/-! ### Names -/
theorem leS_tr (a b c : List UInt8) (h1 : leS a b = true) (h2 : leS b c = true) : leS a c = true := decide_eq_true (List.le_trans (of_decide_eq_true h1) (of_decide_eq_true h2))
theorem leS_to (a b : List UInt8) : (leS a b || leS b a) = true := by
  rcases List.le_total a b with h | h
  · simp [h]
  · simp [h]
theorem leS_anti {a b : List UInt8} (h1 : leS a b = true) (h2 : leS b a = true) : a = b := List.le_antisymm (of_decide_eq_true h1) (of_decide_eq_true h2)
theorem compact_mem {zs : List (List UInt8)} {x : List UInt8} (h : x ∈ Lib.compact zs) : x ∈ zs := by
  unfold Lib.compact Lib.compactUpTo at h
  obtain ⟨j, hj, rfl⟩ := List.mem_map.1 h
  have hj1 := List.mem_range.1 (List.mem_filter.1 hj).1
  rw [getElem!_pos _ j (by simpa using hj1)]
  simp
/-- Of a rising list each is kept once: rising, no two alike. -/
theorem compact_lt {zs : List (List UInt8)} (hs : zs.Pairwise fun a b => leS a b = true) : (Lib.compact zs).Pairwise fun a b => leS a b = true ∧ a ≠ b := by
  have hget : ∀ i j, i ≤ j → j < zs.length → leS zs.toArray[i]! zs.toArray[j]! = true := fun i j hij hj => by
    rw [getElem!_pos _ i (by simp; omega), getElem!_pos _ j (by simpa using hj)]
    simp only [List.getElem_toArray]
    rcases Nat.lt_or_ge i j with q | q
    · exact (List.pairwise_iff_getElem.1 hs) i j (by omega) hj q
    · have e : i = j := by omega
      subst e
      exact decide_eq_true (List.le_refl _)
  unfold Lib.compact Lib.compactUpTo
  rw [List.pairwise_map]
  have hr : ((List.range zs.length).filter (Lib.keeps zs.toArray)).Pairwise fun i j => i < j := List.Pairwise.filter _ List.pairwise_lt_range
  refine List.Pairwise.imp_of_mem (fun {i j} hi hj hij => ?_) hr
  obtain ⟨hj1, hj2⟩ := List.mem_filter.1 hj
  have hjl := List.mem_range.1 hj1
  refine ⟨hget i j (by omega) hjl, fun e => ?_⟩
  have hk : j = 0 ∨ zs.toArray[j]! ≠ zs.toArray[j - 1]! := by simpa [Lib.keeps] using hj2
  rcases hk with hk | hk
  · omega
  · apply hk
    have h1 := hget i (j - 1) (by omega) (by omega)
    have h2 := hget (j - 1) j (by omega) hjl
    rw [e] at h1
    exact leS_anti h1 h2
theorem compact_id {zs : List (List UInt8)} (h : zs.Pairwise fun a b => leS a b = true ∧ a ≠ b) : Lib.compact zs = zs := by
  refine Lib.compact_all _ fun j hj => ?_
  by_cases h0 : j = 0
  · subst h0; simp [Lib.keeps]
  · refine Lib.keeps_pos fun e => ?_
    rw [getElem!_pos _ j (by simpa using hj), getElem!_pos _ (j - 1) (by simp; omega)] at e
    simp only [List.getElem_toArray] at e
    exact ((List.pairwise_iff_getElem.1 h) (j - 1) j (by omega) hj (by omega)).2 e.symm
theorem nmL_lt (G : List RG) : (nmL G).Pairwise fun a b => leS a b = true ∧ a ≠ b := compact_lt (List.pairwise_mergeSort leS_tr leS_to _)
theorem nmL_again {G K : List RG} (h : nmS K = nmL G) : nmL K = nmL G := by
  unfold nmL
  have hp := nmL_lt G
  rw [h]
  have e : (nmL G).mergeSort leS = nmL G := List.mergeSort_of_pairwise (hp.imp fun h => h.1)
  rw [e, compact_id hp]
  rfl
theorem nmL_mem {G : List RG} {x : List UInt8} (h : x ∈ nmL G) : ∃ g ∈ G, g.1 = ⟨x.toArray⟩ := by
  have h1 := compact_mem h
  have h2 := (List.mergeSort_perm (nmS G) leS).mem_iff.1 h1
  obtain ⟨g, hg, rfl⟩ := List.mem_map.1 h2
  refine ⟨g, hg, ?_⟩
  cases g.1
  simp
theorem nmL_len (G : List RG) : (nmL G).length ≤ G.length := by
  have h1 := Lib.compact_length_le ((nmS G).mergeSort leS)
  rw [List.length_mergeSort] at h1
  unfold nmL
  have : (nmS G).length = G.length := by unfold nmS; rw [List.length_map]
  omega
/-! ### Totals -/
/-- Records that are shards of lists, so many numbers in all. -/
inductive GM : List RG → Nat → Prop
  | nil : GM [] 0
  | snoc {G : List RG} {M : Nat} {nm : ByteArray} {S : Sh} {L : List Nat} {dv : Value} : GM G M → Mk S L → S.noE → GM (G ++ [(nm, encS S, dv)]) (M + L.length)
theorem totW_snoc (nm : ByteArray) (G : List RG) (g : RG) : totW nm (G ++ [g]) = totStep nm (totW nm G) g := by
  unfold totW; rw [List.foldl_append]; rfl
theorem GM.tot {G : List RG} {M : Nat} (h : GM G M) (nm : ByteArray) (hM : M ≤ 1099511627776) : ∃ S a L, totW nm G = .ok (S, a) ∧ Mk S L ∧ S.noE ∧ L.length ≤ M ∧ (a = true ↔ ∃ g ∈ G, g.1 = nm) := by
  induction h with
  | nil => exact ⟨Sh.zero, false, [], rfl, Mk.zero, (fun _ => ⟨rfl, rfl⟩), Nat.le_refl _, by simp⟩
  | @snoc G M nm' U L dv hG hMk hno ih =>
    obtain ⟨S, a, L0, e, hS, hn, hl, ha⟩ := ih (by omega)
    rw [totW_snoc, e]
    unfold totStep
    dsimp only
    by_cases q : nm' = nm
    · rw [if_pos q, hMk.dec hno]
      dsimp only
      have al1 : S.s.al = L0.length := by rw [hS.s]
      have al2 : U.s.al = L.length := by rw [hMk.s]
      rw [if_neg (by omega)]
      refine ⟨_, _, L0 ++ L, rfl, hS.merge hMk (by omega), hS.noE hMk hn, by rw [List.length_append]; omega, ?_⟩
      simp only [true_iff]
      exact ⟨_, List.mem_append_right _ (List.mem_singleton.2 rfl), q⟩
    · rw [if_neg q]
      refine ⟨S, a, L0, rfl, hS, hn, by omega, ?_⟩
      rw [ha]
      constructor
      · rintro ⟨g, hg, e⟩; exact ⟨g, List.mem_append_left _ hg, e⟩
      · rintro ⟨g, hg, e⟩
        rcases List.mem_append.1 hg with hg | hg
        · exact ⟨g, hg, e⟩
        · rw [List.mem_singleton.1 hg] at e; exact absurd e q
/-- A name's total. -/
def totS (nm : ByteArray) (G : List RG) : Sh := match totW nm G with
  | .ok (S, _) => S
  | .error _ => Sh.zero
/-- What a log is, whose names all have totals. -/
structure CpG (G : List RG) : Prop where
  t : ∀ x ∈ nmL G, totW ⟨x.toArray⟩ G = .ok (totS ⟨x.toArray⟩ G, true) ∧ (totS ⟨x.toArray⟩ G).wf ∧ (totS ⟨x.toArray⟩ G).ex ∧ decS (encS (totS ⟨x.toArray⟩ G)) = some (totS ⟨x.toArray⟩ G) ∧ (totS ⟨x.toArray⟩ G).noE ∧ (totS ⟨x.toArray⟩ G).s.al ≤ 1099511627776
  n : ∀ x ∈ nmL G, 1 ≤ (sB ⟨x.toArray⟩).length ∧ (sB ⟨x.toArray⟩).length ≤ 64
  len : G.length ≤ 100
theorem GM.cp {G : List RG} {M : Nat} (h : GM G M) (hM : M ≤ 1099511627776) (hg : GoodG G) (hl : G.length ≤ 100) : CpG G := by
  refine ⟨fun x hx => ?_, fun x hx => ?_, hl⟩
  · obtain ⟨S, a, L, e, hS, hn, hlen, ha⟩ := h.tot ⟨x.toArray⟩ hM
    obtain ⟨g, hgm, hge⟩ := nmL_mem hx
    have hat : a = true := ha.2 ⟨g, hgm, hge⟩
    have es : totS ⟨x.toArray⟩ G = S := by unfold totS; rw [e]
    rw [es, e, hat]
    exact ⟨rfl, hS.wf hn, hS.ex, hS.dec hn, hn, by rw [hS.s]; dsimp only; omega⟩
  · obtain ⟨g, hgm, hge⟩ := nmL_mem hx
    obtain ⟨a, b, _⟩ := hg.g g hgm
    rw [← hge]
    exact ⟨a, b⟩
/-- What Compact makes of a log. -/
def cpL (G : List RG) : List (ByteArray × List Nat) := (nmL G).map fun x => (⟨x.toArray⟩, encS (totS ⟨x.toArray⟩ G))
theorem zero_merge {U : Sh} (hn : U.noE) : Sh.zero.merge U = U := by
  obtain ⟨⟨a, b, c, d, e, f⟩, V, Q, lo, hi⟩ := U
  unfold Sh.merge
  have e1 : addD Sh.zero.V V = some V := by unfold addD; rw [if_pos (show Sh.zero.V.m = 0 from rfl)]
  have e2 : addD Sh.zero.Q Q = some Q := by unfold addD; rw [if_pos (show Sh.zero.Q.m = 0 from rfl)]
  have hz : ¬ Sh.zero.some := by decide
  dsimp only
  rw [e1, e2, Option.getD_some, Option.getD_some]
  by_cases q : (Sh.mk ⟨a, b, c, d, e, f⟩ V Q lo hi).some
  · rw [if_pos ⟨q, .inl hz⟩, if_pos ⟨q, .inl hz⟩]
    simp [SP.add, Sh.zero, SP.zero]
  · rw [if_neg (fun z => q z.1), if_neg (fun z => q z.1)]
    obtain ⟨h1, h2⟩ := hn q
    dsimp only at h1 h2
    subst h1; subst h2
    simp [SP.add, Sh.zero, SP.zero]
theorem split_at {α : Type} {K : List α} {i : Nat} {g : α} (hg : K[i]? = some g) : K = K.take i ++ (g :: K.drop (i + 1)) := by
  have hlt : i < K.length := (List.getElem?_eq_some_iff.1 hg).1
  have e : K.drop i = g :: K.drop (i + 1) := by
    rw [List.drop_eq_getElem_cons hlt, (List.getElem?_eq_some_iff.1 hg).2]
  rw [← e, List.take_append_drop]
theorem nm_inj {x y : List UInt8} (e : (⟨x.toArray⟩ : ByteArray) = ⟨y.toArray⟩) : x = y := by
  injection e with e
  injection e
/-- The same, made of what was made. -/
theorem totW_one : ∀ {G : List RG} {nm : ByteArray} {U : Sh} {acc : Sh × Bool}, (∀ g ∈ G, g.1 ≠ nm) → G.foldl (totStep nm) (.ok acc) = .ok acc
  | [], _, _, _, _ => rfl
  | g :: G, nm, U, acc, h => by
    show G.foldl (totStep nm) (totStep nm (.ok acc) g) = _
    have : totStep nm (.ok acc) g = .ok acc := by
      obtain ⟨S, a⟩ := acc
      exact if_neg (h g (List.mem_cons_self ..))
    rw [this]
    exact totW_one (U := U) fun g hg => h g (List.mem_cons_of_mem _ hg)
theorem tot_again {K : List RG} {l : List (List UInt8)} {T : List UInt8 → Sh} (hK : tellG K = l.map fun x => (⟨x.toArray⟩, encS (T x))) (hl : l.Pairwise fun a b => leS a b = true ∧ a ≠ b) (hT : ∀ x ∈ l, decS (encS (T x)) = some (T x) ∧ (T x).noE ∧ (T x).s.al ≤ 1099511627776) : ∀ x ∈ l, totW ⟨x.toArray⟩ K = .ok (T x, true) := by
  intro x hx
  obtain ⟨A, B, rfl⟩ := List.append_of_mem hx
  rw [List.map_append, List.map_cons] at hK
  obtain ⟨h1, h2, h3⟩ := hT x hx
  have hne : ∀ y, (y ∈ A ∨ y ∈ B) → (⟨y.toArray⟩ : ByteArray) ≠ ⟨x.toArray⟩ := fun y hy e => by
    have e2 : y = x := nm_inj e
    rcases List.pairwise_append.1 hl with ⟨_, q2, q3⟩
    rcases hy with hy | hy
    · exact (q3 y hy x (List.mem_cons_self ..)).2 e2
    · exact (List.rel_of_pairwise_cons q2 hy).2 e2.symm
  -- K in three parts
  have hlenA : (tellG K).take A.length = A.map fun x => (⟨x.toArray⟩, encS (T x)) := by rw [hK, List.take_left' (by simp)]
  obtain ⟨g, hg⟩ : ∃ g, K[A.length]? = some g := by
    have : A.length < K.length := by rw [← tellG_len, hK]; simp
    exact ⟨_, List.getElem?_eq_getElem this⟩
  have hgt : (tellG K)[A.length]? = some (g.1, g.2.1) := by unfold tellG; rw [List.getElem?_map, hg]; rfl
  rw [hK, List.getElem?_append_right (by simp)] at hgt
  simp only [List.length_map, Nat.sub_self, List.getElem?_cons_zero, Option.some.injEq, Prod.mk.injEq] at hgt
  have hsplit := split_at hg
  have hA : ∀ g ∈ K.take A.length, g.1 ≠ ⟨x.toArray⟩ := fun g hg => by
    have : (g.1, g.2.1) ∈ tellG (K.take A.length) := List.mem_map.2 ⟨g, hg, rfl⟩
    rw [tellG_tk, hlenA] at this
    obtain ⟨y, hy, e⟩ := List.mem_map.1 this
    injection e with e _
    rw [← e]; exact hne y (.inl hy)
  have hBd : tellG (K.drop (A.length + 1)) = B.map fun x => (⟨x.toArray⟩, encS (T x)) := by
    have : tellG (K.drop (A.length + 1)) = (tellG K).drop (A.length + 1) := by unfold tellG; rw [List.map_drop]
    rw [this, hK, ← List.singleton_append, ← List.append_assoc, List.drop_left' (by simp)]
  have hB : ∀ g ∈ K.drop (A.length + 1), g.1 ≠ ⟨x.toArray⟩ := fun g hg => by
    have : (g.1, g.2.1) ∈ tellG (K.drop (A.length + 1)) := List.mem_map.2 ⟨g, hg, rfl⟩
    rw [hBd] at this
    obtain ⟨y, hy, e⟩ := List.mem_map.1 this
    injection e with e _
    rw [← e]; exact hne y (.inr hy)
  rw [hsplit]
  unfold totW
  rw [List.foldl_append, totW_one (U := Sh.zero) hA, List.foldl_cons]
  have hst : totStep ⟨x.toArray⟩ (.ok (Sh.zero, false)) g = .ok (T x, true) := by
    unfold totStep
    dsimp only
    rw [if_pos hgt.1.symm, ← hgt.2, h1]
    dsimp only
    have hz : Sh.zero.s.al = 0 := rfl
    rw [if_neg (by omega), zero_merge h2]
  rw [hst, totW_one (U := Sh.zero) hB]
end

/- Package steelyardlaw22: laid, by lists; Compact. No condition. -/
section
open Go Sx Wd Go.Sort Fl

def lenP (P : List RG) : Nat := (P.map fun g => g.2.1.length).sum
theorem lenP_step {P : List RG} {i : Nat} {g : RG} (h : P[i]? = some g) : lenP (P.take (i + 1)) = lenP (P.take i) + g.2.1.length := by
  rw [List.take_add_one, h]
  simp [lenP]
theorem lenP_take_le (P : List RG) (i : Nat) : lenP (P.take i) ≤ lenP P := by
  have : lenP P = lenP (P.take i) + lenP (P.drop i) := by
    unfold lenP
    rw [← List.sum_append, ← List.map_append, List.take_append_drop]
  omega
theorem Mk.oneL2 {l : List Nat} (hw : ∀ x ∈ l, x < 18446744073709551616) (hn : l.length ≤ 1099511627776) : Mk (Go.Proofs.YtbplehaogncjoaaGreatDoor.oneL l) l ∧ (Go.Proofs.YtbplehaogncjoaaGreatDoor.oneL l).noE := by
  have key : ∀ (l : List Nat) (S : Sh) (L : List Nat), Mk S L → S.noE → (∀ x ∈ l, x < 18446744073709551616) → L.length + l.length ≤ 1099511627776 → Mk (l.foldl oneStep S) (L ++ l) ∧ (l.foldl oneStep S).noE := by
    intro l
    induction l with
    | nil => intro S L h1 h2 _ _; rw [List.append_nil]; exact ⟨h1, h2⟩
    | cons x l ih =>
      intro S L h1 h2 hw hn
      rw [List.length_cons] at hn
      have hx := hw x (List.mem_cons_self ..)
      have hw' := fun y hy => hw y (List.mem_cons_of_mem _ hy)
      have e : oneStep S x = S.merge (Sh.one x) := by
        unfold oneStep
        rw [if_neg (by rw [h1.s]; dsimp only; omega)]
      show Mk (l.foldl oneStep (oneStep S x)) (L ++ x :: l) ∧ (l.foldl oneStep (oneStep S x)).noE
      rw [e, show L ++ x :: l = (L ++ [x]) ++ l by simp]
      exact ih _ _ (h1.merge (Mk.one hx) (by rw [List.length_singleton]; omega)) (h1.noE (Mk.one hx) h2) hw' (by rw [List.length_append, List.length_singleton]; omega)
  exact key l Sh.zero [] Mk.zero (fun _ => ⟨rfl, rfl⟩) hw (by simpa using hn)
theorem GRc.at1 {w : World} {e lo i m c : Nat} {X : List Nat} {a : Option Addr} {l : List Value} {v : Value} (h : GRc w e 1 lo X (.slice a m c) m l) (hg : l[i]? = some v) : ∃ q, a = some ⟨q, 0, none⟩ ∧ w.cell? ⟨q, 0 + (i : Int).toNat * 1, none⟩ = some v := by
  rcases own_cases h.1 with ⟨_, _, hx⟩ | ⟨q, cap, e1, _, _, hcell⟩
  · rw [hx] at hg; simp at hg
  · cases e1
    refine ⟨q, rfl, ?_⟩
    rw [show 0 + (i : Int).toNat * 1 = i by omega]
    exact hcell _ _ hg
theorem GRc.mono00 {w : World} {e es lo m : Nat} {v : Value} {l : List Value} (h : GRc w e es lo [] v m l) : GRc w e es 0 [] v m l := ⟨h.1, fun b hb => ⟨Nat.zero_le _, (h.2 b hb).2⟩⟩
theorem ok_inj {S T : Sh} {a b : Bool} (h : (Except.ok (S, a) : Except Nat (Sh × Bool)) = .ok (T, b)) : S = T := by injection h with h; injection h
theorem ok_tf {S T : Sh} : (Except.ok (S, true) : Except Nat (Sh × Bool)) ≠ .ok (T, false) := fun h => by injection h with h; injection h with _ h; cases h
theorem ok_err {S : Sh × Bool} {e : Nat} : (Except.ok S : Except Nat (Sh × Bool)) ≠ .error e := fun h => by cases h
theorem cpL_take {G : List RG} {i : Nat} {x : List UInt8} (h : (nmL G)[i]? = some x) : (cpL G).take (i + 1) = (cpL G).take i ++ [(⟨x.toArray⟩, encS (totS ⟨x.toArray⟩ G))] := by
  unfold cpL
  rw [List.take_add_one, List.getElem?_map, h]; rfl
theorem cpL_len (G : List RG) : (cpL G).length = (nmL G).length := by unfold cpL; rw [List.length_map]
/-- Made again, a log is as it was made. -/
theorem cp_again {G K : List RG} (h : CpG G) (hK : tellG K = cpL G) : CpG K ∧ cpL K = cpL G ∧ ∀ x ∈ nmL G, totW ⟨x.toArray⟩ K = .ok (totS ⟨x.toArray⟩ G, true) := by
  have hn : nmS K = nmL G := by
    have : nmS K = (tellG K).map fun p => p.1.data.toList := by unfold nmS tellG; rw [List.map_map]; rfl
    rw [this, hK]
    unfold cpL
    rw [List.map_map]
    conv => rhs; rw [← List.map_id (nmL G)]
    refine List.map_congr_left fun x _ => ?_
    simp
  have hn2 := nmL_again hn
  have ht := tot_again (T := fun x => totS ⟨x.toArray⟩ G) hK (nmL_lt G) (fun x hx => by
    obtain ⟨_, _, _, a, b, c⟩ := h.t x hx
    exact ⟨a, b, c⟩)
  have es : ∀ x ∈ nmL G, totS ⟨x.toArray⟩ K = totS ⟨x.toArray⟩ G := fun x hx => by
    conv => lhs; unfold totS
    rw [ht x hx]
  refine ⟨⟨fun x hx => ?_, fun x hx => ?_, ?_⟩, ?_, ht⟩
  · rw [hn2] at hx
    rw [es x hx, ht x hx]
    exact ⟨rfl, (h.t x hx).2⟩
  · rw [hn2] at hx
    exact h.n x hx
  · have e1 := tellG_len K
    rw [hK, cpL_len] at e1
    have := nmL_len G
    have := h.len
    omega
  · unfold cpL
    rw [hn2]
    exact List.map_congr_left fun x hx => by rw [es x hx]
namespace Sx
theorem wpAnyH_sub {P : Program} {md : Region.Mode} {ops : Array Oper} {Q : Exit → Act → World → Prop} {S S' : World → Prop} (hSS : ∀ w, S' w → S w) : ∀ (fuel : Nat) (listed : Array Bool) (a : Act) (w : World), wpAnyH P md ops Q S' fuel listed a w → wpAnyH P md ops Q S fuel listed a w
  | 0, _, _, _, h => h
  | fuel + 1, _, _, _, h => ⟨h.1, fun i hi => wpOp_mono (fun a' w' h' => ⟨hSS _ h'.1, wpAnyH_sub hSS fuel _ a' w' h'.2⟩) (h.2 i hi)⟩
theorem WH.narrow {P : Program} {ops : Array Oper} {K : KK} {S S' : World → Prop} {fuel : Nat} {listed : Array Bool} {n : Nat} {D : List Deferred} {s : Sl} {w : World} (hSS : ∀ w, S' w → S w) (k : WH P ops K S' fuel listed n D s w) : WH P ops K S fuel listed n D s w := fun a ha => wpAnyH_sub hSS _ _ _ _ (k a ha)
end Sx

theorem l22laid2_spec (a : Option Addr) (P : List RG) (cp : Nat) (w : World) (hP : RW w a (recC P)) (hN : PutM w P) (hg0 : GW w) (hSum : lenP P ≤ 1099511627776) : Ret Tryz.prog 15 [.slice a P.length cp] w fun u w' => (∃ bl G vk, u = .tuple [.pointer (some ⟨bl, 0, none⟩), vk].toArray ∧ LgM w.heap.size w' bl G ∧ GoodG G ∧ (∃ M, GM G M ∧ M ≤ 1099511627776) ∧ G.length ≤ 100 ∧ w.heap.size ≤ bl) ∧ Chg [] w w' := by
 have hch : Chg [] w w := Chg.refl _ _;refine zE1 Tryz.func15 rfl ?_;refine Sr fun _ kh1 => za rfl (za rfl (zz (kh1 (Sr fun _ kh3 => ?_))));refine WL.call hasF9 rfl rfl (stNew_spec _) fun v w1 h' => ?_;obtain ⟨⟨bl, rfl, hbl0, hgel⟩, hC⟩ := h';have hgel : w.heap.size ≤ bl := Nat.le_trans hch.size hgel;have hL : LgM w.heap.size _ bl [] := LgM.new hbl0;have hch := hch.ta hC;refine za rfl (zz (kh3 (zc fun _ kh5 => Sr fun _ kh6 => zm rfl ?_)));refine WL.ev (Ev.eqlPtrNil rfl rfl) rfl ?_;refine zz (kh6 ?_);refine CW.condF rfl ?_;refine zkk ?_;refine kh5 (Sr fun _ kh8 => za rfl (zz (kh8 (zc fun _ kh10 => Sr fun _ kh11 => za rfl (zz (kh11 ?_))))));refine CW.block ?_;refine CW.loop (S := fun g : Nat × List RG × Value × Nat × List Value => [(0, .slice a P.length cp), (4, .pointer (some ⟨bl, 0, none⟩)), (5, g.2.2.1), (6, .int .i64 (g.1 : Int))]) (Inv := fun g w1 => g.1 ≤ P.length ∧ g.2.2.2.1 ≤ g.1 ∧ g.1 ≤ 100 ∧ LgM w.heap.size w1 bl g.2.1 ∧ GoodG g.2.1 ∧ (∃ M, GM g.2.1 M ∧ M ≤ lenP (P.take g.1)) ∧ g.2.1.length ≤ g.1 ∧ GRc w1 75 2 w.heap.size [] g.2.2.1 g.2.2.2.1 g.2.2.2.2 ∧ Chg [] w w1) (mu := fun g => P.length - g.1) ((0, [], .slice none 0 0, 0, [])) ?_ ?_ ?_
 ·exact ⟨Nat.zero_le _, Nat.le_refl _, Nat.zero_le _, hL, GoodG.nil, ⟨0, GM.nil, Nat.zero_le _⟩, Nat.le_refl _, GRc.nil, hch⟩
 ·exact SLp
 ·rintro ⟨i, G, vk, m, lk⟩ wr ⟨hi, hmi, hi100, hL, hGd, hGM, hGl, hgk, hch⟩;dsimp only at hi hmi hi100 hL hGd hGM hGl hgk;obtain ⟨ak, ck, rfl, hcapk, hrk, -⟩ := hgk.row;dsimp only;refine zc fun _ kh13 => Sr fun _ kh14 => zm rfl (zm rfl (zn rfl ?_));refine WL.ev (Ev.lss rfl rfl) rfl ?_;refine zm rfl ?_;refine zb ?_ ?_<;>intro hg1<;>try simp only [qs] at hg1
  ·refine zw rfl (zm rfl (zw rfl ?_));refine WL.ev (Ev.lss rfl rfl) rfl ?_
   refine zt rfl rfl (zz (kh14 ?_));refine zy rfl ?_ ?_<;>intro hc2<;>try simp only [qs] at hc2
   ·have hi99 : i < 100 := by have := hc2; omega
    have hip : i < P.length := by omega
    obtain ⟨⟨nm, l, dv⟩, hg⟩ : ∃ g, P[i]? = some g := ⟨_, List.getElem?_eq_getElem hip⟩;have hm := List.mem_of_getElem? hg;obtain ⟨ad, rfl, -⟩ := RW.pair hP hg;obtain ⟨ad2, e2, hcell⟩ := RW.pair (hP.keep0 hch) hg;cases e2;obtain ⟨⟨al, cl, rfl, hcapl, hrl⟩, hWl, hll⟩ : NF w dv l := hN _ hm;have hsp := lenP_step hg;have hsl := lenP_take_le P (i + 1);dsimp only at hsp;obtain ⟨hMk, hno⟩ := Mk.oneL2 hWl (by omega);refine zkk ?_;refine kh13 (zc fun _ kh16 => ?_);refine CW.block ?_;refine Sr fun _ kh17 => zm rfl (zm rfl ?_);refine WL.ev (Ev.indexAddrG rfl rfl (by omega) (by omega)) rfl ?_;refine WL.ev (Ev.fieldAddrG rfl) rfl ?_;refine WL.ev (Ev.load (v := .slice al l.length cl) rfl rfl (hcell 1 _ rfl)) rfl ?_;refine WL.call hasF10 rfl rfl (l22one_spec al l cl _ (hrl.keep0 hch) hWl hll (hg0.keep hch (fun b hb => by cases hb))) fun v w2 h' => ?_;obtain ⟨⟨bs1, rfl, hbs, hges⟩, hC⟩ := h';have hch := hch.ta hC;have hL := hL.keep0 hC;have hgk := hgk.keep0 hC;refine za rfl (zz (kh17 (zc fun _ kh19 => Sr fun _ kh20 => zm rfl ?_)));refine WL.ev (Ev.eqlPtrNil rfl rfl) rfl ?_;refine zz (kh20 ?_);refine CW.condF rfl ?_;refine zkk ?_;refine kh19 (Sr fun _ kh22 => zm rfl (zm rfl (zm rfl ?_)));refine WL.ev (Ev.indexAddrG rfl rfl (by omega) (by omega)) rfl ?_;refine WL.ev (Ev.fieldAddrG rfl) rfl ?_;refine WL.ev (Ev.load (v := .string nm) rfl rfl ((hP.keep0 hch |> fun h => (RW.pair h hg).elim fun _ q => by cases q.1; exact q.2 0 _ rfl))) rfl ?_;refine zm rfl ?_;refine WL.call hasF13 rfl rfl (stAppend2_spec bl w.heap.size G nm bs1 _ w _ hL hbs (hMk.wf hno) hMk.ex (Chg.any hch) (Nat.le_refl _) hch.size) fun v w3 h' => ?_;obtain ⟨h', v1, t1, hv1, hX⟩ := h';have hgk := hgk.keepLog hL hv1 hX;rcases h' with ⟨hbad, rfl, hL, hch⟩ | ⟨_, hbig, rfl, hL, hch⟩ | ⟨hbad, hle, rfl, ⟨dv9, hL⟩, hch⟩
    ·have hch := hch.drop hgel;refine zq rfl rfl (zz (kh22 ?_));refine CW.condF rfl ?_;refine zkk ?_;refine kh16 ?_;refine zR fun _ kr24 => ?_;refine zm rfl ?_;(first | refine zi rfl rfl ?_ | refine zo rfl rfl ?_);refine za rfl ?_;refine WL.nil (kr24 _ _ _ ?_);refine ⟨rfl, (i + 1, G, .slice ak m ck, m, lk), ?_, ?_, ?_⟩
     ·exact SLp
     ·exact ⟨by dsimp only; omega, by dsimp only; omega, by dsimp only; omega, hL, hGd, (by obtain ⟨M, h1, h2⟩ := hGM; exact ⟨M, h1, by dsimp only; omega⟩), by dsimp only; omega, hgk, hch⟩
     ·show P.length - (i + 1) < P.length - i; omega
    ·have hch := hch.drop hgel;refine zq rfl rfl (zz (kh22 ?_));refine CW.condF rfl ?_;refine zkk ?_;refine kh16 ?_;refine zR fun _ kr25 => ?_;refine zm rfl ?_;(first | refine zi rfl rfl ?_ | refine zo rfl rfl ?_);refine za rfl ?_;refine WL.nil (kr25 _ _ _ ?_);refine ⟨rfl, (i + 1, G, .slice ak m ck, m, lk), ?_, ?_, ?_⟩
     ·exact SLp
     ·exact ⟨by dsimp only; omega, by dsimp only; omega, by dsimp only; omega, hL, hGd, (by obtain ⟨M, h1, h2⟩ := hGM; exact ⟨M, h1, by dsimp only; omega⟩), by dsimp only; omega, hgk, hch⟩
     ·show P.length - (i + 1) < P.length - i; omega
    ·have hch := hch.drop hgel;have hGd2 := hGd.snoc hbad (hMk.dec hno) hL.tot;refine zq rfl rfl (zz (kh22 ?_));refine CW.condT rfl ?_;refine zR fun _ kr26 => ?_;refine zm rfl (zm rfl (zm rfl ?_));refine WL.ev (Ev.indexAddrG rfl rfl (by omega) (by omega)) rfl ?_;refine WL.ev (Ev.loadAgg (cs := [.string nm, .slice al l.length cl]) rfl rfl rfl (by obtain ⟨ad3, e3, q⟩ := RW.pair (hP.keep0 hch) hg; cases e3; exact q)) rfl ?_;refine WL.buildSlice (m := 1) (cs := [.string nm, .slice al l.length cl]) (by decide) (by decide) rfl (by kernel_rfl) rfl fun b43 w43 hn43 => ?_;have hb43 := RW.of_heap hn43.at_;have hgk := hgk.keep0 hn43.chg;have hL := hL.keep0 hn43.chg;have hch := hch.trans (Chg.any hn43.chg);refine WL.growC (news := [.string nm, .slice al l.length cl]) (mm := 1) (by rfl) (by decide) (by intro u hu; simp only [List.mem_cons, List.not_mem_nil, or_false] at hu; rcases hu with rfl | rfl <;> rfl) rfl rfl hgk rfl hb43 (by have := hch.size; omega) (by omega) (by omega) rfl fun v44 w44 hg44 hc44 => ?_;have hL := hL.keepRow hgk hc44;have hch := hgk.frame hc44 hch (Nat.le_refl _);have hgk := hg44;refine za rfl ?_;refine WL.nil (kr26 _ _ _ (kh16 ?_));refine zR fun _ kr27 => ?_;refine zm rfl ?_;(first | refine zi rfl rfl ?_ | refine zo rfl rfl ?_);refine za rfl ?_;refine WL.nil (kr27 _ _ _ ?_);refine ⟨rfl, (i + 1, G ++ [(nm, encS (oneL l), dv9)], v44, m + 1, lk ++ [.string nm, .slice al l.length cl]), ?_, ?_, ?_⟩
     ·exact SLp
     ·exact ⟨by dsimp only; omega, by dsimp only; omega, by dsimp only; omega, hL, hGd2, (by obtain ⟨M, h1, h2⟩ := hGM; exact ⟨M + l.length, GM.snoc h1 hMk hno, by dsimp only; omega⟩), by dsimp only; rw [List.length_append, List.length_singleton]; omega, hgk, hch⟩
     ·show P.length - (i + 1) < P.length - i; omega
   ·refine CW.exit ?_
    refine kh10 (Sr fun _ kh28 => zm rfl (zm rfl (za rfl (za rfl (zz (kh28 ?_))))));refine zr (zr2 rfl rfl rfl ?_);exact ⟨⟨bl, G, _, rfl, hL, hGd, (by obtain ⟨M, h1, h2⟩ := hGM; exact ⟨M, h1, Nat.le_trans h2 (Nat.le_trans (lenP_take_le P i) hSum)⟩), by omega, hgel⟩, hch⟩
  ·refine zv rfl (zv rfl (ze rfl rfl (zz (kh14 ?_))));refine CW.condF rfl ?_
   refine CW.exit ?_;refine kh10 (Sr fun _ kh30 => zm rfl (zm rfl (za rfl (za rfl (zz (kh30 ?_))))));refine zr (zr2 rfl rfl rfl ?_);exact ⟨⟨bl, G, _, rfl, hL, hGd, (by obtain ⟨M, h1, h2⟩ := hGM; exact ⟨M, h1, Nat.le_trans h2 (Nat.le_trans (lenP_take_le P i) hSum)⟩), by omega, hgel⟩, hch⟩

theorem stCompact_spec (b lo : Nat) (G : List RG) (w : World) (hL : LgM lo w b G) (hCp : CpG G) (hg0 : GW w) : Ret Tryz.prog 23 [.pointer (some ⟨b, 0, none⟩)] w fun u w' => (∃ (b2 : Nat) (G2 : List RG), u = .pointer (some ⟨b2, 0, none⟩) ∧ LgM w.heap.size w' b2 G2 ∧ tellG G2 = cpL G ∧ w.heap.size ≤ b2 ∧ totG G2 ≤ 142600) ∧ Chg [] w w' := by
 have hch : Chg [] w w := Chg.refl _ _;have hNl := nmL_len G;have hGl := hCp.len;refine zE1 Tryz.func23 rfl ?_;refine Sr fun _ kh1 => za rfl (zz (kh1 (Sr fun _ kh3 => ?_)));refine WL.call hasF9 rfl rfl (stNew_spec _) fun v w1 h' => ?_;obtain ⟨⟨b2, rfl, hbl0, hgel⟩, hC⟩ := h';have hgel : w.heap.size ≤ b2 := Nat.le_trans hch.size hgel;have hL2 : LgM w.heap.size _ b2 [] := LgM.new hbl0;have hch := hch.ta hC;refine za rfl (zz (kh3 (zc fun _ kh5 => Sr fun _ kh6 => zm rfl ?_)));refine WL.call hasF22 rfl rfl (stNames_spec b lo G _ (hL.keep0 hch)) fun v w2 h' => ?_;obtain ⟨hgn, hC⟩ := h';obtain ⟨an, cn, rfl, hcapn, hrn, -⟩ := hgn.row;have hgn := hgn.mono00;have hch := hch.ta hC;have hL2 := hL2.keep0 hC;refine zn rfl (zm rfl (zz (kh6 ?_)));refine CW.block ?_;refine CW.loop (S := fun g : Nat × List RG => [(0, .pointer (some ⟨b, 0, none⟩)), (3, .pointer (some ⟨b2, 0, none⟩)), (10, .slice an (nmL G).length cn), (11, .int .i64 ((nmL G).length : Int)), (12, .int .i64 (g.1 : Int))]) (Inv := fun g w1 => g.1 ≤ (nmL G).length ∧ LgM w.heap.size w1 b2 g.2 ∧ tellG g.2 = (cpL G).take g.1 ∧ totG g.2 ≤ g.1 * 1426 ∧ GRc w1 9 1 0 [] (.slice an (nmL G).length cn) (nmL G).length ((nmL G).map encStr) ∧ Chg [] w w1) (mu := fun g => (nmL G).length - g.1) ((0, [])) ?_ ?_ ?_
 ·exact ⟨Nat.zero_le _, hL2, rfl, Nat.zero_le _, hgn, hch⟩
 ·exact SLp
 ·rintro ⟨i, G2⟩ wr ⟨hi, hL2, htl, htt, hgn, hch⟩;dsimp only at hi hL2 htl htt;dsimp only;refine Sr fun _ kh8 => ?_;refine WL.ev (Ev.lss rfl rfl) rfl ?_;refine zz (kh8 (zc fun _ kh10 => ?_));refine zy rfl ?_ ?_<;>intro hc1<;>try simp only [qs] at hc1
  ·obtain ⟨x, hx⟩ : ∃ x, (nmL G)[i]? = some x := ⟨_, List.getElem?_eq_getElem (by omega)⟩
   have hxm := List.mem_of_getElem? hx;obtain ⟨t1, t2, t3, t4, t5, t6⟩ := hCp.t x hxm;have hxn := hCp.n x hxm;have hel := encS_len t3;obtain ⟨qn, rfl, hcx⟩ := hgn.at1 (by rw [List.getElem?_map, hx]; rfl : ((nmL G).map encStr)[i]? = some (Value.string ⟨x.toArray⟩));refine zkk ?_;refine kh10 (zc fun _ kh11 => ?_);refine CW.block ?_;refine Sr fun _ kh12 => ?_;refine WL.ev (Ev.indexAddr rfl rfl (by omega) (by omega)) rfl ?_;refine WL.ev (Ev.load (v := .string ⟨x.toArray⟩) rfl rfl hcx) rfl ?_;refine za rfl (zz (kh12 (Sr fun _ kh14 => zm rfl (zm rfl ?_))));refine WL.call hasF21 rfl rfl (stTotal_spec b lo G ⟨x.toArray⟩ _ (hL.keep0 hch) (hg0.keep hch (fun b hb => by cases hb))) fun v w3 h' => ?_;obtain ⟨hu, hC⟩ := h';rw [t1] at hu;rcases hu with ⟨S, bt, hS, rfl, hbt, hwt, _⟩ | ⟨S, hS, _⟩ | ⟨e, hS, _⟩
   rotate_left
   · exact absurd hS ok_tf
   · exact absurd hS ok_err
   obtain rfl := ok_inj hS;have hch := hch.ta hC;have hL2 := hL2.keep0 hC;have hgn := hgn.keep0 hC;refine zm rfl (zx rfl rfl (zx rfl rfl (za rfl (za rfl (zz (kh14 (Sr fun _ kh16 => zm rfl ?_)))))));refine WL.ev (Ev.neq rfl rfl) rfl ?_;rw [decide_eq_false (by simp)];refine zm rfl (zw rfl (zm rfl (zw rfl (zm rfl (zw rfl (zm rfl (zw rfl ?_)))))));refine WL.call hasF13 rfl rfl (stAppend2_spec b2 w.heap.size G2 ⟨x.toArray⟩ bt _ w _ hL2 hbt hwt t3 (Chg.any hch) (Nat.le_refl _) hch.size) fun v w4 h' => ?_;obtain ⟨h', v1, t1_, hv1, hX⟩ := h';have hgn := hgn.keepLog hL2 hv1 hX;rcases h' with ⟨hbad, _⟩ | ⟨_, hbig, _⟩ | ⟨_, hle, rfl, ⟨dv9, hL2⟩, hch⟩
   · exact absurd hbad (by omega)
   · omega
   have hch := hch.drop hgel;refine zw rfl ?_;refine WL.ev (Ev.neq rfl rfl) rfl ?_;rw [decide_eq_false (by simp)];refine ze rfl rfl (zz (kh16 ?_));refine CW.condF rfl ?_;refine zkk ?_;refine kh11 ?_;refine zR fun _ kr18 => ?_;(first | refine zi rfl rfl ?_ | refine zo rfl rfl ?_);refine zm rfl ?_;refine WL.nil (kr18 _ _ _ ?_);refine ⟨rfl, (i + 1, G2 ++ [(⟨x.toArray⟩, encS (totS ⟨x.toArray⟩ G), dv9)]), ?_, ?_, ?_⟩
   ·exact SLp
   ·exact ⟨by dsimp only; omega, hL2, by rw [tellG_snoc, htl, cpL_take hx], by dsimp only; rw [totG_snoc]; unfold szG; dsimp only; omega, hgn, hch⟩
   ·show (nmL G).length - (i + 1) < (nmL G).length - i; omega
  ·have hiX : i = (nmL G).length := by omega
   subst hiX;rw [List.take_of_length_le (by rw [cpL_len]; exact Nat.le_refl _)] at htl;refine CW.exit ?_;refine kh5 (Sr fun _ kh19 => zm rfl (za rfl (zz (kh19 ?_))));refine zr (zr1 rfl rfl ?_);exact ⟨⟨b2, G2, rfl, hL2, htl, hgel, by omega⟩, hch⟩

end

/- The law StoreCompacts. No condition. -/
section
open Go Sx Wd Go.Sort Fl

theorem Sx.Chg.keep0 {w0 w w' : World} (h : Chg [] w0 w) (hc : Chg [] w w') : Chg [] w0 w' := h.trans hc
theorem LgM.keepLog {lo lo2 : Nat} {w w' : World} {b b2 : Nat} {G G2 : List RG} {v0 t0 : Value} (h : LgM lo w b G) (h2 : LgM lo2 w b2 G2) (hv : BK w b2 57 [v0, t0]) (hc : Chg (b2 :: v0.ownBlock.toList) w w') (hne : b ≠ b2) (hfar : ∀ y ∈ v0.ownBlock.toList, y < lo) : LgM lo w' b G := by
  obtain ⟨⟨vv, c1, c2⟩, _⟩ := h2
  have e9 := BK.inj hv c1
  injection e9 with e9 _
  subst e9
  obtain ⟨⟨v, a1, a2⟩, a3, a4⟩ := h
  refine ⟨⟨v, a1.keep hc fun hm => ?_, a2.keepV hc fun y hy q => ?_⟩, fun g hg => ⟨(a3 g hg).1.keepV hc fun y hy q => ?_, (a3 g hg).2⟩, a4⟩
  · rcases List.mem_cons.1 hm with e | e
    · exact hne e
    · exact c2.notMB a1 (by decide) e
  · rcases List.mem_cons.1 hy with e | e
    · subst e; exact a2.notBK hv (by decide) q
    · have := hfar y e
      have := (a2.2 y q).1
      omega
  · rcases List.mem_cons.1 hy with e | e
    · subst e; exact (a3 g hg).1.notBK hv (by decide) q
    · exact c2.sep (a3 g hg).1 (by decide) y e q
theorem tell_nm {A : List RG} {l : List (ByteArray × List Nat)} (h : tellG A = l) {i : Nat} {p : ByteArray × List Nat} (hp : l[i]? = some p) : ∃ g, A[i]? = some g ∧ g.1 = p.1 := by
  rw [← h] at hp
  unfold tellG at hp
  rw [List.getElem?_map] at hp
  cases hb : A[i]? with
  | none => rw [hb] at hp; cases hp
  | some g =>
    rw [hb] at hp
    simp only [Option.map_some, Option.some.injEq] at hp
    exact ⟨g, rfl, by rw [← hp]⟩
theorem bA_ne {X Y : List Nat} (hX : B8 X) (hY : B8 Y) (h : X.length ≠ Y.length) : bA X ≠ bA Y := fun e => h (by
  have := congrArg (fun b => (sB b).length) e
  simp only [sB_bA hX, sB_bA hY] at this
  exact this)
theorem bytG_B8' {lo : Nat} {w : World} {b : Nat} {G : List RG} (h : LgM lo w b G) : B8 (bytG G) := bytG_B8 fun g hg => (h.dat g hg).2
def lx : List Nat := [4619567317775286272]
theorem wx : ∀ x ∈ lx, x < 18446744073709551616 := by decide
theorem sBx : (sB ⟨#[120]⟩).length = 1 := rfl

theorem StoreCompacts_spec (a : Option Addr) (P : List RG) (cp : Nat) (w : World) (ea : Nat → Addr) (hP : RW w a (recC P)) (hN : PutM w P) (hSum : lenP P ≤ 1099511627776) (hg0 : GW w) (hE0 : GE w (evV ea)) : Ret Tryz.prog 7 [.slice a P.length cp] w fun u w' => u = .bool true ∧ Chg [] w w' := by
 have hch : Chg [] w w := Chg.refl _ _;refine zE1 Tryz.func7 rfl ?_;refine Sr fun _ kh1 => za rfl (zz (kh1 (Sr fun _ kh3 => ?_)));refine WL.call hasF8 rfl rfl (l22live_spec _ ea (hg0.keep hch (fun b hb => by cases hb)) (hE0.keep0 hch)) fun v w1 h' => ?_;obtain ⟨rfl, hC⟩ := h';have hch := hch.ta hC;refine za rfl (zz (kh3 (Sr fun _ kh5 => zm rfl ?_)));refine WL.call hasF15 rfl rfl (l22laid2_spec a P cp _ (hP.keep0 hch) (fun g hg => (hN g hg).keep0 hch) (hg0.keep hch (fun b hb => by cases hb)) hSum) fun v w2 h' => ?_;obtain ⟨⟨bl, G, vk, rfl, hL, hGd, hGM, hG100, hgel⟩, hC⟩ := h';have hCp : CpG G := by obtain ⟨M, h1, h2⟩ := hGM; exact h1.cp h2 hGd hG100
 have hNl := nmL_len G;have hch := hch.ta hC;refine zm rfl (zx rfl rfl (zx rfl rfl (za rfl (za rfl (zz (kh5 (zc fun _ kh7 => Sr fun _ kh8 => zm rfl ?_)))))));refine WL.ev (Ev.eqlPtrNil rfl rfl) rfl ?_;refine zz (kh8 ?_);refine CW.condF rfl ?_;refine zkk ?_;refine kh7 (Sr fun _ kh10 => zm rfl ?_);refine WL.call hasF14 rfl rfl (stBytes_spec bl _ G _ hL) fun v w3 h' => ?_;obtain ⟨hg27, hC⟩ := h';obtain ⟨a27, c27, rfl, hcap27, hr27⟩ := hg27.row;have hch := hch.ta hC;have hL := hL.keep0 hC;refine za rfl (zz (kh10 (Sr fun _ kh12 => zm rfl ?_)));refine WL.call hasF23 rfl rfl (stCompact_spec bl _ G _ hL hCp (hg0.keep hch (fun b hb => by cases hb))) fun v w4 h' => ?_;obtain ⟨⟨b2, G2, rfl, hL2, hG2, hge2, htG2⟩, hC⟩ := h';have hLk := hL;have hrk := hr27;have hchk := hch;have hck := hC;obtain ⟨hCp2, hcc, htt⟩ := cp_again hCp hG2;have hch := hch.ta hC;have hL := hL.keep0 hC;have hr27 := hr27.keep0 hC;refine za rfl (zz (kh12 (zc fun _ kh14 => Sr fun _ kh15 => zm rfl ?_)));refine WL.ev (Ev.eqlPtrNil rfl rfl) rfl ?_;refine zz (kh15 ?_);refine CW.condF rfl ?_;refine zkk ?_;refine kh14 (Sr fun _ kh17 => zm rfl ?_);refine WL.call hasF23 rfl rfl (stCompact_spec b2 _ G2 _ hL2 hCp2 (hg0.keep hch (fun b hb => by cases hb))) fun v w5 h' => ?_;obtain ⟨⟨b3, G3, rfl, hL3, hG3, hge3, _⟩, hC⟩ := h';have hbk2 := hL2.blocks;obtain ⟨vm, tm, hvm, hvl⟩ := hbk2;have hb2l := hL2.lt;have hG32 : tellG G3 = tellG G2 := by rw [hG3, hcc, hG2]
 have hvm := hvm.keep0 hC;have hch := hch.ta hC;have hL := hL.keep0 hC;have hr27 := hr27.keep0 hC;have hL2 := hL2.keep0 hC;have hck := hck.keep0 hC;refine za rfl (zz (kh17 (zc fun _ kh19 => Sr fun _ kh20 => zm rfl ?_)));refine WL.ev (Ev.eqlPtrNil rfl rfl) rfl ?_;refine zz (kh20 ?_);refine CW.condF rfl ?_;refine zkk ?_;refine kh19 (Sr fun _ kh22 => zm rfl ?_);refine WL.call hasF22 rfl rfl (stNames_spec bl _ G _ hL) fun v w6 h' => ?_;obtain ⟨hgn, hC⟩ := h';obtain ⟨an, cn, rfl, hcapn, hrn, -⟩ := hgn.row;have hgn := hgn.mono00;have hch := hch.ta hC;have hL := hL.keep0 hC;have hr27 := hr27.keep0 hC;have hL2 := hL2.keep0 hC;have hck := hck.keep0 hC;have hL3 := hL3.keep0 hC;have hvm := hvm.keep0 hC;refine za rfl (zz (kh22 (Sr fun _ kh24 => zm rfl ?_)));refine WL.call hasF18 rfl rfl (stRecords_spec b2 _ G2 _ hL2) fun v w7 h' => ?_;obtain ⟨⟨GC, hGC, hgC, hdC⟩, hC⟩ := h';have hGC2 : tellG GC = cpL G := hGC.trans hG2;have hGCl : GC.length = (nmL G).length := by rw [← tellG_len GC, hGC2, cpL_len]
 have hG2l : GC.length = G2.length := by rw [← tellG_len GC, hGC, tellG_len]
 rw [← hG2l] at hgC;obtain ⟨aC, cC, rfl, hcapC, hrC, -⟩ := hgC.row;have hgC := hgC.mono00;have hch := hch.ta hC;have hL := hL.keep0 hC;have hr27 := hr27.keep0 hC;have hL2 := hL2.keep0 hC;have hck := hck.keep0 hC;have hL3 := hL3.keep0 hC;have hvm := hvm.keep0 hC;have hgn := hgn.keep0 hC;refine za rfl (zz (kh24 (zc fun _ kh26 => zc fun _ kh27 => ?_)));refine CW.regionHC 14 rfl hmix fun kR28 kr28 hS hdr => ?_;have hch := hch.ta hdr;have hL := hL.keep0 hdr;have hr27 := hr27.keep0 hdr;have hL2 := hL2.keep0 hdr;have hck := hck.keep0 hdr;have hL3 := hL3.keep0 hdr;have hvm := hvm.keep0 hdr;have hgn := hgn.keep0 hdr;have hgC := hgC.keep0 hdr;refine wh 0 rfl hS (fun _ _ => Ev.move rfl) (wh 1 rfl hS (fun _ _ => Ev.len rfl) (wh 2 rfl hS (fun _ _ => Ev.move rfl) (wh 3 rfl hS (fun _ _ => Ev.len rfl) (wh 4 rfl hS (fun _ _ => Ev.neq rfl rfl) ?_))));rw [decide_eq_false (by omega)];refine wh 5 rfl hS (fun _ _ => Ev.move rfl) ?_;refine WH.takeG 6 rfl (by kernel_rfl) (by kernel_rfl) (by kernel_rfl) rfl rfl rfl rfl hS (fun w' hw' => Ev.move rfl) rfl ?_;refine WH.takeG 9 rfl (by kernel_rfl) (by kernel_rfl) (by kernel_rfl) rfl rfl rfl rfl hS (fun w' hw' => Ev.move rfl) rfl ?_;refine WH.oneCallG 7 rfl (by kernel_rfl) rfl rfl rfl rfl hasF14 rfl rfl (stBytes_spec b3 _ G3 _ hL3) fun v w8 h' => ?_;obtain ⟨hg47, hC⟩ := h';obtain ⟨a47, c47, rfl, hcap47, hr47⟩ := hg47.row;have hch := hch.ta hC;have hL := hL.keep0 hC;have hr27 := hr27.keep0 hC;have hL2 := hL2.keep0 hC;have hck := hck.keep0 hC;have hL3 := hL3.keep0 hC;have hvm := hvm.keep0 hC;have hgn := hgn.keep0 hC;have hgC := hgC.keep0 hC;have hS := hS.trans hC;refine ⟨hS, ?_⟩;refine WH.narrow (S' := Chg [] w8) (fun w' hw' => hS.trans hw') ?_;have hS : Chg [] w8 w8 := Chg.refl _ _;refine WH.takeG 8 rfl (by kernel_rfl) (by kernel_rfl) (by kernel_rfl) rfl rfl rfl rfl hS (fun w' hw' => Ev.toStr (l := bytG G3) rfl rfl (hr47.keep0 hw')) rfl ?_;refine WH.oneCallG 10 rfl (by kernel_rfl) rfl rfl rfl rfl hasF14 rfl rfl (stBytes_spec b2 _ G2 _ hL2) fun v w9 h' => ?_;obtain ⟨hg50, hC⟩ := h';obtain ⟨a50, c50, rfl, hcap50, hr50⟩ := hg50.row;have hch := hch.ta hC;have hL := hL.keep0 hC;have hr27 := hr27.keep0 hC;have hL2 := hL2.keep0 hC;have hck := hck.keep0 hC;have hL3 := hL3.keep0 hC;have hvm := hvm.keep0 hC;have hgn := hgn.keep0 hC;have hgC := hgC.keep0 hC;have hS := hS.trans hC;refine ⟨hS, ?_⟩;refine WH.narrow (S' := Chg [] w9) (fun w' hw' => hS.trans hw') ?_;have hS : Chg [] w9 w9 := Chg.refl _ _;refine WH.takeG 11 rfl (by kernel_rfl) (by kernel_rfl) (by kernel_rfl) rfl rfl rfl rfl hS (fun w' hw' => Ev.toStr (l := bytG G2) rfl rfl (hr50.keep0 hw')) rfl ?_;refine WH.takeG 12 rfl (by kernel_rfl) (by kernel_rfl) (by kernel_rfl) rfl rfl rfl rfl hS (fun w' hw' => Ev.neqStr rfl rfl) rfl ?_;rw [decide_eq_false (by rw [bytG_tell hG32]; simp)];refine wh 13 rfl hS (fun _ _ => Ev.pickF rfl rfl rfl) ?_
 refine WH.done (by kernel_rfl) (kr28 _ _ _ ?_);refine kh27 ?_;refine CW.condF rfl ?_;refine zkk ?_;refine kh26 (zc fun _ kh29 => Sr fun _ kh30 => za rfl (zz (kh30 ?_)));refine CW.block ?_;refine CW.loop (S := fun i : Nat => [(3, .bool true), (4, .pointer (some ⟨bl, 0, none⟩)), (6, .slice a27 (bytG G).length c27), (7, .pointer (some ⟨b2, 0, none⟩)), (8, .pointer (some ⟨b3, 0, none⟩)), (9, .slice an (nmL G).length cn), (10, .slice aC GC.length cC), (11, .int .i64 (i : Int))]) (Inv := fun i w1 => i ≤ (nmL G).length ∧ Chg [] w9 w1) (mu := fun i => (nmL G).length - i) (0) ?_ ?_ ?_
 ·exact ⟨Nat.zero_le _, Chg.refl _ _⟩
 ·exact SLp
 ·rintro i wr ⟨hi, hcB⟩;have hch := hch.trans hcB;have hL := hL.keep0 hcB;have hL2 := hL2.keep0 hcB;have hL3 := hL3.keep0 hcB;have hgn := hgn.keep0 hcB;have hgC := hgC.keep0 hcB;have hr27 := hr27.keep0 hcB;have hvm := hvm.keep0 hcB;have hck := hck.keep0 hcB;refine zc fun _ kh32 => Sr fun _ kh33 => zm rfl (zm rfl (zn rfl ?_));refine WL.ev (Ev.lss rfl rfl) rfl ?_;refine zz (kh33 ?_);refine zy rfl ?_ ?_<;>intro hc1<;>try simp only [qs] at hc1
  ·obtain ⟨x, hx⟩ : ∃ x, (nmL G)[i]? = some x := ⟨_, List.getElem?_eq_getElem (by omega)⟩
   have hxm := List.mem_of_getElem? hx;obtain ⟨t1, t2, t3, t4, t5, t6⟩ := hCp.t x hxm;have hxv : ((nmL G).map encStr)[i]? = some (Value.string ⟨x.toArray⟩) := by rw [List.getElem?_map, hx]; rfl
   have hcpx : (cpL G)[i]? = some (⟨x.toArray⟩, encS (totS ⟨x.toArray⟩ G)) := by unfold cpL; rw [List.getElem?_map, hx]; rfl
   obtain ⟨⟨nmx, dx, dvx⟩, hgx, ex1⟩ := tell_nm hGC2 hcpx;dsimp only at ex1;subst ex1;obtain ⟨qn, rfl, hcx⟩ := hgn.at1 hxv;obtain ⟨qC, rfl, -⟩ := hgC.at2 hgx;refine zkk ?_;refine kh32 (zc fun _ kh35 => ?_);refine CW.block ?_;refine Sr fun _ kh36 => zm rfl (zm rfl (zm rfl ?_));refine WL.ev (Ev.indexAddr rfl rfl (by omega) (by omega)) rfl ?_;refine WL.ev (Ev.load (v := .string ⟨x.toArray⟩) rfl rfl hcx) rfl ?_;refine WL.call hasF21 rfl rfl (stTotal_spec bl _ G ⟨x.toArray⟩ _ hL (hg0.keep hch (fun b hb => by cases hb))) fun v w10 h' => ?_;obtain ⟨hu, hC⟩ := h';rw [t1] at hu;rcases hu with ⟨S, bt, hS, rfl, hbt, hwbt, _⟩ | ⟨S, hS, _⟩ | ⟨e, hS, _⟩
   rotate_left
   · exact absurd hS ok_tf
   · exact absurd hS ok_err
   obtain rfl := ok_inj hS;have hcB := hcB.ta hC;have hch := hch.ta hC;have hL2 := hL2.keep0 hC;have hgn := hgn.keep0 hC;have hgC := hgC.keep0 hC;refine zm rfl (zx rfl rfl (zx rfl rfl (za rfl (za rfl (zz (kh36 (Sr fun _ kh38 => zm rfl (zm rfl (zm rfl ?_)))))))));refine WL.ev (Ev.indexAddr rfl rfl (by omega) (by omega)) rfl ?_;refine WL.ev (Ev.load (v := .string ⟨x.toArray⟩) rfl rfl (by obtain ⟨_, e9, q9⟩ := hgn.at1 hxv; cases e9; exact q9)) rfl ?_;refine WL.call hasF21 rfl rfl (stTotal_spec b2 _ G2 ⟨x.toArray⟩ _ hL2 (hg0.keep hch (fun b hb => by cases hb))) fun v w11 h' => ?_;obtain ⟨hu, hC⟩ := h';rw [htt x hxm] at hu;rcases hu with ⟨S, bt2, hS, rfl, hbt2, hwbt2, _⟩ | ⟨S, hS, _⟩ | ⟨e, hS, _⟩
   rotate_left
   · exact absurd hS ok_tf
   · exact absurd hS ok_err
   obtain rfl := ok_inj hS;have hcB := hcB.ta hC;have hgn := hgn.keep0 hC;have hgC := hgC.keep0 hC;have hbt := hbt.keep0 hC;refine zm rfl (zx rfl rfl (zx rfl rfl (za rfl (za rfl (zz (kh38 (zc fun _ kh40 => ?_)))))));refine CW.regionHC 35 rfl hmix fun kR41 kr41 hS hdr => ?_;have hcB := hcB.ta hdr;have hgn := hgn.keep0 hdr;have hgC := hgC.keep0 hdr;have hbt := hbt.keep0 hdr;have hbt2 := hbt2.keep0 hdr;have hgC_r := hgC;have hgn_r := hgn;refine wh 0 rfl hS (fun _ _ => Ev.move rfl) (wh 1 rfl hS (fun _ _ => Ev.move rfl) (wh 2 rfl hS (fun _ _ => Ev.indexAddr rfl rfl (by omega) (by omega)) (wh 3 rfl hS (fun _ _ => Ev.fieldAddr rfl) (wh 4 rfl hS (fun _ hw' => Ev.load (v := .string ⟨x.toArray⟩) rfl rfl (by obtain ⟨_, e9, q9⟩ := (hgC_r.keep0 hw').at2 hgx; cases e9; have := q9 0 _ rfl; rw [add_addr] at this; exact this)) (wh 5 rfl hS (fun _ _ => Ev.move rfl) (wh 6 rfl hS (fun _ _ => Ev.move rfl) (wh 7 rfl hS (fun _ _ => Ev.indexAddr rfl rfl (by omega) (by omega)) (wh 8 rfl hS (fun _ hw' => Ev.load (v := .string ⟨x.toArray⟩) rfl rfl (by obtain ⟨_, e9, q9⟩ := (hgn_r.keep0 hw').at1 hxv; cases e9; exact q9)) (wh 9 rfl hS (fun _ _ => Ev.neqStr rfl rfl) ?_)))))))));rw [decide_eq_false (by simp)];refine wh 10 rfl hS (fun _ _ => Ev.move rfl) ?_;refine WH.takeG 11 rfl (by kernel_rfl) (by kernel_rfl) (by kernel_rfl) rfl rfl rfl rfl hS (fun w' hw' => Ev.move rfl) rfl ?_;refine WH.takeG 12 rfl (by kernel_rfl) (by kernel_rfl) (by kernel_rfl) rfl rfl rfl rfl hS (fun w' hw' => Ev.neq rfl rfl) rfl ?_;rw [decide_eq_false (by simp)];refine wh 13 rfl hS (fun _ _ => Ev.pickF rfl rfl rfl) (wh 14 rfl hS (fun _ _ => Ev.move rfl) ?_);refine WH.takeG 15 rfl (by kernel_rfl) (by kernel_rfl) (by kernel_rfl) rfl rfl rfl rfl hS (fun w' hw' => Ev.move rfl) rfl ?_;refine WH.takeG 16 rfl (by kernel_rfl) (by kernel_rfl) (by kernel_rfl) rfl rfl rfl rfl hS (fun w' hw' => Ev.neq rfl rfl) rfl ?_;rw [decide_eq_false (by simp)];refine wh 17 rfl hS (fun _ _ => Ev.pickF rfl rfl rfl) (wh 18 rfl hS (fun _ _ => Ev.move rfl) ?_);refine WH.takeG 19 rfl (by kernel_rfl) (by kernel_rfl) (by kernel_rfl) rfl rfl rfl rfl hS (fun w' hw' => Ev.move rfl) rfl ?_;refine WH.takeG 20 rfl (by kernel_rfl) (by kernel_rfl) (by kernel_rfl) rfl rfl rfl rfl hS (fun w' hw' => Ev.eqlPtrNil rfl rfl) rfl ?_;refine wh 21 rfl hS (fun _ _ => Ev.pickF rfl rfl rfl) (wh 22 rfl hS (fun _ _ => Ev.move rfl) ?_);refine WH.takeG 23 rfl (by kernel_rfl) (by kernel_rfl) (by kernel_rfl) rfl rfl rfl rfl hS (fun w' hw' => Ev.move rfl) rfl ?_;refine WH.takeG 24 rfl (by kernel_rfl) (by kernel_rfl) (by kernel_rfl) rfl rfl rfl rfl hS (fun w' hw' => Ev.eqlPtrNil rfl rfl) rfl ?_
   refine wh 25 rfl hS (fun _ _ => Ev.pickF rfl rfl rfl) (wh 26 rfl hS (fun _ _ => Ev.move rfl) ?_);refine WH.takeG 27 rfl (by kernel_rfl) (by kernel_rfl) (by kernel_rfl) rfl rfl rfl rfl hS (fun w' hw' => Ev.move rfl) rfl ?_;refine WH.takeG 30 rfl (by kernel_rfl) (by kernel_rfl) (by kernel_rfl) rfl rfl rfl rfl hS (fun w' hw' => Ev.move rfl) rfl ?_;refine WH.oneCallG 28 rfl (by kernel_rfl) rfl rfl rfl rfl hasF12 rfl rfl (shEncode_spec bt _ _ hbt hwbt t3) fun v w12 h' => ?_;obtain ⟨hg106, hC⟩ := h';obtain ⟨a106, c106, rfl, hcap106, hr106⟩ := hg106.row;have hcB := hcB.ta hC;have hbt2 := hbt2.keep0 hC;have hS := hS.trans hC;refine ⟨hS, ?_⟩;refine WH.narrow (S' := Chg [] w12) (fun w' hw' => hS.trans hw') ?_;have hS : Chg [] w12 w12 := Chg.refl _ _;refine WH.takeG 29 rfl (by kernel_rfl) (by kernel_rfl) (by kernel_rfl) rfl rfl rfl rfl hS (fun w' hw' => Ev.toStr (l := encS (totS ⟨x.toArray⟩ G)) rfl rfl (hr106.keep0 hw')) rfl ?_;refine WH.oneCallG 31 rfl (by kernel_rfl) rfl rfl rfl rfl hasF12 rfl rfl (shEncode_spec bt2 _ _ hbt2 hwbt2 t3) fun v w13 h' => ?_;obtain ⟨hg109, hC⟩ := h';obtain ⟨a109, c109, rfl, hcap109, hr109⟩ := hg109.row;have hcB := hcB.ta hC;have hS := hS.trans hC;refine ⟨hS, ?_⟩;refine WH.narrow (S' := Chg [] w13) (fun w' hw' => hS.trans hw') ?_;have hS : Chg [] w13 w13 := Chg.refl _ _;refine WH.takeG 32 rfl (by kernel_rfl) (by kernel_rfl) (by kernel_rfl) rfl rfl rfl rfl hS (fun w' hw' => Ev.toStr (l := encS (totS ⟨x.toArray⟩ G)) rfl rfl (hr109.keep0 hw')) rfl ?_;refine WH.takeG 33 rfl (by kernel_rfl) (by kernel_rfl) (by kernel_rfl) rfl rfl rfl rfl hS (fun w' hw' => Ev.neqStr rfl rfl) rfl ?_;rw [decide_eq_false (by simp)];refine wh 34 rfl hS (fun _ _ => Ev.pickF rfl rfl rfl) ?_;refine WH.done (by kernel_rfl) (kr41 _ _ _ ?_);refine kh40 ?_;refine CW.condF rfl ?_;refine zkk ?_;refine kh35 ?_;refine zR fun _ kr42 => ?_;refine zm rfl ?_;(first | refine zi rfl rfl ?_ | refine zo rfl rfl ?_);refine za rfl ?_;refine WL.nil (kr42 _ _ _ ?_);refine ⟨rfl, i + 1, ?_, ?_, ?_⟩
   ·exact SLp
   ·exact ⟨by omega, hcB⟩
   ·show (nmL G).length - (i + 1) < (nmL G).length - i; omega
  ·have hiN : i = (nmL G).length := by omega
   refine CW.exit ?_;refine kh29 (Sr fun _ kh43 => ?_);refine WL.buildSlice (m := 1) (cs := [f64v (4619567317775286272)]) (by decide) (by decide) rfl (by kernel_rfl) rfl fun b113 w113 hn113 => ?_;have hcm113 := hn113.chg;have hge113 := hn113.ge;have hb113 : FB w113 b113 _ [4619567317775286272] := hn113.at_;have hgehcB113 := Nat.le_trans hcB.size hge113;have hcB := hcB.ta hcm113;have hgehch113 := Nat.le_trans hch.size hge113;have hch := hch.ta hcm113;have hL := hL.keep0 hcm113;have hL2 := hL2.keep0 hcm113;have hL3 := hL3.keep0 hcm113;have hr27 := hr27.keep0 hcm113;have hvm := hvm.keep0 hcm113;have hck := hck.keep0 hcm113;refine WL.call hasF10 rfl rfl (l22one_spec _ lx 1 _ hb113.row wx (by decide) (hg0.keep hch (fun b hb => by cases hb))) fun v w14 h' => ?_;obtain ⟨⟨bsx, rfl, hbsx, hgesx⟩, hC⟩ := h';obtain ⟨hMx, hnx⟩ := Mk.oneL2 wx (by decide);have helx := encS_len hMx.ex;have hcB := hcB.ta hC;have hch := hch.ta hC;have hL := hL.keep0 hC;have hL2 := hL2.keep0 hC;have hL3 := hL3.keep0 hC;have hr27 := hr27.keep0 hC;have hvm := hvm.keep0 hC;have hck := hck.keep0 hC;refine za rfl (zz (kh43 (zc fun _ kh45 => Sr fun _ kh46 => zm rfl ?_)));refine WL.ev (Ev.eqlPtrNil rfl rfl) rfl ?_;refine zz (kh46 ?_);refine CW.condF rfl ?_;refine zkk ?_;refine kh45 (Sr fun _ kh48 => zm rfl (zm rfl ?_));refine WL.call hasF13 rfl rfl (stAppend2_spec b2 w3.heap.size G2 ⟨#[120]⟩ bsx _ w3 _ hL2 hbsx (hMx.wf hnx) hMx.ex (Chg.any hck) (Nat.le_refl _) hck.size) fun v w15 h' => ?_;obtain ⟨h', v1, t1_, hv1, hX⟩ := h';have e9 := BK.inj hvm hv1
   injection e9 with e9 _
   subst e9;have hL3 := hL3.keepLog hL2 hv1 hX (by omega) hvl;rcases h' with ⟨hbad, _⟩ | ⟨_, hbig, _⟩ | ⟨_, hle, rfl, ⟨dv9, hL2⟩, hchk2⟩
   · rw [sBx] at hbad; omega
   · rw [sBx] at hbig; omega
   have hchk2 := hchk2.drop hge2;have hL := hLk.keep0 hchk2;have hr27 := hrk.keep0 hchk2;have hch := hchk.trans hchk2;have hcB := hchk2;refine za rfl (zz (kh48 (zc fun _ kh50 => ?_)));refine CW.regionHC 23 rfl hmix fun kR51 kr51 hS hdr => ?_;have hch := hch.ta hdr;have hL := hL.keep0 hdr;have hL2 := hL2.keep0 hdr;have hL3 := hL3.keep0 hdr;have hr27 := hr27.keep0 hdr;have hr27_r := hr27;refine wh 0 rfl hS (fun _ _ => Ev.move rfl) (wh 1 rfl hS (fun _ _ => Ev.move rfl) ?_);refine WH.takeG 2 rfl (by kernel_rfl) (by kernel_rfl) (by kernel_rfl) rfl rfl rfl rfl hS (fun w' hw' => Ev.move rfl) rfl ?_;refine WH.takeG 3 rfl (by kernel_rfl) (by kernel_rfl) (by kernel_rfl) rfl rfl rfl rfl hS (fun w' hw' => Ev.eql rfl rfl) rfl ?_;refine wh 4 rfl hS (fun _ _ => Ev.pickT rfl rfl rfl) (wh 5 rfl hS (fun _ _ => Ev.move rfl) ?_);refine WH.takeG 6 rfl (by kernel_rfl) (by kernel_rfl) (by kernel_rfl) rfl rfl rfl rfl hS (fun w' hw' => Ev.move rfl) rfl ?_;refine WH.takeG 9 rfl (by kernel_rfl) (by kernel_rfl) (by kernel_rfl) rfl rfl rfl rfl hS (fun w' hw' => Ev.move rfl) rfl ?_;refine WH.takeG 10 rfl (by kernel_rfl) (by kernel_rfl) (by kernel_rfl) rfl rfl rfl rfl hS (fun w' hw' => Ev.toStr (l := bytG G) rfl rfl (hr27_r.keep0 hw')) rfl ?_;refine WH.oneCallG 7 rfl (by kernel_rfl) rfl rfl rfl rfl hasF14 rfl rfl (stBytes_spec bl _ G _ hL) fun v w16 h' => ?_;obtain ⟨hg127, hC⟩ := h';obtain ⟨a127, c127, rfl, hcap127, hr127⟩ := hg127.row;have hch := hch.ta hC;have hL2 := hL2.keep0 hC;have hL3 := hL3.keep0 hC;have hS := hS.trans hC;refine ⟨hS, ?_⟩;refine WH.narrow (S' := Chg [] w16) (fun w' hw' => hS.trans hw') ?_;have hS : Chg [] w16 w16 := Chg.refl _ _;refine WH.takeG 8 rfl (by kernel_rfl) (by kernel_rfl) (by kernel_rfl) rfl rfl rfl rfl hS (fun w' hw' => Ev.toStr (l := bytG G) rfl rfl (hr127.keep0 hw')) rfl ?_;refine WH.takeG 11 rfl (by kernel_rfl) (by kernel_rfl) (by kernel_rfl) rfl rfl rfl rfl hS (fun w' hw' => Ev.eqlStr rfl rfl) rfl ?_;rw [decide_eq_true rfl];refine wh 12 rfl hS (fun _ _ => Ev.pickT rfl rfl rfl) (wh 13 rfl hS (fun _ _ => Ev.move rfl) ?_);refine WH.takeG 14 rfl (by kernel_rfl) (by kernel_rfl) (by kernel_rfl) rfl rfl rfl rfl hS (fun w' hw' => Ev.move rfl) rfl ?_;refine WH.takeG 17 rfl (by kernel_rfl) (by kernel_rfl) (by kernel_rfl) rfl rfl rfl rfl hS (fun w' hw' => Ev.move rfl) rfl ?_;refine WH.oneCallG 15 rfl (by kernel_rfl) rfl rfl rfl rfl hasF14 rfl rfl (stBytes_spec b3 _ G3 _ hL3) fun v w17 h' => ?_;obtain ⟨hg135, hC⟩ := h';obtain ⟨a135, c135, rfl, hcap135, hr135⟩ := hg135.row;have hch := hch.ta hC;have hL2 := hL2.keep0 hC;have hL3 := hL3.keep0 hC;have hS := hS.trans hC;refine ⟨hS, ?_⟩;refine WH.narrow (S' := Chg [] w17) (fun w' hw' => hS.trans hw') ?_;have hS : Chg [] w17 w17 := Chg.refl _ _
   refine WH.takeG 16 rfl (by kernel_rfl) (by kernel_rfl) (by kernel_rfl) rfl rfl rfl rfl hS (fun w' hw' => Ev.toStr (l := bytG G3) rfl rfl (hr135.keep0 hw')) rfl ?_;refine WH.oneCallG 18 rfl (by kernel_rfl) rfl rfl rfl rfl hasF14 rfl rfl (stBytes_spec b2 _ (G2 ++ [(⟨#[120]⟩, encS (oneL lx), dv9)]) _ hL2) fun v w18 h' => ?_;obtain ⟨hg138, hC⟩ := h';obtain ⟨a138, c138, rfl, hcap138, hr138⟩ := hg138.row;have hch := hch.ta hC;have hL2 := hL2.keep0 hC;have hL3 := hL3.keep0 hC;have hS := hS.trans hC;refine ⟨hS, ?_⟩;refine WH.narrow (S' := Chg [] w18) (fun w' hw' => hS.trans hw') ?_;have hS : Chg [] w18 w18 := Chg.refl _ _;refine WH.takeG 19 rfl (by kernel_rfl) (by kernel_rfl) (by kernel_rfl) rfl rfl rfl rfl hS (fun w' hw' => Ev.toStr (l := bytG (G2 ++ [(⟨#[120]⟩, encS (oneL lx), dv9)])) rfl rfl (hr138.keep0 hw')) rfl ?_;refine WH.takeG 20 rfl (by kernel_rfl) (by kernel_rfl) (by kernel_rfl) rfl rfl rfl rfl hS (fun w' hw' => Ev.neqStr rfl rfl) rfl ?_;rw [decide_eq_true (bA_ne (bytG_B8' hL3) (bytG_B8' hL2) (by rw [bytG_len, bytG_len, totG_snoc, totG_tell hG32]; unfold szG; omega))];refine wh 21 rfl hS (fun _ _ => Ev.pickT rfl rfl rfl) (wh 22 rfl hS (fun _ _ => Ev.assign rfl) ?_);refine WH.done (by kernel_rfl) (kr51 _ _ _ ?_);refine kh50 ?_;refine zr (zr1 rfl rfl ?_);exact ⟨rfl, hch⟩

end

/- What came in, opened; the listed table, opened. No condition. -/
section
open Go Sx Wd
open Go.ChangeShapes Go.WideShapes Go.ChangeAt Go.WideMaps Go.WideElems Go.RowKit

theorem own : ownKnob Tryz.prog.godebug = none := by kernel_rfl
theorem laidOut : laidOutB Tryz.prog = true := by kernel_rfl
theorem gDeb : Tryz.prog.globalNamed "math/bits.deBruijn32tab" = some 6 := by kernel_rfl
theorem tDeb : (Tryz.prog.globals[6]?).map (·.type) = some 205 := by kernel_rfl
theorem deb_data {H : Type} : (Rows.laid_math_bits_deBruijn32tab : DataW H) = .agg (deb.map fun n : Nat => .lit (.int .u8 (n : Int))) := rfl
/-- One float cell, read. -/
theorem float_cell {H : Type} {enc : TypeId × Value → H} {P : Program} {w : World} {base : Nat} {spare : Nat → Bool} {held : Bool} {n : Nat} {e : TypeId} {v : Value} {x : DataW H × List MemPlace} (he : P.underlying e = some (.float .f64)) (h : DataW.trod enc P w base spare held n e [v] = some x) : ∃ b, v = .float .f64 b ∧ b < 18446744073709551616 := by
  cases n with
  | zero => simp [DataW.trod] at h
  | succ n =>
    simp only [DataW.trod, he] at h
    cases v <;> simp_all
    rename_i k b
    cases k <;> simp_all [Lit.wf]
end

/- The listed variables of the store, opened: the table, the errors. No condition. -/
section
open Go Sx Wd
open Go.ChangeShapes Go.WideShapes Go.ChangeAt Go.WideMaps Go.WideElems Go.RowKit

theorem door_metS (os : Os) (args : Array Value) : laidMetH Tryz.prog [("math/bits.deBruijn32tab", Rows.laid_math_bits_deBruijn32tab), ("errors.errorType", Rows.laid_errors_errorType), ("steelyard/store.errForm", Rows.laid_steelyard_store_errForm), ("steelyard/store.errTorn", Rows.laid_steelyard_store_errTorn), ("steelyard/store.errSum", Rows.laid_steelyard_store_errSum), ("steelyard/store.errShard", Rows.laid_steelyard_store_errShard)] ((World.doorLaid Tryz.prog 400 os).forCall (fun _ _ => 0) ⟨#[], args, []⟩).memory :=
  laidMetH_of_parts3 (fuel := 8) (laidMet_of_run' 8 (by kernel_rfl) (by kernel_rfl)) (by kernel_rfl) (by kernel_rfl)
theorem gw_of_trod {W : World} {g0 : Nat} {t0 : TypeId} {cs0 : Array Value} {f0 : Nat} {p0 : List MemPlace} (hg0 : Tryz.prog.globalNamed "math/bits.deBruijn32tab" = some g0) (ht0 : (Tryz.prog.globals[g0]?).map (·.type) = some t0) (hv0 : W.var? Tryz.prog "math/bits.deBruijn32tab" = some cs0) (hd0 : DataW.trod (fun _ => ()) Tryz.prog W 0 (fun _ => true) false f0 t0 cs0.toList = some (Rows.laid_math_bits_deBruijn32tab, p0)) : GW W := by
  obtain rfl := Option.some.inj (gDeb.symm.trans hg0)
  obtain rfl := Option.some.inj (tDeb.symm.trans ht0)
  obtain ⟨xs, m1, rfl, hx1, hlen, hn3, hel⟩ := DataW.trod_array Tryz.underlying205 hd0
  have c8 : Tryz.prog.cellsOf 5 = 1 := by kernel_rfl
  simp only [Prod.mk.injEq] at hx1
  intro i hi
  have hi' := hel i hi
  rw [c8, Nat.mul_one] at hi'
  have hxi : xs[i]? = some (xs[i]'(by omega)) := List.getElem?_eq_getElem (by omega)
  rw [hxi] at hi'
  obtain ⟨k, e1, e2, _⟩ := DataW.trod_int Tryz.underlying5 hi'
  have hxs : (deb.map fun n : Nat => (DataW.lit (.int .u8 (n : Int)) : DataW Unit)) = xs.map (·.1) := by
    have := hx1.1
    rw [deb_data] at this
    exact DataW.agg.inj this
  have hdat : (deb.map fun n : Nat => (DataW.lit (.int .u8 (n : Int)) : DataW Unit))[i]? = some (.lit (.int .u8 ((deb.getD i 0 : Nat) : Int))) := by
    rw [List.getElem?_map, List.getElem?_eq_getElem (show i < deb.length from hi), List.getD_eq_getElem?_getD, List.getElem?_eq_getElem (show i < deb.length from hi)]; rfl
  rw [hxs, List.getElem?_map, hxi] at hdat
  simp only [Option.map_some] at hdat
  rw [e2] at hdat
  have hk : k = ((deb.getD i 0 : Nat) : Int) := by
    have := Option.some.inj hdat
    simp only [DataW.lit.injEq, Lit.int.injEq, true_and] at this
    exact this
  subst hk
  have hc : cs0[i]? = some (.int .u8 ((deb.getD i 0 : Nat) : Int)) := by
    have h3 : (cs0.toList.drop i)[0]? = some (.int .u8 ((deb.getD i 0 : Nat) : Int)) := by
      have := congrArg (fun l : List Value => l[0]?) e1
      simpa using this
    simpa using h3
  have := World.var?_cell hg0 hv0 i
  rw [hc] at this
  exact this

theorem star_es : "*" ++ "errors.errorString" = "*errors.errorString" := by decide
theorem row_es (u : TypeId) (h : Tryz.prog.typeName? 3 u = some "*errors.errorString") : u = 206 :=
  typeName_ptr_named (nm := "errors.errorString") (by rw [star_es]; kernel_rfl) (by kernel_rfl) (by decide) u (by rw [star_es]; exact h)
theorem c1_es : Tryz.prog.cellsOf 226 = 1 := by kernel_rfl
theorem c1_str : Tryz.prog.cellsOf 9 = 1 := by kernel_rfl
theorem g_errForm : Tryz.prog.globalNamed "steelyard/store.errForm" = some 2 := by kernel_rfl
theorem t_errForm : (Tryz.prog.globals[2]?).map (·.type) = some 80 := by kernel_rfl
theorem g_errTorn : Tryz.prog.globalNamed "steelyard/store.errTorn" = some 3 := by kernel_rfl
theorem t_errTorn : (Tryz.prog.globals[3]?).map (·.type) = some 80 := by kernel_rfl
theorem g_errSum : Tryz.prog.globalNamed "steelyard/store.errSum" = some 4 := by kernel_rfl
theorem t_errSum : (Tryz.prog.globals[4]?).map (·.type) = some 80 := by kernel_rfl
theorem g_errShard : Tryz.prog.globalNamed "steelyard/store.errShard" = some 5 := by kernel_rfl
theorem t_errShard : (Tryz.prog.globals[5]?).map (·.type) = some 80 := by kernel_rfl
theorem nodup_mem {α : Type} {A B : List α} {x : α} (h : (A ++ B).Nodup) (ha : x ∈ A) (hb : x ∈ B) : False := (List.nodup_append.1 h).2.2 x ha x hb rfl
/-- The table and the errors, as they lie when the call begins. -/
structure LaidG (W : World) (ea : Nat → Addr) : Prop where
  gw : GW W
  ge : GE W (evV ea)
  cell : ∀ c, 1 ≤ c → c ≤ 4 → ∃ cs t, W.heap[(ea c).block]? = some (.cells cs t (0, 0))
  ne : ∀ c d, 1 ≤ c → c ≤ 4 → 1 ≤ d → d ≤ 4 → c ≠ d → ea c ≠ ea d
theorem laidG {W : World} (h : laidMetH Tryz.prog [("math/bits.deBruijn32tab", Rows.laid_math_bits_deBruijn32tab), ("errors.errorType", Rows.laid_errors_errorType), ("steelyard/store.errForm", Rows.laid_steelyard_store_errForm), ("steelyard/store.errTorn", Rows.laid_steelyard_store_errTorn), ("steelyard/store.errSum", Rows.laid_steelyard_store_errSum), ("steelyard/store.errShard", Rows.laid_steelyard_store_errShard)] W) : ∃ ea, LaidG W ea := by
  have h' : laidMet Tryz.prog [("math/bits.deBruijn32tab", Rows.laid_math_bits_deBruijn32tab), ("steelyard/store.errForm", Rows.laid_steelyard_store_errForm), ("steelyard/store.errTorn", Rows.laid_steelyard_store_errTorn), ("steelyard/store.errSum", Rows.laid_steelyard_store_errSum), ("steelyard/store.errShard", Rows.laid_steelyard_store_errShard)] W ∧ handlesMet Tryz.prog [("errors.errorType", Rows.laid_errors_errorType)] W := h
  obtain ⟨⟨ps, ⟨g0, t0, cs0, f0, p0, q0, hg0, ht0, hv0, hd0, hch, e0⟩, hnd, hrows⟩, _⟩ := h'
  have hGW := gw_of_trod hg0 ht0 hv0 hd0
  obtain ⟨g1, t1, cs1, f1, p1, q1, hg1, ht1, hv1, hd1, hch1, e1⟩ := hch
  obtain ⟨g2, t2, cs2, f2, p2, q2, hg2, ht2, hv2, hd2, hch2, e2⟩ := hch1
  obtain ⟨g3, t3, cs3, f3, p3, q3, hg3, ht3, hv3, hd3, hch3, e3⟩ := hch2
  obtain ⟨g4, t4, cs4, f4, p4, q4, hg4, ht4, hv4, hd4, hch4, e4⟩ := hch3
  have hq4 : q4 = [] := hch4
  obtain rfl := Option.some.inj (g_errForm.symm.trans hg1)
  obtain rfl := Option.some.inj (t_errForm.symm.trans ht1)
  obtain rfl := Option.some.inj (g_errTorn.symm.trans hg2)
  obtain rfl := Option.some.inj (t_errTorn.symm.trans ht2)
  obtain rfl := Option.some.inj (g_errSum.symm.trans hg3)
  obtain rfl := Option.some.inj (t_errSum.symm.trans ht3)
  obtain rfl := Option.some.inj (g_errShard.symm.trans hg4)
  obtain rfl := Option.some.inj (t_errShard.symm.trans ht4)
  subst hq4
  subst e4; subst e3; subst e2; subst e1; subst e0
  obtain ⟨l1⟩ := cs1
  have ok1 : ∀ u v, l1 = [.iface u v] → Value.okWide Tryz.prog W .any 0 u v := fun u v e => by
    subst e
    exact (hrows 2 0 (by simp [MemPlace.row])).2 u v (by simpa using World.var?_cell hg1 hv1 0)
  obtain ⟨a1, s1, rfl, hc1, hs1, hz1, rfl⟩ := errorString_of_trod Tryz.underlying80 row_es Tryz.underlying206 Tryz.underlying226 rfl rfl Tryz.underlying9 c1_es c1_str hd1 ok1
  obtain ⟨c1, u1, hb1⟩ := (hrows a1.block a1.off (by simp [MemPlace.row])).1
  have hw1 : W.cell? ⟨2, 0, none⟩ = some (.iface 206 (.pointer (some a1))) := by simpa using World.var?_cell hg1 hv1 0
  obtain ⟨l2⟩ := cs2
  have ok2 : ∀ u v, l2 = [.iface u v] → Value.okWide Tryz.prog W .any 0 u v := fun u v e => by
    subst e
    exact (hrows 3 0 (by simp [MemPlace.row])).2 u v (by simpa using World.var?_cell hg2 hv2 0)
  obtain ⟨a2, s2, rfl, hc2, hs2, hz2, rfl⟩ := errorString_of_trod Tryz.underlying80 row_es Tryz.underlying206 Tryz.underlying226 rfl rfl Tryz.underlying9 c1_es c1_str hd2 ok2
  obtain ⟨c2, u2, hb2⟩ := (hrows a2.block a2.off (by simp [MemPlace.row])).1
  have hw2 : W.cell? ⟨3, 0, none⟩ = some (.iface 206 (.pointer (some a2))) := by simpa using World.var?_cell hg2 hv2 0
  obtain ⟨l3⟩ := cs3
  have ok3 : ∀ u v, l3 = [.iface u v] → Value.okWide Tryz.prog W .any 0 u v := fun u v e => by
    subst e
    exact (hrows 4 0 (by simp [MemPlace.row])).2 u v (by simpa using World.var?_cell hg3 hv3 0)
  obtain ⟨a3, s3, rfl, hc3, hs3, hz3, rfl⟩ := errorString_of_trod Tryz.underlying80 row_es Tryz.underlying206 Tryz.underlying226 rfl rfl Tryz.underlying9 c1_es c1_str hd3 ok3
  obtain ⟨c3, u3, hb3⟩ := (hrows a3.block a3.off (by simp [MemPlace.row])).1
  have hw3 : W.cell? ⟨4, 0, none⟩ = some (.iface 206 (.pointer (some a3))) := by simpa using World.var?_cell hg3 hv3 0
  obtain ⟨l4⟩ := cs4
  have ok4 : ∀ u v, l4 = [.iface u v] → Value.okWide Tryz.prog W .any 0 u v := fun u v e => by
    subst e
    exact (hrows 5 0 (by simp [MemPlace.row])).2 u v (by simpa using World.var?_cell hg4 hv4 0)
  obtain ⟨a4, s4, rfl, hc4, hs4, hz4, rfl⟩ := errorString_of_trod Tryz.underlying80 row_es Tryz.underlying206 Tryz.underlying226 rfl rfl Tryz.underlying9 c1_es c1_str hd4 ok4
  obtain ⟨c4, u4, hb4⟩ := (hrows a4.block a4.off (by simp [MemPlace.row])).1
  have hw4 : W.cell? ⟨5, 0, none⟩ = some (.iface 206 (.pointer (some a4))) := by simpa using World.var?_cell hg4 hv4 0
  refine ⟨fun c => if c = 1 then a1 else if c = 2 then a2 else if c = 3 then a3 else a4, hGW, ⟨hw1, hw2, hw3, hw4⟩, fun c h1 h4 => ?_, fun c d hc1 hc4 hd1 hd4 hne he => ?_⟩
  · have : c = 1 ∨ c = 2 ∨ c = 3 ∨ c = 4 := by omega
    rcases this with rfl | rfl | rfl | rfl
    · exact ⟨_, _, hb1⟩
    · exact ⟨_, _, hb2⟩
    · exact ⟨_, _, hb3⟩
    · exact ⟨_, _, hb4⟩
  · have hn1 := (List.nodup_append.1 hnd).2.1
    have hn2 := (List.nodup_append.1 hn1).2.1
    have hn3 := (List.nodup_append.1 hn2).2.1
    have n12 : a1 ≠ a2 := fun e => nodup_mem hn1 (x := .cell a1.block a1.off) (by simp [MemPlace.row]) (by rw [e]; simp [MemPlace.row])
    have n13 : a1 ≠ a3 := fun e => nodup_mem hn1 (x := .cell a1.block a1.off) (by simp [MemPlace.row]) (by rw [e]; simp [MemPlace.row])
    have n14 : a1 ≠ a4 := fun e => nodup_mem hn1 (x := .cell a1.block a1.off) (by simp [MemPlace.row]) (by rw [e]; simp [MemPlace.row])
    have n23 : a2 ≠ a3 := fun e => nodup_mem hn2 (x := .cell a2.block a2.off) (by simp [MemPlace.row]) (by rw [e]; simp [MemPlace.row])
    have n24 : a2 ≠ a4 := fun e => nodup_mem hn2 (x := .cell a2.block a2.off) (by simp [MemPlace.row]) (by rw [e]; simp [MemPlace.row])
    have n34 : a3 ≠ a4 := fun e => nodup_mem hn3 (x := .cell a3.block a3.off) (by simp [MemPlace.row]) (by rw [e]; simp [MemPlace.row])
    have hc : c = 1 ∨ c = 2 ∨ c = 3 ∨ c = 4 := by omega
    have hd : d = 1 ∨ d = 2 ∨ d = 3 ∨ d = 4 := by omega
    rcases hc with rfl | rfl | rfl | rfl <;> rcases hd with rfl | rfl | rfl | rfl <;> first | exact hne rfl | exact n12 he | exact n13 he | exact n14 he | exact n23 he | exact n24 he | exact n34 he | exact n12 he.symm | exact n13 he.symm | exact n14 he.symm | exact n23 he.symm | exact n24 he.symm | exact n34 he.symm
end

/- The law StoreTold. No condition. -/
section
open Go Sx Wd Fl

end

/- Asked records that came in; errors.As's own type, as it lies. No condition. -/
section
open Go Sx Wd
open Go.ChangeShapes Go.WideShapes Go.ChangeAt Go.WideMaps Go.WideElems Go.RowKit

theorem weightsAll_mem {H : Type} {P : Program} {e : TypeId} : ∀ {l : List (DataW H)} {d : DataW H}, d ∈ l → ∀ n ∈ d.weights P e, n ∈ DataW.weightsAll P e l
  | x :: l, d, hd, n, hn => by
    simp only [DataW.weightsAll, List.mem_append]
    rcases List.mem_cons.1 hd with rfl | hd
    · exact .inl hn
    · exact .inr (weightsAll_mem hd n hn)
theorem trod_two {H : Type} {enc : TypeId × Value → H} {P : Program} {w : World} {base : Nat} {spare : Nat → Bool} {held : Bool} {t : TypeId} {f0 f1 : Field} {fuel : Nat} {cs : List Value} {x : DataW H × List MemPlace} (ht : P.underlying t = some (.struct #[f0, f1])) (h : DataW.trod enc P w base spare held fuel t cs = some x) :
    ∃ y0 y1 n, x.1 = .agg [y0.1, y1.1] ∧ cs.length = P.cellsOf t ∧ DataW.trod enc P w base spare held n f0.type ((cs.drop f0.offset).take (P.cellsOf f0.type)) = some y0 ∧ DataW.trod enc P w base spare held n f1.type ((cs.drop f1.offset).take (P.cellsOf f1.type)) = some y1 := by
  obtain ⟨xs, n, _, rfl, hl, hlen, hf⟩ := DataW.trod_struct ht h
  match xs, hlen with
  | [y0, y1], _ => exact ⟨y0, y1, n, rfl, hl, by simpa using hf 0 f0 rfl, by simpa using hf 1 f1 rfl⟩
theorem sized_mem {H : Type} {P : Program} {ts : List TypeId} {ds : List (DataW H)} (h : (DataW.weightsEach P ts ds).all (· ≤ reachBytes) = true) {j : Nat} {t : TypeId} {d : DataW H} (ht : ts[j]? = some t) (hd : ds[j]? = some d) : ∀ k ∈ d.weights P t, k ≤ reachBytes := fun k hk => by
  have := List.all_eq_true.1 h _ (DataW.weights_mem_each ht hd k hk)
  simpa using this
/-! ### errors.As's own type -/
end

/- A form that came in, of a bulk that is bounded. No condition. -/
section
open Go Sx Wd
open Go.ChangeShapes Go.WideShapes Go.ChangeAt Go.WideMaps Go.WideElems Go.RowKit

theorem bulk_one {H : Type} (d : DataW H) : 1 ≤ Rows.uptoBulk d := by
  cases d with
  | lit l => cases l <;> simp [Rows.uptoBulk]
  | nil => simp [Rows.uptoBulk]
  | ptr d => simp [Rows.uptoBulk]
  | slice elems spare => simp [Rows.uptoBulk]
  | agg parts => simp [Rows.uptoBulk]
  | iface t d => simp [Rows.uptoBulk]
  | map entries => simp [Rows.uptoBulk]
  | held h => simp [Rows.uptoBulk]
end

/- Asked records that came in, and how many they are. No condition. -/
section
open Go Sx Wd
open Go.ChangeShapes Go.WideShapes Go.ChangeAt Go.WideMaps Go.WideElems Go.RowKit

theorem bulkAll_len {H : Type} : ∀ l : List (DataW H), l.length ≤ Rows.uptoBulkAll l
  | [] => Nat.zero_le _
  | d :: l => by
    have h1 := bulk_one d
    have h2 := bulkAll_len l
    simp only [Rows.uptoBulkAll, List.length_cons]
    omega
theorem bulkAll_map {H : Type} (D : Nat → DataW H) (f : Nat → Nat) : ∀ l : List Nat, (∀ i ∈ l, f i ≤ Rows.uptoBulk (D i)) → (l.map f).sum ≤ Rows.uptoBulkAll (l.map D)
  | [], _ => Nat.zero_le _
  | i :: l, h => by
    have h1 := h i (List.mem_cons_self ..)
    have h2 := bulkAll_map D f l fun j hj => h j (List.mem_cons_of_mem _ hj)
    simp only [List.map_cons, List.sum_cons, Rows.uptoBulkAll]
    omega
/-- A list of floats in one cell. -/
theorem cell_nf2 {H : Type} {enc : TypeId × Value → H} {P : Program} {w : World} {base : Nat} {spare : Nat → Bool} {held : Bool} {n : Nat} {t e : TypeId} {cs : List Value} {x : DataW H × List MemPlace} (ht : P.underlying t = some (.slice e)) (he : P.underlying e = some (.float .f64)) (hc : P.cellsOf e = 1) (hb : P.bytesOf e = 8)
    (h : DataW.trod enc P w base spare held n t cs = some x) (hsz : ∀ k ∈ x.1.weights P t, k ≤ reachBytes) : ∃ (v : Value) (l : List Nat), cs = [v] ∧ NF w v l ∧ l.length ≤ Rows.uptoBulk x.1 := by
  rcases Go.Deep.open_slice1 ht hc h with ⟨hcs, _⟩ | ⟨ad, len, cap, m, n, V, D, Pl, hcs, _, hlc, hcm, hm, hx, hV⟩
  · exact ⟨_, [], hcs, ⟨⟨none, 0, rfl, Nat.le_refl _, RW.nil⟩, fun x hx => (by cases hx), by decide⟩, Nat.zero_le _⟩
  · have hlm : len ≤ m := by rw [hm]; split <;> omega
    have h8 := hsz (((List.range len).map D).length * 8 + ((List.range (m - len)).map fun j => D (len + j)).length * 8) (by
      rw [hx]
      simp only [DataW.weights, ht, hb]
      rw [← Nat.add_mul]
      exact List.mem_cons_self ..)
    simp only [List.length_map, List.length_range] at h8
    have hr : reachBytes = 140737488351232 := by decide
    have hlen : len ≤ 17592186044415 := by omega
    obtain ⟨f, hf2⟩ := Go.Deep.choose_lt (α := Nat) (n := len) (p := fun i b => V i = .float .f64 b ∧ b < 18446744073709551616) (fun i hi => float_cell he (hV i (by omega)).2)
    refine ⟨_, (List.range len).map f, hcs, ⟨⟨some ad, cap, by simp, by simpa using hlc, fun i y hy => ?_⟩, fun y hy => ?_, by simp; omega⟩, ?_⟩
    · have hi : i < len := by
        by_cases q : i < len
        · exact q
        · rw [List.getElem?_eq_none (by simp; omega)] at hy; cases hy
      simp [List.getElem?_range hi] at hy
      subst hy
      exact ⟨ad, rfl, by rw [(hV i (by omega)).1, (hf2 i hi).1]; rfl⟩
    · obtain ⟨i, hi, rfl⟩ := List.mem_map.1 hy
      exact (hf2 i (List.mem_range.1 hi)).2
    · rw [hx]
      simp only [Rows.uptoBulk]
      have := bulkAll_len ((List.range len).map D)
      simp only [List.length_map, List.length_range] at this ⊢
      omega
/-- One asked record. -/
theorem cell_put2 {H : Type} {enc : TypeId × Value → H} {w : World} {base : Nat} {spare : Nat → Bool} {held : Bool} {n : Nat} {cs : List Value} {x : DataW H × List MemPlace} (h : DataW.trod enc Tryz.prog w base spare held n 75 cs = some x) (hsz : ∀ k ∈ x.1.weights Tryz.prog 75, k ≤ reachBytes) :
    ∃ g : RG, cs = [.string g.1, g.2.2] ∧ NF w g.2.2 g.2.1 ∧ g.2.1.length ≤ Rows.uptoBulk x.1 := by
  have hu := Tryz.underlying75
  have c2 : Tryz.prog.cellsOf 75 = 2 := by kernel_rfl
  have cs1 : Tryz.prog.cellsOf 9 = 1 := by kernel_rfl
  have cf1 : Tryz.prog.cellsOf 28 = 1 := by kernel_rfl
  obtain ⟨y0, y1, m, hx, hl, h0, h1⟩ := trod_two hu h
  rw [c2] at hl
  match cs, hl with
  | [a, b], _ =>
    have h0' : DataW.trod enc Tryz.prog w base spare held m 9 [a] = some y0 := by simpa [cs1] using h0
    have h1' : DataW.trod enc Tryz.prog w base spare held m 28 [b] = some y1 := by simpa [cf1] using h1
    obtain ⟨s, e0, _, _⟩ := DataW.trod_string Tryz.underlying9 h0'
    obtain ⟨v, l, e1, hv, hbv⟩ := cell_nf2 Tryz.underlying28 Tryz.underlying27 (by kernel_rfl) (by kernel_rfl) h1' (fun k hk => hsz k (by
      rw [hx]
      simp only [DataW.weights, hu]
      simp only [List.map_cons, List.map_nil, DataW.weightsEach, List.mem_append]
      exact .inr (.inl hk)))
    injection e0 with e0 _
    injection e1 with e1 _
    exact ⟨(s, l, v), by rw [e0, e1], hv, by
      rw [hx]
      simp only [Rows.uptoBulk, Rows.uptoBulkAll]
      try dsimp only at hbv ⊢
      omega⟩
/-- Asked records that came in. -/
theorem open_puts2 {H : Type} {enc : TypeId × Value → H} {w : World} {base b0 : Nat} {spare : Nat → Bool} {held : Bool} {v : Value} {d : DataW H} {ps : List MemPlace} (hval : Value.okWide Tryz.prog w .any b0 35 v) (h : DataW.Trod enc Tryz.prog w base spare held 35 v d ps)
    (hsz : ∀ k ∈ d.weights Tryz.prog 35, k ≤ reachBytes) : ∃ (a : Option Addr) (P : List RG) (c : Nat), v = .slice a P.length c ∧ RW w a (recC P) ∧ PutM w P ∧ lenP P ≤ Rows.uptoBulk d := by
  have hu := Tryz.underlying35
  have c2 : Tryz.prog.cellsOf 75 = 2 := by kernel_rfl
  obtain ⟨a, len, cap, rfl⟩ := okWide_slice hu hval
  obtain ⟨fuel, hf⟩ := h
  rcases Go.Deep.open_slice hu hf with ⟨hcs, _⟩ | ⟨ad, l, c, m, n, D, Pl, hcs, _, hlc, hcm, hm, hx, hV⟩
  · simp [Value.cells] at hcs
    obtain ⟨rfl, rfl, rfl⟩ := hcs
    exact ⟨none, [], 0, rfl, RW.nil, (fun g hg => by cases hg), Nat.zero_le _⟩
  · simp [Value.cells] at hcs
    obtain ⟨rfl, rfl, rfl⟩ := hcs
    have hlm : len ≤ m := by rw [hm]; split <;> omega
    simp only [Prod.mk.injEq] at hx
    obtain ⟨f, hf2⟩ := Go.Deep.choose_lt (α := RG) (n := len) (p := fun i g => (∀ j v, [Value.string g.1, g.2.2][j]? = some v → w.cell? ((ad.add (i * 2)).add j) = some v) ∧ NF w g.2.2 g.2.1 ∧ g.2.1.length ≤ Rows.uptoBulk (D i)) (fun i hi => by
      obtain ⟨cs', h1, h2⟩ := hV i (by omega)
      rw [c2] at h1
      obtain ⟨_, hlen, hcell⟩ := World.cells?_some h1
      obtain ⟨g, rfl, hg⟩ := cell_put2 h2 (fun k hk => hsz k (by
        rw [hx.1]
        simp only [DataW.weights, hu, List.mem_cons, List.mem_append]
        exact .inr (.inl (weightsAll_mem (List.mem_map.2 ⟨i, List.mem_range.2 hi, rfl⟩) k hk))))
      refine ⟨g, fun j v hv => ?_, hg⟩
      have hj : j < 2 := by
        rcases Nat.lt_or_ge j 2 with q | q
        · exact q
        · rw [List.getElem?_eq_none (by simpa using q)] at hv; cases hv
      rw [hcell j hj]
      exact hv)
    refine ⟨some ad, (List.range len).map f, cap, by simp, fun i y hy => ?_, fun g hg => ?_, ?_⟩
    · have hil : i < len * 2 := by
        rcases Nat.lt_or_ge i (len * 2) with q | q
        · exact q
        · rw [List.getElem?_eq_none (by rw [recC_len]; simpa using q)] at hy; cases hy
      have hk : i / 2 < len := by omega
      have hg : ((List.range len).map f)[i / 2]? = some (f (i / 2)) := by simp [List.getElem?_range hk]
      obtain ⟨r1, r2⟩ := recC_at hg
      have hc := (hf2 (i / 2) hk).1
      refine ⟨ad, rfl, ?_⟩
      rcases (by omega : i % 2 = 0 ∨ i % 2 = 1) with q | q
      · have e : i = 2 * (i / 2) := by omega
        rw [e, r1] at hy
        cases hy
        have := hc 0 _ rfl
        rw [addr_add2, show i / 2 * 2 + 0 = i by omega] at this
        exact this
      · have e : i = 2 * (i / 2) + 1 := by omega
        rw [e, r2] at hy
        cases hy
        have := hc 1 _ rfl
        rw [addr_add2, show i / 2 * 2 + 1 = i by omega] at this
        exact this
    · obtain ⟨i, hi, rfl⟩ := List.mem_map.1 hg
      exact (hf2 i (List.mem_range.1 hi)).2.1
    · rw [hx.1]
      simp only [Rows.uptoBulk]
      have := bulkAll_map D (fun i => (f i).2.1.length) (List.range len) (fun i hi => (hf2 i (List.mem_range.1 hi)).2.2)
      unfold lenP
      rw [List.map_map]
      have e : (fun g : RG => g.2.1.length) ∘ f = fun i => (f i).2.1.length := rfl
      rw [e]
      omega
end

/- A row's joined facts, one by one. No condition. -/
section
open Go
end

end Go.Proofs.YtbplehaogncjoaaGreatDoor