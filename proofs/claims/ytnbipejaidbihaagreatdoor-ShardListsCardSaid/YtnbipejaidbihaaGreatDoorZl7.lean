/- Part 7 of what the proof rests on. No condition. -/
import Derived.Test.YtnbipejaidbihaaGreatDoorZl6
import Derived.ArgAppend
import Derived.ChangeKeysEq
import Derived.Laws.StructEq
import Derived.Shelf.SlGeneric
import Derived.Shelf.Slices.In.CompactS
import Derived.Shelf.Slices.In.SortNone
import Derived.Ground.NamesProg
import Derived.Test.YtnbipejaidbihaaGreatDoorProg
import Derived.Sort.EveryDepth
import Derived.Sort.OwnSorted
import Derived.Sort.Grow
import Derived.Lib.OwnBridge
import Derived.WalkKit
import Derived.LaidEql
import Derived.Stop.Asserts
import Derived.RowKitTokens
import Derived.ProofKit
import Derived.OpenShut
import Derived.ChangeOld
import Derived.Below
import Derived.Deep.Slices
import Derived.Laws.Cover2
import Derived.LaidMore
import Derived.SizedLaws
import Derived.SevenTiedAt
import Derived.Stop.Joined
import Derived.Test.YtnbipejaidbihaaGreatDoorRows
import Derived.LaidHandle
import Derived.ChangeMaps5
import Derived.Stop.ErrReads
set_option linter.unusedVariables false
set_option linter.unusedSimpArgs false
set_option maxRecDepth 100000
set_option maxHeartbeats 4000000
namespace Go.Proofs.YtnbipejaidbihaaGreatDoor
/- Package moment: common, squares, Var. No condition. -/
section
open Go Sx Wd Fl

theorem totF_map (f : Nat → Dy) (l : List Nat) : totF (fun i => f (l.getD i 0)) l.length = totD (l.map f) := by
  unfold totF
  congr 1
  apply List.ext_getElem (by simp)
  intro i h1 h2
  simp only [List.getElem_map, List.getElem_range]
  congr 1
  rw [List.getD_eq_getElem?_getD, List.getElem?_eq_getElem (by simpa using h2)]
  rfl

namespace Sx
section
variable {P : Program} {n : Nat} {D : List Deferred} {s : Sl} {w : World} {ops : Array Oper} {K : KK} {S : World → Prop} {fuel : Nat} {listed : Array Bool}
theorem WH.all1 (i : Nat) (hr : Region.ready .any ops listed = [i]) (h1 : WHat P ops K S fuel listed n D s w i) : WH P ops K S (fuel + 1) listed n D s w := fun a ha =>
  wpAnyH_all hr (by simp) fun k hk => by
    rcases (by simpa using hk : k = i) with rfl
    exact h1 a ha
theorem WH.all3 (i j z : Nat) (hr : Region.ready .any ops listed = [i, j, z]) (h1 : WHat P ops K S fuel listed n D s w i) (h2 : WHat P ops K S fuel listed n D s w j) (h3 : WHat P ops K S fuel listed n D s w z) : WH P ops K S (fuel + 1) listed n D s w := fun a ha =>
  wpAnyH_all hr (by simp) fun k hk => by
    rcases (by simpa using hk : k = i ∨ k = j ∨ k = z) with rfl | rfl | rfl
    · exact h1 a ha
    · exact h2 a ha
    · exact h3 a ha
theorem WH.sub {s' : Sl} (hs : Subs s' s) (h : WH P ops K S fuel listed n D s' w) : WH P ops K S fuel listed n D s w := fun a ha => h a (ha.sub hs)
theorem WH.as (h : ∀ W : Nat → Array Bool → Sl → World → Prop, W = (fun f l s w => WH P ops K S f l n D s w) → W fuel listed s w) : WH P ops K S fuel listed n D s w := h _ rfl
end
end Sx
structure KCm (X Pp : Dy) (rx ry rp : Value) (b4 : Nat) (w0 w : World) : Prop where
  ch : Chg [] w0 w
  nx : NU w rx (wd X.m)
  ny : NU w ry (wd X.m)
  np : NU w rp (wd Pp.m)
  h4 : BK w b4 107 [.bool false, .slice none 0 0, .int .i64 0]
theorem KCm.keep0 {X Pp : Dy} {rx ry rp : Value} {b4 : Nat} {w0 w w' : World} (h : KCm X Pp rx ry rp b4 w0 w) (hc : Chg [] w w') : KCm X Pp rx ry rp b4 w0 w' := ⟨h.ch.trans (Chg.any hc), h.nx.keep0 hc, h.ny.keep0 hc, h.np.keep0 hc, h.h4.keep0 hc⟩

abbrev agV (d : Dy) (r : Value) : Value := .agg [.bool d.neg, r, .int .i64 d.e].toArray
abbrev cmC (x y : Dy) (rx ry : Value) : List Value := [.bool x.neg, rx, .int .i64 x.e, .bool y.neg, ry, .int .i64 y.e]
def cmS (c2 c4 c5 c8 c9 c10 c14 : Bool) (n : Nat) (X P : Dy) (rx ry rp rn ra rb u : Value) (b27 b31 b8 b4 : Nat) : Sl :=
  cond c2 [] [(24, .int .i64 (n : Int))] ++ cond c4 [] [(26, agV P rp)] ++ cond (c2 && !c4) [(25, agV (intD (n : Int)) rn)] [] ++ cond (c4 && !c5) [(27, .slice (some ⟨b27, 0, none⟩) 2 2)] [] ++ cond (c5 && !c10) [(28, agV (timD (intD (n : Int)) P) ra)] [] ++
  cond c8 [] [(29, agV X rx), (30, agV X ry)] ++ cond (c8 && !c9) [(31, .slice (some ⟨b31, 0, none⟩) 2 2)] [] ++ cond (c9 && !c10) [(32, agV (timD X X) rb)] [] ++ cond c10 [(33, u)] [] ++ cond c14 [(8, .pointer (some ⟨b8, 0, none⟩))] [] ++ [(4, .pointer (some ⟨b4, 0, none⟩))]
theorem SLq {a b : Sl} (h : Subs a b := by (repeat (first | exact Subs.nil | refine Subs.cons rfl ?_))) : Subs a b := h
def cmU (l : List Nat) (u : Value) (w : World) : Prop := ∃ rc kc, u = .tuple [agV (comD l) rc, .int .i64 kc].toArray ∧ NU w rc (wd (comD l).m)
abbrev cmF (c2 c4 c5 c8 c9 c10 c14 : Bool) (l : List Nat) (X P : Dy) (rx ry rp rn ra rb u : Value) (b27 b31 b8 : Nat) (wr w : World) : Prop :=
  ((c2 && !c5) = true → NU w rn (wd (intD (l.length : Int)).m)) ∧ ((c4 && !c5) = true → BK w b27 107 (cmC (intD (l.length : Int)) P rn rp)) ∧ ((c5 && !c10) = true → NU w ra (wd (timD (intD (l.length : Int)) P).m)) ∧
  ((c8 && !c9) = true → BK w b31 107 (cmC X X rx ry)) ∧ ((c9 && !c10) = true → NU w rb (wd (timD X X).m)) ∧ (c10 = true → cmU l u w) ∧ (c14 = true → BK w b8 107 [.bool false, .slice none 0 0, .int .i64 0] ∧ wr.heap.size ≤ b8)
def cmL (c2 c4 c5 c8 c9 c10 c14 : Bool) : Array Bool := #[true, true, c2, true, c4, c5, true, true, c8, c9, c10, false, false, false, c14, false, false]
abbrev cmP (W : Nat → Array Bool → Sl → World → Prop) (k : Nat) (c2 c4 c5 c8 c9 c10 c14 : Bool) (l : List Nat) (X P : Dy) (rx ry rp : Value) (b4 : Nat) (w wr : World) : Prop :=
  ∀ w1 rn ra rb u b27 b31 b8, KCm X P rx ry rp b4 w w1 → Chg [] wr w1 → cmF c2 c4 c5 c8 c9 c10 c14 l X P rx ry rp rn ra rb u b27 b31 b8 wr w1 → W k (cmL c2 c4 c5 c8 c9 c10 c14) (cmS c2 c4 c5 c8 c9 c10 c14 l.length X P rx ry rp rn ra rb u b27 b31 b8 b4) w1
theorem cmR {l : List Nat} {u : Value} {w : World} {P X : Dy} (hD : DR w u (both2 addD (formD (timD (intD (l.length : Int)) P).neg (val (wd (timD (intD (l.length : Int)) P).m)) (timD (intD (l.length : Int)) P).e) (formD (!(timD X X).neg) (val (wd (timD X X).m)) (timD X X).e))) (okt : (timD (intD (l.length : Int)) P).ok) (hcom : comD l = (subD (timD (intD (l.length : Int)) P) (timD X X)).getD Dy.zero) : cmU l u w := by
  rw [val_wd, val_wd, formD_self okt] at hD
  obtain ⟨rc, kc, hve, hN⟩ := DR.cells (x := subD (timD (intD (l.length : Int)) P) (timD X X)) hD
  rw [← hcom] at hve hN
  exact ⟨rc, kc, hve, hN⟩

theorem Subs.look8 {s' : Sl} {b8 b4 : Nat} (h : Subs [(4, .pointer (some ⟨b4, 0, none⟩))] s') (h8 : Sx.look s' 8 = some (.pointer (some ⟨b8, 0, none⟩))) : Subs [(8, .pointer (some ⟨b8, 0, none⟩)), (4, .pointer (some ⟨b4, 0, none⟩))] s' := Subs.cons h8 h

theorem common_spec (v : Value) (l : List Nat) (w : World) (hv : NF w v l) (hl : l.length ≤ 65536) (hg : GW w) : Ret Tryz.prog 199 [v, v] w fun u w' => DY w' u (comD l) ∧ Chg [] w w' := by
 have hch := crf w;have hg0 := hg;have hv0 := hv;have hov := hv.one;obtain ⟨⟨al, cl, rfl, hcap, hrl⟩, hWl, hll⟩ := id hv;refine zE2 Tryz.func199 rfl ?_;refine Sr fun _ kh1 => ?_;refine zBh rfl rfl rfl hch fun b2 wm2 hb2 hcm2 hge2 hgehch2 hch => ?_;refine zBh rfl rfl rfl hch fun b3 wm3 hb3 hcm3 hge3 hgehch3 hch => ?_;have hneb23 := zdd hb2.lt hge3;have hb2 := hb2.k0 hcm3;refine zAh rfl rfl hch fun b4 wm4 hb4 hcm4 hge4 hgehch4 hch => ?_;have hneb24 := zdd hb2.lt hge4;have hb2 := hb2.k0 hcm4;have hneb34 := zdd hb3.lt hge4;have hb3 := hb3.k0 hcm4;refine zz (kh1 (Sr fun _ kh3 => zl hb2 rfl rfl (zn rfl ?_)));refine WL.ev (Ev.makeFunc1 rfl) rfl ?_;refine WL.call hasF277 rfl rfl (mTotal_spec 278 [.pointer (some ⟨b2, 0, none⟩)] l.length (fun i => fdy (l.getD i 0)) _ hasF278 (fun i w' hi hc => common1_spec b2 i _ l w' (hb2.keep0 hc) (hv0.keep0 (hch.trans hc)) hi (hg0.keep0 (hch.trans hc))) (fun i => fdy_ok _) hl (hg0.keep0 hch)) fun v w1 h' => ?_;obtain ⟨⟨rx, rfl, hNrx⟩, hC⟩ := h';have horx := hNrx.one;have hch := hch.ta hC;have hb2 := hb2.k0 hC;have hb3 := hb3.k0 hC;have hb4 := hb4.k0 hC;refine zAh rfl rfl hch fun b5 wm5 hb5 hcm5 hge5 hgehch5 hch => ?_;have hNrx := hNrx.keep0 hcm5;have hneb25 := zdd hb2.lt hge5;have hb2 := hb2.k0 hcm5;have hneb35 := zdd hb3.lt hge5;have hb3 := hb3.k0 hcm5;have hneb45 := zdd hb4.lt hge5;have hb4 := hb4.k0 hcm5;refine zss rfl rfl ao hb5 rfl fun ws8 hb5_ hcs8 => ?_;(try simp only [Sx.splice, qt] at hb5_);have hch := hch.s1 hcs8;have hb2 := hb2.kq hcs8;have hb3 := hb3.kq hcs8;have hb4 := hb4.kq hcs8;have hNrx := hNrx.keepBK hb5 hcs8 an;have hb5 := hb5_;refine zz (kh3 (Sr fun _ kh5 => zl hb3 rfl rfl (zn rfl ?_)));refine WL.ev (Ev.makeFunc1 rfl) rfl ?_;refine WL.call hasF277 rfl rfl (mTotal_spec 280 [.pointer (some ⟨b3, 0, none⟩)] l.length (fun i => fdy (l.getD i 0)) _ hasF280 (fun i w' hi hc => common2_spec b3 i _ l w' (hb3.keep0 hc) (hv0.keep0 (hch.trans hc)) hi (hg0.keep0 (hch.trans hc))) (fun i => fdy_ok _) hl (hg0.keep0 hch)) fun v w2 h' => ?_;obtain ⟨⟨ry, rfl, hNry⟩, hC⟩ := h';have hory := hNry.one;have hch := hch.ta hC;have hb2 := hb2.k0 hC;have hb3 := hb3.k0 hC;have hb4 := hb4.k0 hC;have hb5 := hb5.k0 hC;have hNrx := hNrx.keep0 hC;refine zAh rfl rfl hch fun b6 wm6 hb6 hcm6 hge6 hgehch6 hch => ?_;have hNrx := hNrx.keep0 hcm6;have hNry := hNry.keep0 hcm6;have hneb26 := zdd hb2.lt hge6;have hb2 := hb2.k0 hcm6;have hneb36 := zdd hb3.lt hge6;have hb3 := hb3.k0 hcm6;have hneb46 := zdd hb4.lt hge6;have hb4 := hb4.k0 hcm6;have hneb56 := zdd hb5.lt hge6;have hb5 := hb5.k0 hcm6;refine zss rfl rfl ao hb6 rfl fun ws9 hb6_ hcs9 => ?_;(try simp only [Sx.splice, qt] at hb6_);have hch := hch.s1 hcs9;have hb2 := hb2.kq hcs9;have hb3 := hb3.kq hcs9;have hb4 := hb4.kq hcs9;have hb5 := hb5.kq hcs9;have hNrx := hNrx.keepBK hb6 hcs9 an;have hNry := hNry.keepBK hb6 hcs9 an;have hb6 := hb6_;refine zz (kh5 (Sr fun _ kh7 => zl hb2 rfl rfl (zn rfl ?_)));refine WL.ev (Ev.makeFuncC rfl rfl) rfl ?_;refine WL.call hasF277 rfl rfl (mTotal_spec 281 [.pointer (some ⟨b2, 0, none⟩), .pointer (some ⟨b3, 0, none⟩)] l.length (fun i => timD (fdy (l.getD i 0)) (fdy (l.getD i 0))) _ hasF281 (fun i w' hi hc => common3_spec b2 b3 i _ l w' (hb2.keep0 hc) (hb3.keep0 hc) (hv0.keep0 (hch.trans hc)) hi (hg0.keep0 (hch.trans hc))) (fun i => accD_ok _ _ 2) hl (hg0.keep0 hch)) fun v w3 h' => ?_;obtain ⟨⟨rp, rfl, hNrp⟩, hC⟩ := h';have horp := hNrp.one;have hch := hch.ta hC;have hb2 := hb2.k0 hC;have hb4 := hb4.k0 hC;have hb5 := hb5.k0 hC;have hb6 := hb6.k0 hC;have hNrx := hNrx.keep0 hC;have hNry := hNry.keep0 hC;refine zAh rfl rfl hch fun b7 wm7 hb7 hcm7 hge7 hgehch7 hch => ?_;have hNrx := hNrx.keep0 hcm7;have hNry := hNry.keep0 hcm7;have hNrp := hNrp.keep0 hcm7;have hneb27 := zdd hb2.lt hge7;have hb2 := hb2.k0 hcm7;have hneb47 := zdd hb4.lt hge7;have hb4 := hb4.k0 hcm7;have hneb57 := zdd hb5.lt hge7;have hb5 := hb5.k0 hcm7;have hneb67 := zdd hb6.lt hge7;have hb6 := hb6.k0 hcm7;refine zss rfl rfl ao hb7 rfl fun ws10 hb7_ hcs10 => ?_;(try simp only [Sx.splice, qt] at hb7_);have hch := hch.s1 hcs10;have hb2 := hb2.kq hcs10;have hb4 := hb4.kq hcs10;have hb5 := hb5.kq hcs10;have hb6 := hb6.kq hcs10;have hNrx := hNrx.keepBK hb7 hcs10 an;have hNry := hNry.keepBK hb7 hcs10 an;have hNrp := hNrp.keepBK hb7 hcs10 an;have hb7 := hb7_;refine zz (kh7 ?_);refine CW.seqJ (fun D s' w' => D = [] ∧ (∃ b8 rc, Sx.look s' 8 = some (.pointer (some ⟨b8, 0, none⟩)) ∧ BK w' b8 107 [.bool (comD l).neg, rc, .int .i64 (comD l).e] ∧ NU w' rc (wd (comD l).m) ∧ b4 ≠ b8) ∧ BK w' b4 107 [.bool false, .slice none 0 0, .int .i64 0] ∧ Chg [] w w' ∧ Subs [(4, .pointer (some ⟨b4, 0, none⟩))] s') ?_ ?_
 ·rw [totF_map fdy l] at hNrx hNry hb5 hb6;rw [totF_map (fun x => timD (fdy x) (fdy x)) l] at hNrp hb7;obtain ⟨X, hX⟩ : ∃ X, X = (totD (l.map fdy)) := ⟨_, rfl⟩;obtain ⟨Pp, hP⟩ : ∃ Pp, Pp = (totD (l.map fun x => timD (fdy x) (fdy x))) := ⟨_, rfl⟩;rw [← hX] at hNrx hNry hb5 hb6;rw [← hP] at hNrp hb7;have hokX : X.ok := by rw [hX, ← totF_map]; exact totF_ok (fun i => fdy_ok _) _
  have hokP : Pp.ok := by rw [hP, ← totF_map (fun x => timD (fdy x) (fdy x))]; exact totF_ok (fun i => accD_ok _ _ 2) _
  have hcom : comD l = (subD (timD (intD (l.length : Int)) Pp) (timD X X)).getD Dy.zero := by unfold comD; rw [hX, hP]
  refine CW.regionHC 17 rfl hmix fun kR10 kr10 hS hdr => ?_;have hch := hch.ta hdr;have hb2 := hb2.k0 hdr;have hb4 := hb4.k0 hdr;have hb5 := hb5.k0 hdr;have hb6 := hb6.k0 hdr;have hb7 := hb7.k0 hdr;have hNrx := hNrx.keep0 hdr;have hNry := hNry.keep0 hdr;have hNrp := hNrp.keep0 hdr;have hch_r := hch;have hb2_r := hb2;have hb4_r := hb4;have hb5_r := hb5;have hb6_r := hb6;have hb7_r := hb7;refine wh 0 rfl hS (fun _ hw' => Ev.load rfl rfl ((hb2_r.keep0 hw').at_ rfl)) (wh 1 rfl hS (fun _ _ => Ev.len rfl) (wh 3 rfl hS (fun _ hw' => Ev.loadA rfl rfl (hb7_r.keep0 hw') rfl) (wh 6 rfl hS (fun _ hw' => Ev.loadA rfl rfl (hb5_r.keep0 hw') rfl) (wh 7 rfl hS (fun _ hw' => Ev.loadA rfl rfl (hb6_r.keep0 hw') rfl) ?_))));have hokn : (intD (l.length : Int)).ok := intD_ok (by omega);have okt : (timD (intD (l.length : Int)) Pp).ok := accD_ok _ _ 2;have hlt4 := hb4_r.lt;refine WH.sub (s' := (cmS false false false false false false false l.length X Pp rx ry rp .nilIface .nilIface .nilIface .nilIface 0 0 0 b4)) (by (repeat (first | exact Subs.nil | refine Subs.cons rfl ?_))) ?_;refine WH.as fun W hW => ?_;have st245891014 : cmP W 5 true true true true true true true l X Pp rx ry rp b4 w ws10.drew := by
   intro w1 rn ra rb u b27 b31 b8 hB hS hF; rw [hW];obtain ⟨rc, kc, rfl, hNrc⟩ := hF.2.2.2.2.2.1 rfl; have horc := hNrc.one;refine wh 11 rfl hS (eM rfl) (wh 12 rfl hS (eX rfl rfl) (wh 13 rfl hS (eX rfl rfl) ?_));obtain ⟨hb8, hgeS⟩ := hF.2.2.2.2.2.2 rfl;have hn48 : b4 ≠ b8 := by omega
   refine WH.storeBN 15 rfl (by kernel_rfl) hS hgeS rfl rfl rfl ao hb8 (by simp) rfl fun w3 hb8_ hcs hS => ?_;(try simp only [Sx.splice, qt] at hb8_);have hNrc := hNrc.keepBK hb8 hcs an;have hch3 := hB.ch.step hcs (fun y hy => by simp only [List.mem_singleton] at hy; subst hy; exact .inr (by have := hch_r.size; omega));have hb4 := hB.h4.kq hcs;refine wh 16 rfl hS (eA rfl) ?_;refine WH.done (by kernel_rfl) (kr10 _ _ _ ?_);exact ⟨rfl, ⟨b8, rc, rfl, hb8_, hNrc, hn48⟩, hb4, hch3, by (repeat (first | exact Subs.nil | refine Subs.cons rfl ?_))⟩
  have st2458910 : cmP W 6 true true true true true true false l X Pp rx ry rp b4 w ws10.drew := by
   intro w1 rn ra rb u b27 b31 b8 hB hS hF; rw [hW];obtain ⟨rc, kc, rfl, hNrc⟩ := hF.2.2.2.2.2.1 rfl; have horc := hNrc.one;refine wh 11 rfl hS (eM rfl) (wh 12 rfl hS (eX rfl rfl) (wh 13 rfl hS (eX rfl rfl) ?_));refine WH.allocC (l := [.bool false, .slice none 0 0, .int .i64 0]) 14 rfl (by kernel_rfl) hS rfl rfl fun b8 w2 hb8 hcm hge hS1 => ?_; have hgeS := Nat.le_trans hS.size hge; have hB := hB.keep0 hcm; have hS := hS1; have hNrc := hNrc.keep0 hcm;have hn48 : b4 ≠ b8 := by omega
   refine WH.storeBN 15 rfl (by kernel_rfl) hS hgeS rfl rfl rfl ao hb8 (by simp) rfl fun w3 hb8_ hcs hS => ?_;(try simp only [Sx.splice, qt] at hb8_);have hNrc := hNrc.keepBK hb8 hcs an;have hch3 := hB.ch.step hcs (fun y hy => by simp only [List.mem_singleton] at hy; subst hy; exact .inr (by have := hch_r.size; omega));have hb4 := hB.h4.kq hcs;refine wh 16 rfl hS (eA rfl) ?_;refine WH.done (by kernel_rfl) (kr10 _ _ _ ?_);exact ⟨rfl, ⟨b8, rc, rfl, hb8_, hNrc, hn48⟩, hb4, hch3, by (repeat (first | exact Subs.nil | refine Subs.cons rfl ?_))⟩
  have st2458914 : cmP W 6 true true true true true false true l X Pp rx ry rp b4 w ws10.drew := by
   intro w1 rn ra rb u b27 b31 b8 hB hS hF; rw [hW];refine WH.all1 10 (by kernel_rfl) ?_
   ·refine WHat.call 10 rfl hasF189 rfl rfl (Sub_dspec _ _ _ _ _ _ _ _ _ (hF.2.2.1 rfl) (hF.2.2.2.2.1 rfl) (hg0.keep0 hB.ch) (ok_i64 (accD_ok _ _ 2)) (ok_i64 (accD_ok _ _ 2))) fun u w2 ⟨hD, hC⟩ => ?_;have hr := cmR hD okt hcom; refine ⟨hS.trans hC, ?_⟩;have q := st245891014 _ rn ra rb u b27 b31 b8 (hB.keep0 hC) (hS.trans hC) ⟨nofun, nofun, nofun, nofun, nofun, fun _ => hr, fun _ => ⟨(hF.2.2.2.2.2.2 rfl).1.keep0 hC, (hF.2.2.2.2.2.2 rfl).2⟩⟩; rw [hW] at q; exact WH.sub SLq q
  have st24589 : cmP W 7 true true true true true false false l X Pp rx ry rp b4 w ws10.drew := by
   intro w1 rn ra rb u b27 b31 b8 hB hS hF; rw [hW];refine WH.all2 10 14 (by kernel_rfl) ?_ ?_
   ·refine WHat.call 10 rfl hasF189 rfl rfl (Sub_dspec _ _ _ _ _ _ _ _ _ (hF.2.2.1 rfl) (hF.2.2.2.2.1 rfl) (hg0.keep0 hB.ch) (ok_i64 (accD_ok _ _ 2)) (ok_i64 (accD_ok _ _ 2))) fun u w2 ⟨hD, hC⟩ => ?_;have hr := cmR hD okt hcom; refine ⟨hS.trans hC, ?_⟩;have q := st2458910 _ rn ra rb u b27 b31 b8 (hB.keep0 hC) (hS.trans hC) ⟨nofun, nofun, nofun, nofun, nofun, fun _ => hr, nofun⟩; rw [hW] at q; exact WH.sub SLq q
   refine WHat.allocC (l := [.bool false, .slice none 0 0, .int .i64 0]) 14 rfl hS rfl rfl fun b8 w2 hb8 hcm hge hS1 => ?_;have q := st2458914 _ rn ra rb u b27 b31 b8 (hB.keep0 hcm) (hS.trans hcm) ⟨nofun, nofun, fun _ => (hF.2.2.1 rfl).keep0 hcm, nofun, fun _ => (hF.2.2.2.2.1 rfl).keep0 hcm, nofun, fun _ => ⟨hb8, Nat.le_trans hS.size hge⟩⟩; rw [hW] at q; exact WH.sub SLq q
  have st245814 : cmP W 7 true true true true false false true l X Pp rx ry rp b4 w ws10.drew := by
   intro w1 rn ra rb u b27 b31 b8 hB hS hF; rw [hW];refine WH.all1 9 (by kernel_rfl) ?_
   ·refine WHat.call 9 rfl hasF272 rfl rfl (mtimes_spec b31 _ _ rx ry _ (hF.2.2.2.1 rfl) hB.nx hB.ny hokX hokX (hg0.keep0 hB.ch)) fun v w2 ⟨⟨rb, e, hN⟩, hC⟩ => ?_;subst e; refine ⟨hS.trans hC, ?_⟩;have q := st2458914 _ rn ra rb u b27 b31 b8 (hB.keep0 hC) (hS.trans hC) ⟨nofun, nofun, fun _ => (hF.2.2.1 rfl).keep0 hC, nofun, fun _ => hN, nofun, fun _ => ⟨(hF.2.2.2.2.2.2 rfl).1.keep0 hC, (hF.2.2.2.2.2.2 rfl).2⟩⟩; rw [hW] at q; exact WH.sub SLq q
  have st2458 : cmP W 8 true true true true false false false l X Pp rx ry rp b4 w ws10.drew := by
   intro w1 rn ra rb u b27 b31 b8 hB hS hF; rw [hW];refine WH.all2 9 14 (by kernel_rfl) ?_ ?_
   ·refine WHat.call 9 rfl hasF272 rfl rfl (mtimes_spec b31 _ _ rx ry _ (hF.2.2.2.1 rfl) hB.nx hB.ny hokX hokX (hg0.keep0 hB.ch)) fun v w2 ⟨⟨rb, e, hN⟩, hC⟩ => ?_;subst e; refine ⟨hS.trans hC, ?_⟩;have q := st24589 _ rn ra rb u b27 b31 b8 (hB.keep0 hC) (hS.trans hC) ⟨nofun, nofun, fun _ => (hF.2.2.1 rfl).keep0 hC, nofun, fun _ => hN, nofun, nofun⟩; rw [hW] at q; exact WH.sub SLq q
   refine WHat.allocC (l := [.bool false, .slice none 0 0, .int .i64 0]) 14 rfl hS rfl rfl fun b8 w2 hb8 hcm hge hS1 => ?_;have q := st245814 _ rn ra rb u b27 b31 b8 (hB.keep0 hcm) (hS.trans hcm) ⟨nofun, nofun, fun _ => (hF.2.2.1 rfl).keep0 hcm, fun _ => (hF.2.2.2.1 rfl).keep0 hcm, nofun, nofun, fun _ => ⟨hb8, Nat.le_trans hS.size hge⟩⟩; rw [hW] at q; exact WH.sub SLq q
  have st24514 : cmP W 8 true true true false false false true l X Pp rx ry rp b4 w ws10.drew := by
   intro w1 rn ra rb u b27 b31 b8 hB hS hF; rw [hW];refine WH.all1 8 (by kernel_rfl) ?_
   ·have o1 := hB.nx.one; have o2 := hB.ny.one;refine WHat.buildSlice (m := 2) (cs := cmC X X rx ry) 8 rfl hS (by decide) (by decide) rfl (by kernel_rfl) rfl fun b31 w2 hn hS2 => ?_;have q := st245814 _ rn ra rb u b27 b31 b8 (hB.keep0 hn.chg) (hS.trans hn.chg) ⟨nofun, nofun, fun _ => (hF.2.2.1 rfl).keep0 hn.chg, fun _ => hn.at_, nofun, nofun, fun _ => ⟨(hF.2.2.2.2.2.2 rfl).1.keep0 hn.chg, (hF.2.2.2.2.2.2 rfl).2⟩⟩; rw [hW] at q; exact WH.sub SLq q
  have st24814 : cmP W 8 true true false true false false true l X Pp rx ry rp b4 w ws10.drew := by
   intro w1 rn ra rb u b27 b31 b8 hB hS hF; rw [hW];refine WH.all1 5 (by kernel_rfl) ?_
   ·refine WHat.call 5 rfl hasF272 rfl rfl (mtimes_spec b27 _ _ rn rp _ (hF.2.1 rfl) (hF.1 rfl) hB.np hokn hokP (hg0.keep0 hB.ch)) fun v w2 ⟨⟨ra, e, hN⟩, hC⟩ => ?_;subst e; refine ⟨hS.trans hC, ?_⟩;have q := st245814 _ rn ra rb u b27 b31 b8 (hB.keep0 hC) (hS.trans hC) ⟨nofun, nofun, fun _ => hN, fun _ => (hF.2.2.2.1 rfl).keep0 hC, nofun, nofun, fun _ => ⟨(hF.2.2.2.2.2.2 rfl).1.keep0 hC, (hF.2.2.2.2.2.2 rfl).2⟩⟩; rw [hW] at q; exact WH.sub SLq q
  have st245 : cmP W 9 true true true false false false false l X Pp rx ry rp b4 w ws10.drew := by
   intro w1 rn ra rb u b27 b31 b8 hB hS hF; rw [hW];refine WH.all2 8 14 (by kernel_rfl) ?_ ?_
   ·have o1 := hB.nx.one; have o2 := hB.ny.one;refine WHat.buildSlice (m := 2) (cs := cmC X X rx ry) 8 rfl hS (by decide) (by decide) rfl (by kernel_rfl) rfl fun b31 w2 hn hS2 => ?_;have q := st2458 _ rn ra rb u b27 b31 b8 (hB.keep0 hn.chg) (hS.trans hn.chg) ⟨nofun, nofun, fun _ => (hF.2.2.1 rfl).keep0 hn.chg, fun _ => hn.at_, nofun, nofun, nofun⟩; rw [hW] at q; exact WH.sub SLq q
   refine WHat.allocC (l := [.bool false, .slice none 0 0, .int .i64 0]) 14 rfl hS rfl rfl fun b8 w2 hb8 hcm hge hS1 => ?_;have q := st24514 _ rn ra rb u b27 b31 b8 (hB.keep0 hcm) (hS.trans hcm) ⟨nofun, nofun, fun _ => (hF.2.2.1 rfl).keep0 hcm, nofun, nofun, nofun, fun _ => ⟨hb8, Nat.le_trans hS.size hge⟩⟩; rw [hW] at q; exact WH.sub SLq q
  have st248 : cmP W 9 true true false true false false false l X Pp rx ry rp b4 w ws10.drew := by
   intro w1 rn ra rb u b27 b31 b8 hB hS hF; rw [hW];refine WH.all2 5 14 (by kernel_rfl) ?_ ?_
   ·refine WHat.call 5 rfl hasF272 rfl rfl (mtimes_spec b27 _ _ rn rp _ (hF.2.1 rfl) (hF.1 rfl) hB.np hokn hokP (hg0.keep0 hB.ch)) fun v w2 ⟨⟨ra, e, hN⟩, hC⟩ => ?_;subst e; refine ⟨hS.trans hC, ?_⟩;have q := st2458 _ rn ra rb u b27 b31 b8 (hB.keep0 hC) (hS.trans hC) ⟨nofun, nofun, fun _ => hN, fun _ => (hF.2.2.2.1 rfl).keep0 hC, nofun, nofun, nofun⟩; rw [hW] at q; exact WH.sub SLq q
   refine WHat.allocC (l := [.bool false, .slice none 0 0, .int .i64 0]) 14 rfl hS rfl rfl fun b8 w2 hb8 hcm hge hS1 => ?_;have q := st24814 _ rn ra rb u b27 b31 b8 (hB.keep0 hcm) (hS.trans hcm) ⟨fun _ => (hF.1 rfl).keep0 hcm, fun _ => (hF.2.1 rfl).keep0 hcm, nofun, fun _ => (hF.2.2.2.1 rfl).keep0 hcm, nofun, nofun, fun _ => ⟨hb8, Nat.le_trans hS.size hge⟩⟩; rw [hW] at q; exact WH.sub SLq q
  have st2414 : cmP W 9 true true false false false false true l X Pp rx ry rp b4 w ws10.drew := by
   intro w1 rn ra rb u b27 b31 b8 hB hS hF; rw [hW];refine WH.all2 5 8 (by kernel_rfl) ?_ ?_
   ·refine WHat.call 5 rfl hasF272 rfl rfl (mtimes_spec b27 _ _ rn rp _ (hF.2.1 rfl) (hF.1 rfl) hB.np hokn hokP (hg0.keep0 hB.ch)) fun v w2 ⟨⟨ra, e, hN⟩, hC⟩ => ?_;subst e; refine ⟨hS.trans hC, ?_⟩;have q := st24514 _ rn ra rb u b27 b31 b8 (hB.keep0 hC) (hS.trans hC) ⟨nofun, nofun, fun _ => hN, nofun, nofun, nofun, fun _ => ⟨(hF.2.2.2.2.2.2 rfl).1.keep0 hC, (hF.2.2.2.2.2.2 rfl).2⟩⟩; rw [hW] at q; exact WH.sub SLq q
   have o1 := hB.nx.one; have o2 := hB.ny.one;refine WHat.buildSlice (m := 2) (cs := cmC X X rx ry) 8 rfl hS (by decide) (by decide) rfl (by kernel_rfl) rfl fun b31 w2 hn hS2 => ?_;have q := st24814 _ rn ra rb u b27 b31 b8 (hB.keep0 hn.chg) (hS.trans hn.chg) ⟨fun _ => (hF.1 rfl).keep0 hn.chg, fun _ => (hF.2.1 rfl).keep0 hn.chg, nofun, fun _ => hn.at_, nofun, nofun, fun _ => ⟨(hF.2.2.2.2.2.2 rfl).1.keep0 hn.chg, (hF.2.2.2.2.2.2 rfl).2⟩⟩; rw [hW] at q; exact WH.sub SLq q
  have st2814 : cmP W 9 true false false true false false true l X Pp rx ry rp b4 w ws10.drew := by
   intro w1 rn ra rb u b27 b31 b8 hB hS hF; rw [hW];refine WH.all1 4 (by kernel_rfl) ?_
   ·have o1 := (hF.1 rfl).one; have o2 := hB.np.one;refine WHat.buildSlice (m := 2) (cs := cmC (intD (l.length : Int)) Pp rn rp) 4 rfl hS (by decide) (by decide) rfl (by kernel_rfl) rfl fun b27 w2 hn hS2 => ?_;have q := st24814 _ rn ra rb u b27 b31 b8 (hB.keep0 hn.chg) (hS.trans hn.chg) ⟨fun _ => (hF.1 rfl).keep0 hn.chg, fun _ => hn.at_, nofun, fun _ => (hF.2.2.2.1 rfl).keep0 hn.chg, nofun, nofun, fun _ => ⟨(hF.2.2.2.2.2.2 rfl).1.keep0 hn.chg, (hF.2.2.2.2.2.2 rfl).2⟩⟩; rw [hW] at q; exact WH.sub SLq q
  have st24 : cmP W 10 true true false false false false false l X Pp rx ry rp b4 w ws10.drew := by
   intro w1 rn ra rb u b27 b31 b8 hB hS hF; rw [hW];refine WH.all3 5 8 14 (by kernel_rfl) ?_ ?_ ?_
   ·refine WHat.call 5 rfl hasF272 rfl rfl (mtimes_spec b27 _ _ rn rp _ (hF.2.1 rfl) (hF.1 rfl) hB.np hokn hokP (hg0.keep0 hB.ch)) fun v w2 ⟨⟨ra, e, hN⟩, hC⟩ => ?_;subst e; refine ⟨hS.trans hC, ?_⟩;have q := st245 _ rn ra rb u b27 b31 b8 (hB.keep0 hC) (hS.trans hC) ⟨nofun, nofun, fun _ => hN, nofun, nofun, nofun, nofun⟩; rw [hW] at q; exact WH.sub SLq q
   ·have o1 := hB.nx.one; have o2 := hB.ny.one;refine WHat.buildSlice (m := 2) (cs := cmC X X rx ry) 8 rfl hS (by decide) (by decide) rfl (by kernel_rfl) rfl fun b31 w2 hn hS2 => ?_;have q := st248 _ rn ra rb u b27 b31 b8 (hB.keep0 hn.chg) (hS.trans hn.chg) ⟨fun _ => (hF.1 rfl).keep0 hn.chg, fun _ => (hF.2.1 rfl).keep0 hn.chg, nofun, fun _ => hn.at_, nofun, nofun, nofun⟩; rw [hW] at q; exact WH.sub SLq q
   refine WHat.allocC (l := [.bool false, .slice none 0 0, .int .i64 0]) 14 rfl hS rfl rfl fun b8 w2 hb8 hcm hge hS1 => ?_;have q := st2414 _ rn ra rb u b27 b31 b8 (hB.keep0 hcm) (hS.trans hcm) ⟨fun _ => (hF.1 rfl).keep0 hcm, fun _ => (hF.2.1 rfl).keep0 hcm, nofun, nofun, nofun, nofun, fun _ => ⟨hb8, Nat.le_trans hS.size hge⟩⟩; rw [hW] at q; exact WH.sub SLq q
  have st28 : cmP W 10 true false false true false false false l X Pp rx ry rp b4 w ws10.drew := by
   intro w1 rn ra rb u b27 b31 b8 hB hS hF; rw [hW];refine WH.all2 4 14 (by kernel_rfl) ?_ ?_
   ·have o1 := (hF.1 rfl).one; have o2 := hB.np.one;refine WHat.buildSlice (m := 2) (cs := cmC (intD (l.length : Int)) Pp rn rp) 4 rfl hS (by decide) (by decide) rfl (by kernel_rfl) rfl fun b27 w2 hn hS2 => ?_;have q := st248 _ rn ra rb u b27 b31 b8 (hB.keep0 hn.chg) (hS.trans hn.chg) ⟨fun _ => (hF.1 rfl).keep0 hn.chg, fun _ => hn.at_, nofun, fun _ => (hF.2.2.2.1 rfl).keep0 hn.chg, nofun, nofun, nofun⟩; rw [hW] at q; exact WH.sub SLq q
   refine WHat.allocC (l := [.bool false, .slice none 0 0, .int .i64 0]) 14 rfl hS rfl rfl fun b8 w2 hb8 hcm hge hS1 => ?_;have q := st2814 _ rn ra rb u b27 b31 b8 (hB.keep0 hcm) (hS.trans hcm) ⟨fun _ => (hF.1 rfl).keep0 hcm, nofun, nofun, fun _ => (hF.2.2.2.1 rfl).keep0 hcm, nofun, nofun, fun _ => ⟨hb8, Nat.le_trans hS.size hge⟩⟩; rw [hW] at q; exact WH.sub SLq q
  have st214 : cmP W 10 true false false false false false true l X Pp rx ry rp b4 w ws10.drew := by
   intro w1 rn ra rb u b27 b31 b8 hB hS hF; rw [hW];refine WH.all2 4 8 (by kernel_rfl) ?_ ?_
   ·have o1 := (hF.1 rfl).one; have o2 := hB.np.one;refine WHat.buildSlice (m := 2) (cs := cmC (intD (l.length : Int)) Pp rn rp) 4 rfl hS (by decide) (by decide) rfl (by kernel_rfl) rfl fun b27 w2 hn hS2 => ?_;have q := st2414 _ rn ra rb u b27 b31 b8 (hB.keep0 hn.chg) (hS.trans hn.chg) ⟨fun _ => (hF.1 rfl).keep0 hn.chg, fun _ => hn.at_, nofun, nofun, nofun, nofun, fun _ => ⟨(hF.2.2.2.2.2.2 rfl).1.keep0 hn.chg, (hF.2.2.2.2.2.2 rfl).2⟩⟩; rw [hW] at q; exact WH.sub SLq q
   have o1 := hB.nx.one; have o2 := hB.ny.one;refine WHat.buildSlice (m := 2) (cs := cmC X X rx ry) 8 rfl hS (by decide) (by decide) rfl (by kernel_rfl) rfl fun b31 w2 hn hS2 => ?_;have q := st2814 _ rn ra rb u b27 b31 b8 (hB.keep0 hn.chg) (hS.trans hn.chg) ⟨fun _ => (hF.1 rfl).keep0 hn.chg, nofun, nofun, fun _ => hn.at_, nofun, nofun, fun _ => ⟨(hF.2.2.2.2.2.2 rfl).1.keep0 hn.chg, (hF.2.2.2.2.2.2 rfl).2⟩⟩; rw [hW] at q; exact WH.sub SLq q
  have st814 : cmP W 10 false false false true false false true l X Pp rx ry rp b4 w ws10.drew := by
   intro w1 rn ra rb u b27 b31 b8 hB hS hF; rw [hW];refine WH.all1 2 (by kernel_rfl) ?_
   ·refine WHat.call 2 rfl hasF179 rfl rfl (Int_spec (l.length : Int) _ (hg0.keep0 hB.ch) (by omega)) fun v w2 ⟨⟨rn, e, hN⟩, hC⟩ => ?_;subst e; refine ⟨hS.trans hC, ?_⟩;have q := st2814 _ rn ra rb u b27 b31 b8 (hB.keep0 hC) (hS.trans hC) ⟨fun _ => hN, nofun, nofun, fun _ => (hF.2.2.2.1 rfl).keep0 hC, nofun, nofun, fun _ => ⟨(hF.2.2.2.2.2.2 rfl).1.keep0 hC, (hF.2.2.2.2.2.2 rfl).2⟩⟩; rw [hW] at q; exact WH.sub SLq q
  have st2 : cmP W 11 true false false false false false false l X Pp rx ry rp b4 w ws10.drew := by
   intro w1 rn ra rb u b27 b31 b8 hB hS hF; rw [hW];refine WH.all3 4 8 14 (by kernel_rfl) ?_ ?_ ?_
   ·have o1 := (hF.1 rfl).one; have o2 := hB.np.one;refine WHat.buildSlice (m := 2) (cs := cmC (intD (l.length : Int)) Pp rn rp) 4 rfl hS (by decide) (by decide) rfl (by kernel_rfl) rfl fun b27 w2 hn hS2 => ?_;have q := st24 _ rn ra rb u b27 b31 b8 (hB.keep0 hn.chg) (hS.trans hn.chg) ⟨fun _ => (hF.1 rfl).keep0 hn.chg, fun _ => hn.at_, nofun, nofun, nofun, nofun, nofun⟩; rw [hW] at q; exact WH.sub SLq q
   ·have o1 := hB.nx.one; have o2 := hB.ny.one;refine WHat.buildSlice (m := 2) (cs := cmC X X rx ry) 8 rfl hS (by decide) (by decide) rfl (by kernel_rfl) rfl fun b31 w2 hn hS2 => ?_;have q := st28 _ rn ra rb u b27 b31 b8 (hB.keep0 hn.chg) (hS.trans hn.chg) ⟨fun _ => (hF.1 rfl).keep0 hn.chg, nofun, nofun, fun _ => hn.at_, nofun, nofun, nofun⟩; rw [hW] at q; exact WH.sub SLq q
   refine WHat.allocC (l := [.bool false, .slice none 0 0, .int .i64 0]) 14 rfl hS rfl rfl fun b8 w2 hb8 hcm hge hS1 => ?_;have q := st214 _ rn ra rb u b27 b31 b8 (hB.keep0 hcm) (hS.trans hcm) ⟨fun _ => (hF.1 rfl).keep0 hcm, nofun, nofun, nofun, nofun, nofun, fun _ => ⟨hb8, Nat.le_trans hS.size hge⟩⟩; rw [hW] at q; exact WH.sub SLq q
  have st8 : cmP W 11 false false false true false false false l X Pp rx ry rp b4 w ws10.drew := by
   intro w1 rn ra rb u b27 b31 b8 hB hS hF; rw [hW];refine WH.all2 2 14 (by kernel_rfl) ?_ ?_
   ·refine WHat.call 2 rfl hasF179 rfl rfl (Int_spec (l.length : Int) _ (hg0.keep0 hB.ch) (by omega)) fun v w2 ⟨⟨rn, e, hN⟩, hC⟩ => ?_;subst e; refine ⟨hS.trans hC, ?_⟩;have q := st28 _ rn ra rb u b27 b31 b8 (hB.keep0 hC) (hS.trans hC) ⟨fun _ => hN, nofun, nofun, fun _ => (hF.2.2.2.1 rfl).keep0 hC, nofun, nofun, nofun⟩; rw [hW] at q; exact WH.sub SLq q
   refine WHat.allocC (l := [.bool false, .slice none 0 0, .int .i64 0]) 14 rfl hS rfl rfl fun b8 w2 hb8 hcm hge hS1 => ?_;have q := st814 _ rn ra rb u b27 b31 b8 (hB.keep0 hcm) (hS.trans hcm) ⟨nofun, nofun, nofun, fun _ => (hF.2.2.2.1 rfl).keep0 hcm, nofun, nofun, fun _ => ⟨hb8, Nat.le_trans hS.size hge⟩⟩; rw [hW] at q; exact WH.sub SLq q
  have st14 : cmP W 11 false false false false false false true l X Pp rx ry rp b4 w ws10.drew := by
   intro w1 rn ra rb u b27 b31 b8 hB hS hF; rw [hW];refine WH.all2 2 8 (by kernel_rfl) ?_ ?_
   ·refine WHat.call 2 rfl hasF179 rfl rfl (Int_spec (l.length : Int) _ (hg0.keep0 hB.ch) (by omega)) fun v w2 ⟨⟨rn, e, hN⟩, hC⟩ => ?_;subst e; refine ⟨hS.trans hC, ?_⟩;have q := st214 _ rn ra rb u b27 b31 b8 (hB.keep0 hC) (hS.trans hC) ⟨fun _ => hN, nofun, nofun, nofun, nofun, nofun, fun _ => ⟨(hF.2.2.2.2.2.2 rfl).1.keep0 hC, (hF.2.2.2.2.2.2 rfl).2⟩⟩; rw [hW] at q; exact WH.sub SLq q
   have o1 := hB.nx.one; have o2 := hB.ny.one;refine WHat.buildSlice (m := 2) (cs := cmC X X rx ry) 8 rfl hS (by decide) (by decide) rfl (by kernel_rfl) rfl fun b31 w2 hn hS2 => ?_;have q := st814 _ rn ra rb u b27 b31 b8 (hB.keep0 hn.chg) (hS.trans hn.chg) ⟨nofun, nofun, nofun, fun _ => hn.at_, nofun, nofun, fun _ => ⟨(hF.2.2.2.2.2.2 rfl).1.keep0 hn.chg, (hF.2.2.2.2.2.2 rfl).2⟩⟩; rw [hW] at q; exact WH.sub SLq q
  have st : cmP W 12 false false false false false false false l X Pp rx ry rp b4 w ws10.drew := by
   intro w1 rn ra rb u b27 b31 b8 hB hS hF; rw [hW];refine WH.all3 2 8 14 (by kernel_rfl) ?_ ?_ ?_
   ·refine WHat.call 2 rfl hasF179 rfl rfl (Int_spec (l.length : Int) _ (hg0.keep0 hB.ch) (by omega)) fun v w2 ⟨⟨rn, e, hN⟩, hC⟩ => ?_;subst e; refine ⟨hS.trans hC, ?_⟩;have q := st2 _ rn ra rb u b27 b31 b8 (hB.keep0 hC) (hS.trans hC) ⟨fun _ => hN, nofun, nofun, nofun, nofun, nofun, nofun⟩; rw [hW] at q; exact WH.sub SLq q
   ·have o1 := hB.nx.one; have o2 := hB.ny.one;refine WHat.buildSlice (m := 2) (cs := cmC X X rx ry) 8 rfl hS (by decide) (by decide) rfl (by kernel_rfl) rfl fun b31 w2 hn hS2 => ?_;have q := st8 _ rn ra rb u b27 b31 b8 (hB.keep0 hn.chg) (hS.trans hn.chg) ⟨nofun, nofun, nofun, fun _ => hn.at_, nofun, nofun, nofun⟩; rw [hW] at q; exact WH.sub SLq q
   refine WHat.allocC (l := [.bool false, .slice none 0 0, .int .i64 0]) 14 rfl hS rfl rfl fun b8 w2 hb8 hcm hge hS1 => ?_;have q := st14 _ rn ra rb u b27 b31 b8 (hB.keep0 hcm) (hS.trans hcm) ⟨nofun, nofun, nofun, nofun, nofun, nofun, fun _ => ⟨hb8, Nat.le_trans hS.size hge⟩⟩; rw [hW] at q; exact WH.sub SLq q
  have q := st _ .nilIface .nilIface .nilIface .nilIface 0 0 0 ⟨hch, hNrx, hNry, hNrp, hb4⟩ (Chg.refl _ _) ⟨nofun, nofun, nofun, nofun, nofun, nofun, nofun⟩;exact q
 rintro _ s' wJ ⟨rfl, ⟨b8, rc, hl8, hb8, hNrc, hn48⟩, hb4, hch, hsub⟩;refine CW.sub (s' := [(8, .pointer (some ⟨b8, 0, none⟩)), (4, .pointer (some ⟨b4, 0, none⟩))]) (Subs.look8 hsub hl8) ?_;have horc := hNrc.one;refine Sr fun _ kh11 => zg hb8 rfl ?_;refine zss rfl rfl ao hb4 rfl fun ws15 hb4_ hcs15 => ?_;(try simp only [Sx.splice, qt] at hb4_);have hch := hch.s1 hcs15;have hNrc := hNrc.keepBK hb4 hcs15 an;have hb4 := hb4_;refine zz (kh11 ?_);refine zr (bodyA.retR1 rfl (RVal.cell rfl (hb4.varA rfl rfl)) ?_);exact ⟨⟨_, rfl, hNrc⟩, hch⟩

end

/- Package moment: squares, Var. No condition. -/
section
open Go Sx Wd Fl

theorem comD_ok (k : List Nat) : (comD k).ok := getD_ok fun v h => getD_v (accD_ok _ _ 2) (accD_ok _ _ 2) h

theorem squares_spec (v : Value) (l : List Nat) (less mode pn pi : Int) (w : World) (hv : NF w v l) (hg : GW w) : Ret Tryz.prog 109 [v, .int .i64 less, .int .i64 mode, .agg [.int .i64 pn, .int .i64 pi].toArray, .func (.func 110) #[] #[]] w fun u w' => (∃ b e, u = .tuple [.float .f64 b, .int .i64 e].toArray ∧ varR l less mode pn pi b e) ∧ Chg [] w w' := by
 have hch := crf w;have hg0 := hg;have hv0 := hv;have hov := hv.one;refine zE5 Tryz.func109 rfl ?_;refine Sr fun _ kh1 => ?_;refine zBh rfl rfl rfl hch fun b8 wm8 hb8 hcm8 hge8 hgehch8 hch => ?_;refine za rfl (za rfl (zz (kh1 (zc fun _ kh3 => ?_))));refine CW.seqMC 23 (decide (¬ (((0 ≤ mode ∧ mode ≤ 4) ∧ (less = 0 ∨ less = 1)) ∧ mayQ pn pi))) ?_ ?_
 ·intro hcM;refine zS fun _ kr4 => zm rfl (zm rfl ?_);refine WL.call hasF188 rfl rfl (momMay_spec mode less _) fun v w1 h' => ?_;obtain ⟨rfl, rfl⟩ := h';refine zT rfl (zm rfl ?_);refine zb ?_ ?_<;>intro hg1<;>try simp only [qs] at hg1
  ·refine zv rfl (zv rfl (zv rfl (zt rfl rfl (zz (kr4 ?_)))));refine ⟨rfl, hcM, Subs.consB rfl ?_ ?_⟩
   ·first | (simp_all; done) | (simp; omega) | (refine decide_eq_decide.2 ?_; omega)
   exact SMg
  refine zw rfl ?_;refine WL.ev (Ev.loadB (cs := [.int .i64 pn, .int .i64 pi]) rfl rfl hb8 rfl rfl) rfl ?_;refine zw rfl ?_;refine WL.call hasF99 rfl rfl (May_spec pn pi _) fun v w2 h' => ?_;obtain ⟨rfl, hC⟩ := h';have hcM := hcM.ta hC;refine zw rfl (zT rfl (ze rfl rfl (zz (kr4 ?_))));refine ⟨rfl, hcM, Subs.consB rfl ?_ ?_⟩
  ·first | (simp_all; done) | (simp; omega) | (refine decide_eq_decide.2 ?_; omega)
  exact SMg
 intro wM hcM;have hch := hch.ta hcM;have hb8 := hb8.k0 hcM;refine zy rfl ?_ ?_<;>intro hc2<;>try simp only [qs] at hc2
 ·have hq : ¬ (((0 ≤ mode ∧ mode ≤ 4) ∧ (less = 0 ∨ less = 1)) ∧ mayQ pn pi) := hc2
  refine Sr fun _ kh5 => za rfl (za rfl (zz (kh5 ?_)));refine zr (zr2 rfl rfl rfl ?_);refine ⟨⟨_, _, rfl, ?_⟩, hch⟩;exact .inl ⟨hq, rfl, rfl⟩
 have hq : (((0 ≤ mode ∧ mode ≤ 4) ∧ (less = 0 ∨ less = 1)) ∧ mayQ pn pi) := hc2;obtain ⟨⟨hq1, hq2⟩, hq3⟩ := id hq;refine zkk (kh3 (Sr fun _ kh7 => zm rfl ?_));refine WL.ev (Ev.loadB (cs := [.int .i64 pn, .int .i64 pi]) rfl rfl hb8 rfl rfl) rfl ?_;refine WL.call hasF105 rfl rfl (Sift_spec v l pn pi _ (hv0.keep0 hch)) fun v w3 h' => ?_;rcases h' with ⟨hse, rfl, hC27⟩ | ⟨hse, v2, hNf, rfl, hC27⟩
 ·have hch := hch.trans hC27;unfold SP.cells;refine zm rfl (zx rfl rfl (zx rfl rfl (zx rfl rfl ?_)));refine WL.allocB (l := [.int .i64 0, .int .i64 0, .int .i64 0, .int .i64 0, .int .i64 0, .int .i64 0]) rfl rfl fun b13 wm13 hb13 hcm13 hge13 => ?_;have hgehch13 := Nat.le_trans hch.size hge13;have hch := hch.ta hcm13;refine za rfl ?_;refine zss rfl rfl ao hb13 rfl fun ws16 hb13_ hcs16 => ?_;have hch := hch.s1 hcs16;refine za rfl (zz (kh7 (zc fun _ kh9 => CW.block (Sr fun _ kh10 => zm rfl (zN rfl rfl (za rfl (zz (kh10 ?_))))))));refine zy rfl ?_ ?_<;>intro hc3<;>try simp only [qs] at hc3
  ·refine Sr fun _ kh12 => zm rfl (za rfl (za rfl (zz (kh12 ?_))));refine zr (zr2 rfl rfl rfl ?_);refine ⟨⟨_, _, rfl, ?_⟩, hch⟩;exact .inr ⟨hq, .inl ⟨hse, rfl, rfl⟩⟩
  exact absurd hc3 hse
 have hch := hch.trans hC27;have hb8 := hb8.k0 hC27;unfold SP.cells;obtain ⟨hl65, hmay⟩ := siftE_len hse;have hfl := filP_le l;obtain ⟨hcl1, hcl2, hcl3, hcl4, hcl5, hcl6⟩ := cnt_le l;have hof := hNf.one;refine zm rfl (zx rfl rfl (zx rfl rfl (zx rfl rfl ?_)));refine WL.allocB (l := [.int .i64 0, .int .i64 0, .int .i64 0, .int .i64 0, .int .i64 0, .int .i64 0]) rfl rfl fun b13 wm13 hb13 hcm13 hge13 => ?_;have hgehch13 := Nat.le_trans hch.size hge13;have hch := hch.ta hcm13;have hNf := hNf.keep0 hcm13;have hneb813 := zdd hb8.lt hge13;have hb8 := hb8.k0 hcm13;refine za rfl ?_;refine zss rfl rfl ao hb13 rfl fun ws17 hb13_ hcs17 => ?_;(try simp only [Sx.splice, qt] at hb13_);have hch := hch.s1 hcs17;have hb8 := hb8.kq hcs17;have hNf := hNf.keepBK hb13 hcs17 an;have hb13 := hb13_;refine za rfl (zz (kh7 (zc fun _ kh14 => CW.block (Sr fun _ kh15 => zm rfl (zN rfl rfl (za rfl (zz (kh15 ?_))))))));refine CW.condF rfl ?_;refine CW.seqJ (fun D s' w' => D = [] ∧ BK w' b8 34 [.int .i64 pn, .int .i64 pi] ∧ BK w' b13 103 [.int .i64 ((cntP l).na : Int), .int .i64 ((cntP l).up : Int), .int .i64 ((cntP l).dn : Int), .int .i64 ((cntP l).mi : Int), .int .i64 ((cntP l).pl : Int), .int .i64 ((cntP l).al : Int)] ∧ NF w' v2 (filP l) ∧ Chg [] w w' ∧ Subs [(35, .bool (decide (carSh (cntP l) pn pi))), (1, .int .i64 less), (2, .int .i64 mode), (4, .func (.func 110) #[] #[]), (12, v2), (8, .pointer (some ⟨b8, 0, none⟩)), (13, .pointer (some ⟨b13, 0, none⟩))] s') ?_ ?_
 ·refine CW.seqM 35 (decide (0 < (cntP l).na ∧ pn = 0)) ?_ ?_
  ·refine zS fun _ kr18 => zf rfl (zl hb13 rfl rfl (zG rfl rfl (zm rfl ?_)));refine zb ?_ ?_<;>intro hg4<;>try simp only [qs] at hg4
   ·refine zw rfl (zf rfl (zw rfl (zl hb8 rfl rfl (zw rfl (zq rfl rfl (zt rfl rfl (za rfl (zz (kr18 ?_)))))))));refine ⟨rfl, rfl, Subs.consB rfl ?_ ?_⟩
    ·first | (simp_all; done) | (simp; omega) | (refine decide_eq_decide.2 ?_; omega)
    exact SMg
   refine zv rfl (zv rfl (zv rfl (ze rfl rfl (za rfl (zz (kr18 ?_))))));refine ⟨rfl, rfl, Subs.consB rfl ?_ ?_⟩
   ·first | (simp_all; done) | (simp; omega) | (refine decide_eq_decide.2 ?_; omega)
   exact SMg
  refine zy rfl ?_ ?_<;>intro hc5<;>try simp only [qs] at hc5
  ·have h1 : 0 < (cntP l).na ∧ pn = 0 := hc5
   refine zkk ?_;refine ⟨rfl, hb8, hb13, hNf, hch, Subs.consB rfl ?_ ?_⟩
   · first | exact (decide_eq_true (.inl h1)).symm | (unfold carSh; first | exact (decide_eq_false (by omega)).symm | exact (decide_eq_true (by omega)).symm | (simp_all; done) | (simp; omega) | (refine decide_eq_decide.2 ?_; omega) | (simp_all; omega))
   (repeat (first | exact Subs.nil | refine Subs.cons rfl ?_))
  have h1 : ¬ (0 < (cntP l).na ∧ pn = 0) := hc5;refine zS fun _ kr19 => zf rfl (zl hb13 rfl rfl (zf rfl (zl hb13 rfl rfl ?_)));(first | refine zi rfl rfl ?_ | refine zo rfl rfl ?_);refine zG rfl rfl (zm rfl ?_);refine zb ?_ ?_<;>intro hg6<;>try simp only [qs] at hg6
  ·refine zw rfl (zf rfl (zw rfl (zl hb8 rfl rfl (zw rfl (zq rfl rfl (zt rfl rfl (za rfl (zz (kr19 ?_)))))))));refine ⟨rfl, hb8, hb13, hNf, hch, Subs.consB rfl ?_ ?_⟩
   · first | exact (decide_eq_true (.inl h1)).symm | (unfold carSh; first | exact (decide_eq_false (by omega)).symm | exact (decide_eq_true (by omega)).symm | (simp_all; done) | (simp; omega) | (refine decide_eq_decide.2 ?_; omega) | (simp_all; omega))
   (repeat (first | exact Subs.nil | refine Subs.cons rfl ?_))
  refine zv rfl (zv rfl (zv rfl (ze rfl rfl (za rfl (zz (kr19 ?_))))));refine ⟨rfl, hb8, hb13, hNf, hch, Subs.consB rfl ?_ ?_⟩
  · first | exact (decide_eq_true (.inl h1)).symm | (unfold carSh; first | exact (decide_eq_false (by omega)).symm | exact (decide_eq_true (by omega)).symm | (simp_all; done) | (simp; omega) | (refine decide_eq_decide.2 ?_; omega) | (simp_all; omega))
  (repeat (first | exact Subs.nil | refine Subs.cons rfl ?_))
 rintro _ s' wJ ⟨rfl, hb8, hb13, hNf, hch, hsub⟩;refine CW.sub hsub ?_;have hof := hNf.one;refine zy rfl ?_ ?_<;>intro hc7<;>try simp only [qs] at hc7
 ·have hcar : carSh (cntP l) pn pi := hc7
  refine Sr fun _ kh20 => ?_;refine WL.ev (Ev.ext rfl (ext87 _ _)) rfl ?_;refine za rfl (za rfl (zz (kh20 ?_)));refine zr (zr2 rfl rfl rfl ?_);refine ⟨⟨_, _, rfl, ?_⟩, hch⟩;exact .inr ⟨hq, .inr ⟨hse, .inl ⟨hcar, rfl, rfl⟩⟩⟩
 have hcn : ¬ carSh (cntP l) pn pi := hc7;refine Sr fun _ kh22 => zm rfl ?_;obtain ⟨ap, cp, rfl, hcapp, hrp⟩ := hNf.ex;refine zn rfl (zm rfl (zQ rfl rfl (za rfl (zz (kh22 ?_)))));refine zy rfl ?_ ?_<;>intro hc8<;>try simp only [qs] at hc8
 ·have hf : ((filP l).length : Int) ≤ less := by have := hc8; omega
  refine Sr fun _ kh24 => za rfl (za rfl (zz (kh24 ?_)));refine zr (zr2 rfl rfl rfl ?_);refine ⟨⟨_, _, rfl, ?_⟩, hch⟩;exact .inr ⟨hq, .inr ⟨hse, .inr ⟨hcn, .inl ⟨hf, rfl, rfl⟩⟩⟩⟩
 have hf : less < ((filP l).length : Int) := by have := hc8; omega
 refine zkk (kh14 (Sr fun _ kh26 => zm rfl (zm rfl (zm rfl ?_))));refine WL.call hasF199 rfl rfl (common_spec _ (filP l) _ hNf (by omega) (hg0.keep0 hch)) fun v w4 h' => ?_;obtain ⟨⟨rc, rfl, hNc⟩, hC⟩ := h';have hoc := hNc.one;have hch := hch.ta hC;refine zm rfl (zn rfl (zm rfl ?_));refine WL.call hasF190 rfl rfl (by_spec (comD (filP l)) rc ((filP l).length : Int) less _ hNc (comD_ok _) (by omega) (by omega) (hg0.keep0 hch)) fun v w5 h' => ?_;obtain ⟨⟨rd, rfl, hNd, hNz⟩, hC⟩ := h';have hod := hNd.one;have hch := hch.ta hC;have hNc := hNc.keep0 hC;refine zm rfl ?_;refine WL.callB (fst := []) hasF110 rfl rfl rfl (Quot_spec _ _ _ _ _ _ _ _ mode _ hNc hNd (hg0.keep0 hch) (ok_i64 (comD_ok _)) (ok_i64 (accD_ok _ _ 2))) fun v w70 h' => ?_;obtain ⟨⟨xb, xe, rfl, hR⟩, hC⟩ := h';rw [val_wd, val_wd] at hR;have hch := hch.ta hC;refine zx rfl rfl (zx rfl rfl (za rfl (za rfl (zz (kh26 ?_)))));refine zr (zr2 rfl rfl rfl ?_);refine ⟨⟨_, _, rfl, ?_⟩, hch⟩;exact .inr ⟨hq, .inr ⟨hse, .inr ⟨hcn, .inr ⟨hf, hR⟩⟩⟩⟩

theorem Var_spec (v : Value) (l : List Nat) (less mode pn pi : Int) (w : World) (hv : NF w v l) (hg : GW w) : Ret Tryz.prog 32 [v, .int .i64 less, .int .i64 mode, .agg [.int .i64 pn, .int .i64 pi].toArray] w fun u w' => (∃ b e, u = .tuple [.float .f64 b, .int .i64 e].toArray ∧ varR l less mode pn pi b e) ∧ Chg [] w w' := by
 have hch := crf w;have hg0 := hg;have hv0 := hv;have hov := hv.one;refine zE4 Tryz.func32 rfl ?_;refine Sr fun _ kh1 => ?_;refine zBh rfl rfl rfl hch fun b7 wm7 hb7 hcm7 hge7 hgehch7 hch => ?_;refine za rfl (za rfl (zz (kh1 (Sr fun _ kh3 => zm rfl (zm rfl (zm rfl ?_))))));refine WL.ev (Ev.loadB (cs := [.int .i64 pn, .int .i64 pi]) rfl rfl hb7 rfl rfl) rfl ?_;refine WL.call hasF109 rfl rfl (squares_spec v l less mode pn pi _ (hv0.keep0 hch) (hg0.keep0 hch)) fun v w1 h' => ?_;obtain ⟨⟨xb, xe, rfl, hR⟩, hC⟩ := h';have hch := hch.ta hC;refine zx rfl rfl (zx rfl rfl (za rfl (za rfl (zz (kh3 ?_)))));refine zr (zr2 rfl rfl rfl ?_);exact ⟨⟨_, _, rfl, hR⟩, hch⟩

end

/- Package steelyardlaw21: the first examples, plain. No condition. -/
section
open Go Sx Wd Fl

def aw1 : Nat := 4607182418800017408
def aw3 : Nat := 4613937818241073152
def awS : Sh := (Sh.zero.merge (Sh.one aw1)).merge (Sh.one aw3)
theorem aw_mk1 : Mk (Sh.zero.merge (Sh.one aw1)) [aw1] := Mk.merge Mk.zero (Mk.one (by decide)) (by decide)
theorem aw_mk : Mk awS [aw1, aw3] := Mk.merge aw_mk1 (Mk.one (by decide)) (by decide)
theorem aw_no1 : (Sh.zero.merge (Sh.one aw1)).noE := Mk.noE Mk.zero (Mk.one (x := aw1) (by decide)) (fun _ => ⟨rfl, rfl⟩)
theorem aw_no : awS.noE := Mk.noE aw_mk1 (Mk.one (x := aw3) (by decide)) aw_no1
theorem aw_sum {b : Nat} {e : Int} (h : sumShR awS 0 0 0 b e) : b = 4616189618054758400 ∧ e = 0 := by
  refine sumSh_unique rfl rfl h (.inr ⟨by decide +kernel, .inr ⟨by decide +kernel, .inr ⟨by decide +kernel, .inr ⟨by decide, .inr ⟨awS.V, 4616189618054758400, rfl, near_is (by decide) (dyB_pos _) (by decide +kernel), by decide, by decide +kernel, rfl⟩⟩⟩⟩⟩)
theorem aw_var {b : Nat} {e : Int} (h : varShR awS 1 0 0 0 b e) : b = 4611686018427387904 ∧ e = 0 := by
  refine var_same aw_mk (by decide) h (b' := 4611686018427387904) (e' := 0) ?_
  refine .inr ⟨⟨⟨⟨by decide, by decide⟩, .inr rfl⟩, ⟨by decide, by decide⟩, by decide, by decide⟩, .inr ⟨by decide +kernel, .inr ⟨by decide +kernel, .inr ⟨by decide +kernel, ?_⟩⟩⟩⟩
  refine .inr ⟨by decide, .inr (.inr ⟨by decide +kernel, comD (filP [aw1, aw3]), timD (intD ((filP [aw1, aw3]).length : Int)) (intD ((filP [aw1, aw3]).length - 1)), formD_self (comD_ok _), formD_self (accD_ok _ _ 2), .inr ⟨by decide +kernel, 4611686018427387904, near_is (by decide) (by decide +kernel) (by decide +kernel), by decide, by decide +kernel, rfl⟩⟩)⟩
theorem aw_len0 : (encS Sh.zero).length = 58 := by decide +kernel
theorem aw_len : (encS awS).length = 82 := by decide +kernel
theorem aw_at : (encS awS).getD 40 0 = 2 := by decide +kernel
theorem dec_nil : decS [] = none := by
  unfold decS
  rw [if_pos (.inl (by decide +kernel))]

end

/- Package steelyardlaw21: the first examples. No condition. -/
section
open Go Sx Wd Fl

theorem GR.u8cell {w : World} {lo : Nat} {X : List Nat} {v : Value} {l : List Nat} (h : GR w 5 u8v lo X v l) : ∃ a c, v = .slice a l.length c ∧ l.length ≤ c ∧ RW w a (l.map u8v) ∧ ∀ ad, a = some ad → ad.block < w.heap.size := by
  obtain ⟨a, c, rfl, hc, hr⟩ := h.row
  refine ⟨a, c, rfl, hc, hr, fun ad e => ?_⟩
  subst e
  exact h.lt (b := ad.block) rfl

theorem awake_spec (w : World) (hg : GW w) : Ret Tryz.prog 10 [] w fun u w' => u = .bool true ∧ Chg [] w w' := by
 have hch := crf w;have hg0 := hg;refine zE0 Tryz.func10 rfl ?_;refine Sr fun _ kh1 => za rfl (zz (kh1 (Sr fun _ kh3 => ?_)));refine WL.call hasF47 rfl rfl (shNew_spec _) fun v w1 h' => ?_;obtain ⟨⟨b, rfl, hS, hge⟩, hC⟩ := h';have hge : w.heap.size ≤ b := Nat.le_trans hch.size hge;have hch := hch.ta hC;refine za rfl (zz (kh3 (zc fun _ kh5 => Sr fun _ kh6 => zm rfl ?_)));refine WL.ev (Ev.eqlPtrNil rfl rfl) rfl ?_;refine zz (kh6 ?_);refine CW.condF rfl ?_;refine zkk (kh5 (Sr fun _ kh8 => zm rfl ?_));refine WL.call hasF14 rfl rfl (shEncode_spec b Sh.zero _ hS Sh.wf.zero ex0) fun v w2 h' => ?_;obtain ⟨hge0, hC⟩ := h';obtain ⟨a18, c18, rfl, hcap18, hre18, hbl18⟩ := hge0.u8cell;rw [aw_len0];have hch := hch.ta hC;have hS := hS.keep0 hC;refine za rfl (zz (kh8 (Sr fun _ kh10 => zm rfl ?_)));refine WL.call hasF48 rfl rfl (shAdd_spec b Sh.zero aw1 _ hS Sh.wf.zero (by decide) (hg0.keep0 hch)) fun v w3 h' => ?_;rcases h' with ⟨hbig, _⟩ | ⟨_, rfl, hS2, hC⟩
 · exact absurd hbig (by decide)
 have hS := hS2;have hch := hch.step hC (fun y hy => .inr (by rw [List.mem_singleton.1 hy]; exact hge));refine za rfl (zz (kh10 (Sr fun _ kh12 => zm rfl ?_)));refine WL.call hasF48 rfl rfl (shAdd_spec b (Sh.zero.merge (Sh.one aw1)) aw3 _ hS (aw_mk1.wf aw_no1) (by decide) (hg0.keep0 hch)) fun v w4 h' => ?_;rcases h' with ⟨hbig, _⟩ | ⟨_, rfl, hS2, hC⟩
 · exact absurd hbig (by decide +kernel)
 have hS := hS2;have hch := hch.step hC (fun y hy => .inr (by rw [List.mem_singleton.1 hy]; exact hge));refine za rfl (zz (kh12 (Sr fun _ kh14 => zm rfl ?_)));refine WL.ev (Ev.build (vs := _) (cs := [_, _]) rfl rfl) rfl ?_;refine WL.call hasF27 rfl rfl (shSum_spec b awS 0 0 0 _ hS (aw_mk.wf aw_no) (hg0.keep0 hch)) fun v w5 h' => ?_;obtain ⟨⟨x1, e1, rfl, hR⟩, hC⟩ := h';obtain ⟨rfl, rfl⟩ := aw_sum hR;have hch := hch.ta hC;have hS := hS.keep0 hC;refine zm rfl (zx rfl rfl (zx rfl rfl (za rfl (za rfl (zz (kh14 (Sr fun _ kh16 => zm rfl ?_)))))));refine WL.ev (Ev.build (vs := _) (cs := [_, _]) rfl rfl) rfl ?_;refine WL.call hasF29 rfl rfl (shVar_spec b awS 1 0 0 0 _ hS (aw_mk.wf aw_no) (hg0.keep0 hch)) fun v w6 h' => ?_;obtain ⟨⟨x1, e1, rfl, hR⟩, hC⟩ := h';obtain ⟨rfl, rfl⟩ := aw_var hR;have hch := hch.ta hC;have hS := hS.keep0 hC;refine zm rfl (zx rfl rfl (zx rfl rfl (za rfl (za rfl (zz (kh16 (Sr fun _ kh18 => zm rfl ?_)))))));refine WL.call hasF14 rfl rfl (shEncode_spec b awS _ hS (aw_mk.wf aw_no) aw_mk.ex) fun v w7 h' => ?_;obtain ⟨hge1, hC⟩ := h';obtain ⟨a36, c36, rfl, hcap36, hre36, hbl36⟩ := hge1.u8cell;have hch := hch.ta hC;refine za rfl (zz (kh18 (Sr fun _ kh20 => zm rfl ?_)));refine WL.call hasF26 rfl rfl (Decode_spec21 a36 (encS awS) c36 _ hre36 hcap36 hbl36 (encS_B8 _) (by rw [aw_len]; decide) (hg0.keep0 hch)) fun v w8 h' => ?_;obtain ⟨hD, hC⟩ := h';rcases hD with ⟨T, bt, -, rfl, -, -, -⟩ | ⟨hno, -⟩
 rotate_left
 · rw [aw_mk.dec aw_no] at hno; cases hno
 have hch := hch.ta hC;have hre36 := hre36.keep0 hC;refine zm rfl (zx rfl rfl (zx rfl rfl (za rfl (za rfl (zz (kh20 (Sr fun _ kh22 => ?_)))))));refine WL.call hasF26 rfl rfl (Decode_spec21 none [] 0 _ RW.nil (Nat.le_refl _) (fun ad e => by cases e) (fun x hx => by cases hx) (by decide) (hg0.keep0 hch)) fun v w9 h' => ?_;obtain ⟨hD, hC⟩ := h';rcases hD with ⟨T, b2, hT, _⟩ | ⟨-, rfl⟩
 · rw [dec_nil] at hT; cases hT
 have hch := hch.ta hC;have hre36 := hre36.keep0 hC;refine zm rfl (zx rfl rfl (zx rfl rfl (za rfl (za rfl (zz (kh22 (Sr fun _ kh24 => zm rfl (zn rfl (zq rfl rfl ?_)))))))));rw [show decide (((58 : Nat) : Int) = 58) = true from rfl];refine zm rfl (zw rfl (zm rfl (zw rfl (zq rfl rfl ?_))));rw [decide_eq_true (rfl)];refine zt rfl rfl (zm rfl (zw rfl (zm rfl (zw rfl (zq rfl rfl ?_)))));rw [decide_eq_true (rfl)];refine zt rfl rfl (zm rfl (zw rfl (zm rfl (zw rfl ?_))));refine WL.ev (Ev.feql rfl rfl) rfl ?_;rw [show (FloatKind.f64.format.order 4616189618054758400 4616189618054758400 == some .eq) = true by rw [Fl.order_self_eq]; decide];refine zt rfl rfl (zm rfl (zw rfl (zm rfl (zw rfl (zq rfl rfl ?_)))));rw [decide_eq_true (rfl)];refine zt rfl rfl (zm rfl (zw rfl (zm rfl (zw rfl ?_))));refine WL.ev (Ev.feql rfl rfl) rfl ?_;rw [show (FloatKind.f64.format.order 4611686018427387904 4611686018427387904 == some .eq) = true by rw [Fl.order_self_eq]; decide];refine zt rfl rfl (zm rfl (zw rfl (zm rfl (zw rfl (zq rfl rfl ?_)))));rw [decide_eq_true (rfl)];refine zt rfl rfl (zm rfl (zw rfl (zm rfl (zw rfl (zn rfl ?_)))));rw [aw_len];refine zw rfl (zq rfl rfl ?_);rw [show decide (((82 : Nat) : Int) = 82) = true from rfl];refine zt rfl rfl (zm rfl (zw rfl (zm rfl (zw rfl ?_))));refine WL.ev (Ev.ixR 40 rfl rfl hre36 rfl (by decide) (by rw [List.length_map, aw_len]; decide)) rfl ?_;refine zw rfl ?_;refine WL.ev (Ev.load rfl rfl (hre36.u8 (by rw [aw_len]; decide))) rfl ?_;rw [aw_at];refine zw rfl (zq rfl rfl ?_);rw [show decide (((2 : Nat) : Int) = 2) = true from rfl];refine zt rfl rfl (zm rfl (zw rfl (zm rfl (zw rfl ?_))));refine WL.ev (Ev.neqPtrNil rfl rfl) rfl ?_;refine zt rfl rfl (zm rfl (zw rfl (zm rfl (zw rfl (zq rfl rfl ?_)))));rw [decide_eq_true (rfl)];refine zt rfl rfl (zm rfl (zw rfl (zm rfl (zw rfl (zq rfl rfl ?_)))));rw [decide_eq_true (rfl)];refine zt rfl rfl (za rfl (zz (kh24 ?_)));refine zr (zr1 rfl rfl ?_);exact ⟨rfl, hch⟩

end

/- A shard of some numbers does not hang on their order. No condition. -/
section
open Go Sx Wd Fl

theorem sumI_perm2 {L K : List Nat} (h : L.Perm K) : sumI L = sumI K := by
  induction h with
  | nil => rfl
  | cons x _ ih =>
    have e : ∀ M, sumI (x :: M) = fvI x + sumI M := fun M => by simp [sumI]
    rw [e, e, ih]
  | swap x y l =>
    have e : ∀ z M, sumI (z :: M) = fvI z + sumI M := fun z M => by simp [sumI]
    rw [e, e, e, e]; omega
  | trans _ _ i1 i2 => exact i1.trans i2
theorem sqS_perm {L K : List Nat} (h : L.Perm K) : sqS L = sqS K := by
  induction h with
  | nil => rfl
  | cons x _ ih =>
    have e : ∀ M, sqS (x :: M) = sqI x + sqS M := fun M => by simp [sqS]
    rw [e, e, ih]
  | swap x y l =>
    have e : ∀ z M, sqS (z :: M) = sqI z + sqS M := fun z M => by simp [sqS]
    rw [e, e, e, e]; omega
  | trans _ _ i1 i2 => exact i1.trans i2
theorem cntK_perm {L K : List Nat} (j : Nat) (h : L.Perm K) : cntK j L = cntK j K := (h.filter _).length_eq
theorem key_inj5 {x y : Nat} (hx : x < 18446744073709551616) (hy : y < 18446744073709551616) (h1 : kindP x ≠ 5) (h2 : kindP y ≠ 5) (h : key x = key y) : x = y := by
  obtain ⟨_, _, k1⟩ := key5 hx h1
  obtain ⟨_, _, k2⟩ := key5 hy h2
  rw [k1, k2] at h
  split at h <;> split at h <;> omega
theorem Mk.perm {S T : Sh} {L K : List Nat} (h : Mk S L) (g : Mk T K) (hp : L.Perm K) (hS : S.noE) (hT : T.noE) : S = T := by
  have es : S.s = T.s := by
    rw [h.s, g.s, cntK_perm 5 hp, cntK_perm 3 hp, cntK_perm 4 hp, cntK_perm 1 hp, cntK_perm 2 hp, hp.length_eq]
  have eV : S.V = T.V := by rw [h.V, g.V, sumI_perm2 hp]
  have eQ : S.Q = T.Q := by rw [h.Q, g.Q, sqS_perm hp]
  have hc := cntK_perm 5 hp
  have hl := hp.length_eq
  have el : S.lo = T.lo ∧ S.hi = T.hi := by
    rcases h.e with he | ⟨a1, a2, a3, a4, a5⟩
    · obtain ⟨z1, z2⟩ := hS (fun q => by have := h.some_iff.1 q; omega)
      obtain ⟨z3, z4⟩ := hT (fun q => by have := g.some_iff.1 q; omega)
      rw [z1, z2, z3, z4]
      exact ⟨rfl, rfl⟩
    · rcases g.e with ge | ⟨b1, b2, b3, b4, b5⟩
      · exact absurd (all_nan (by omega) _ a1) a2
      · have u1 := b5 _ (hp.mem_iff.1 a1) a2
        have u2 := a5 _ (hp.mem_iff.2 b1) b2
        have u3 := b5 _ (hp.mem_iff.1 a3) a4
        have u4 := a5 _ (hp.mem_iff.2 b3) b4
        exact ⟨key_inj5 (h.w _ a1) (g.w _ b1) a2 b2 (by omega), key_inj5 (h.w _ a3) (g.w _ b3) a4 b4 (by omega)⟩
  obtain ⟨s, V, Q, lo, hi⟩ := S
  obtain ⟨s', V', Q', lo', hi'⟩ := T
  obtain ⟨e1, e2⟩ := el
  dsimp only at es eV eQ e1 e2
  subst es; subst eV; subst eQ; subst e1; subst e2
  rfl
end

/- Package steelyardlaw21: lists that are cut; the ends of a row: plain. No condition. -/
section
open Go Sx Wd Ss Fl

def cls (l : List Nat) (p i n : Nat) : List Nat := ((List.range n).filter fun j => j % p == i).map fun j => l.getD j 0
theorem mod_next {q s p i : Nat} (h : q % p = i) (h0 : 0 < s) (hs : s < p) : (q + s) % p ≠ i := by
  have hi : i < p := by rw [← h]; exact Nat.mod_lt _ (by omega)
  rw [Nat.add_mod, h, Nat.mod_eq_of_lt hs]
  by_cases h1 : i + s < p
  · rw [Nat.mod_eq_of_lt h1]; omega
  · rw [Nat.mod_eq_sub_mod (by omega), Nat.mod_eq_of_lt (by omega)]; omega
theorem cls_flat {l : List Nat} {q p i : Nat} (h : q % p = i) : ∀ r, r < p → cls l p i (q + 1 + r) = cls l p i q ++ [l.getD q 0] := by
  intro r
  induction r with
  | zero =>
    intro _
    unfold cls
    rw [Nat.add_zero, List.range_succ, List.filter_append, List.map_append]
    simp [h]
  | succ r ih =>
    intro hr
    rw [← ih (by omega)]
    have hm := mod_next (s := r + 1) h (by omega) hr
    unfold cls
    rw [show q + 1 + (r + 1) = (q + 1 + r) + 1 by omega, List.range_succ, List.filter_append, List.map_append]
    have : (List.filter (fun j => j % p == i) [q + 1 + r]) = [] := by
      rw [List.filter_cons, if_neg, List.filter_nil]
      simp only [beq_iff_eq]
      rw [show q + 1 + r = q + (r + 1) by omega]; exact hm
    rw [this]; simp
theorem cls_start {l : List Nat} {p i : Nat} (hi : i < p) : ∀ n, n ≤ i → cls l p i n = [] := by
  intro n
  induction n with
  | zero => intro _; rfl
  | succ n ih =>
    intro hn
    have := ih (by omega)
    unfold cls at this ⊢
    rw [List.range_succ, List.filter_append, List.map_append, this]
    have h2 : (List.filter (fun j => j % p == i) [n]) = [] := by
      rw [List.filter_cons, if_neg, List.filter_nil]
      simp only [beq_iff_eq]
      rw [Nat.mod_eq_of_lt (by omega)]; omega
    rw [h2]; rfl
theorem cls_step {l : List Nat} {q p i n : Nat} (h : q % p = i) (hp : 0 < p) (hq : q < n) : cls l p i (min (q + p) n) = cls l p i q ++ [l.getD q 0] := by
  have := cls_flat (l := l) h (min (q + p) n - (q + 1)) (by omega)
  rwa [show q + 1 + (min (q + p) n - (q + 1)) = min (q + p) n by omega] at this
theorem cls_one (l : List Nat) : cls l 1 0 l.length = l := by
  unfold cls
  rw [List.filter_eq_self.2 (fun j _ => by simp [Nat.mod_one])]
  apply List.ext_getElem (by simp)
  intro i h1 h2
  simp only [List.getElem_map, List.getElem_range]
  rw [List.getD_eq_getElem?_getD, List.getElem?_eq_getElem h2]; rfl
theorem cls_len (l : List Nat) (p i n : Nat) : (cls l p i n).length ≤ n := by
  unfold cls
  rw [List.length_map]
  exact Nat.le_trans (List.length_filter_le _ _) (by rw [List.length_range]; exact Nat.le_refl _)
theorem put_perm {α : Type} {I : List Nat} {k : Nat} {x : α} {g : Nat → List α} (hn : I.Nodup) (hk : k ∈ I) : (I.map fun i => if k = i then x :: g i else g i).flatten.Perm (x :: (I.map g).flatten) := by
  induction I with
  | nil => cases hk
  | cons a I ih =>
    have hna := (List.nodup_cons.1 hn).1
    simp only [List.map_cons, List.flatten_cons]
    by_cases q : k = a
    · rw [if_pos q]
      have : (I.map fun i => if k = i then x :: g i else g i) = I.map g := List.map_congr_left fun i hi => if_neg (fun e : k = i => hna (by rw [← q, e]; exact hi))
      rw [this]
      exact List.Perm.refl _
    · rw [if_neg q]
      have h1 := ih (List.nodup_cons.1 hn).2 ((List.mem_cons.1 hk).resolve_left q)
      exact (List.Perm.append_left (g a) h1).trans List.perm_middle
theorem parts_perm {p : Nat} (hp : 0 < p) (f : Nat → Nat) : ∀ R : List Nat, ((List.range p).map fun i => (R.filter fun j => j % p == i).map f).flatten.Perm (R.map f) := by
  intro R
  induction R with
  | nil =>
    have : ((List.range p).map fun i => (([] : List Nat).filter fun j => j % p == i).map f).flatten = [] := by simp
    rw [this]; exact List.Perm.refl _
  | cons x R ih =>
    have e : ((List.range p).map fun i => ((x :: R).filter fun j => j % p == i).map f) = (List.range p).map fun i => if x % p = i then f x :: ((R.filter fun j => j % p == i).map f) else (R.filter fun j => j % p == i).map f := List.map_congr_left fun i _ => by
      rw [List.filter_cons]
      by_cases q : x % p = i
      · rw [if_pos (by simpa using q), if_pos q]; rfl
      · rw [if_neg (by simpa using q), if_neg q]
    rw [e]
    exact (put_perm List.nodup_range (List.mem_range.2 (Nat.mod_lt _ hp))).trans (List.Perm.cons _ ih)
theorem cls_perm (l : List Nat) {p : Nat} (hp : 0 < p) : ((List.range p).map fun i => cls l p i l.length).flatten.Perm l := by
  have h := parts_perm hp (fun j => l.getD j 0) (List.range l.length)
  have e : (List.range l.length).map (fun j => l.getD j 0) = l := by
    apply List.ext_getElem (by simp)
    intro i h1 h2
    simp only [List.getElem_map, List.getElem_range]
    rw [List.getD_eq_getElem?_getD, List.getElem?_eq_getElem h2]; rfl
  rw [e] at h
  exact h
def SG (w : World) (q : Nat × List Nat) : Prop := ∃ S, ShM 109 w q.1 S ∧ Mk S q.2 ∧ S.noE
theorem SG.keep0 {w w' : World} {q : Nat × List Nat} (h : SG w q) (hc : Chg [] w w') : SG w' q := by
  obtain ⟨S, h1, h2⟩ := h; exact ⟨S, h1.keep0 hc, h2⟩

theorem getD_mem {l : List Nat} {k : Nat} (h : k < l.length) : l.getD k 0 ∈ l := by rw [List.getD_eq_getElem?_getD, List.getElem?_eq_getElem h]; exact List.getElem_mem _
theorem mem_getD {l : List Nat} {x : Nat} (h : x ∈ l) : ∃ k, k < l.length ∧ l.getD k 0 = x := by
  obtain ⟨k, hk, e⟩ := List.getElem_of_mem h
  exact ⟨k, hk, by rw [List.getD_eq_getElem?_getD, List.getElem?_eq_getElem hk]; exact e⟩
theorem key_same {x y : Nat} (hx : x < 18446744073709551616) (hy : y < 18446744073709551616) (nx : isNaN x = false) (ny : isNaN y = false) (h : key x = key y) : x = y := by
  unfold key at h
  rw [nx, ny] at h
  simp only [Bool.false_eq_true, if_false] at h
  split at h <;> split at h <;> omega
theorem key_big {x : Nat} (hx : x < 18446744073709551616) (h : isNaN x = false) : key x < 9223372036854775807 := by
  unfold key
  rw [h]
  unfold isNaN at h
  have := of_decide_eq_false h
  simp only [Bool.false_eq_true, if_false]
  split <;> omega
theorem key_nan {x : Nat} (h : isNaN x = true) : key x = 9223372036854775807 := by unfold key; rw [if_pos h]
theorem nan_told {x : Nat} : isNaN (toldP x) = isNaN x := by
  unfold toldP
  by_cases h : isNaN x = true
  · rw [if_pos h, h]; rfl
  · rw [if_neg h]
theorem told_num {x : Nat} (h : isNaN x = false) : toldP x = x := by unfold toldP; rw [if_neg (by rw [h]; decide)]
theorem told_nan {x : Nat} (h : isNaN x = true) : toldP x = 9221120237041090560 := by unfold toldP; rw [if_pos h]
theorem row_ends {S : Sh} {l l' : List Nat} (h : Mk S l) (hne : l ≠ []) (hp : l'.Perm (List.range l.length)) (hso : So (kL l) l' 0 l.length) {q : Nat} (hq : q < l.length)
    (hq0 : q = 0 ∨ isNaN ((l'.map fun k => toldP (l.getD k 0)).getD q 0) = false) (hqn : ∀ j, q < j → j < l.length → isNaN ((l'.map fun k => toldP (l.getD k 0)).getD j 0) = true) :
    (endR S S.lo).2 = 0 ∧ (endR S S.hi).2 = 0 ∧ (endR S S.lo).1 = (l'.map fun k => toldP (l.getD k 0)).getD 0 0 ∧ (endR S S.hi).1 = (l'.map fun k => toldP (l.getD k 0)).getD q 0 := by
  have hlen : l'.length = l.length := by rw [hp.length_eq, List.length_range]
  have hat : ∀ j, j < l.length → (l'.map fun k => toldP (l.getD k 0)).getD j 0 = toldP (l.getD (l'.getD j 0) 0) ∧ l'.getD j 0 < l.length := fun j hj => by
    have h1 : l'.getD j 0 ∈ l' := getD_mem (by omega)
    refine ⟨?_, List.mem_range.1 (hp.mem_iff.1 h1)⟩
    rw [List.getD_eq_getElem?_getD, List.getElem?_map, List.getD_eq_getElem?_getD (l := l'), List.getElem?_eq_getElem (by omega : j < l'.length)]
    rfl
  have hidx : ∀ x ∈ l, ∃ j, j < l.length ∧ l.getD (l'.getD j 0) 0 = x := fun x hx => by
    obtain ⟨k, hk, rfl⟩ := mem_getD hx
    obtain ⟨j, hj, e⟩ := mem_getD (hp.mem_iff.2 (List.mem_range.2 hk))
    exact ⟨j, by omega, by rw [e]⟩
  have hle : ∀ i j, i ≤ j → j < l.length → key (l.getD (l'.getD i 0) 0) ≤ key (l.getD (l'.getD j 0) 0) := fun i j hij hj => by
    by_cases e : i = j
    · subst e; exact Int.le_refl _
    · exact hso i j (Nat.zero_le _) (by omega) hj
  have h0 : 0 < l.length := by omega
  rw [(hat 0 h0).1, (hat q hq).1]
  rw [(hat q hq).1, nan_told] at hq0
  have hqn' : ∀ j, q < j → j < l.length → isNaN (l.getD (l'.getD j 0) 0) = true := fun j h1 h2 => by
    have := hqn j h1 h2
    rwa [(hat j h2).1, nan_told] at this
  have hal : S.s.al = l.length := by rw [h.s]
  have hsi := h.some_iff
  have hm0 := getD_mem (hat 0 h0).2
  have hmq := getD_mem (hat q hq).2
  have ha : ¬ S.s.al = 0 := by omega
  by_cases hs : S.some
  · have hE : ∀ x, endR S x = (x, 0) := fun x => by unfold endR; rw [if_neg ha, if_neg (fun z => z hs)]
    rw [hE, hE]
    dsimp only
    obtain ⟨e1, e2, e3, e4, e5⟩ := h.e.resolve_left (fun z => by have := hsi.1 hs; omega)
    have n1 : isNaN S.lo = false := by cases z : isNaN S.lo with | false => rfl | true => exact absurd ((nan_kind (h.w _ e1)).1 z) e2
    have n2 : isNaN S.hi = false := by cases z : isNaN S.hi with | false => rfl | true => exact absurd ((nan_kind (h.w _ e3)).1 z) e4
    have hfin : ∀ z ∈ l, isNaN z = false → key S.lo ≤ key z ∧ key z ≤ key S.hi := fun z hz hn => e5 z hz (fun k5 => by rw [(nan_kind (h.w _ hz)).2 k5] at hn; cases hn)
    refine ⟨rfl, rfl, ?_, ?_⟩
    · obtain ⟨j, hj, ej⟩ := hidx _ e1
      have h1 := hle 0 j (Nat.zero_le _) hj
      rw [ej] at h1
      have h2 := key_big (h.w _ e1) n1
      have nz : isNaN (l.getD (l'.getD 0 0) 0) = false := by cases z : isNaN (l.getD (l'.getD 0 0) 0) with | false => rfl | true => have := key_nan z; omega
      rw [told_num nz]
      exact key_same (h.w _ e1) (h.w _ hm0) n1 nz (by have := (hfin _ hm0 nz).1; omega)
    · obtain ⟨j, hj, ej⟩ := hidx _ e3
      have hjq : j ≤ q := Classical.byContradiction fun z => by
        have := hqn' j (by omega) hj
        rw [ej, n2] at this; cases this
      have h1 := hle j q hjq hq
      rw [ej] at h1
      have nz : isNaN (l.getD (l'.getD q 0) 0) = false := by
        rcases hq0 with z | z
        · have : j = q := by omega
          rw [← this, ej]; exact n2
        · exact z
      rw [told_num nz]
      exact key_same (h.w _ e3) (h.w _ hmq) n2 nz (by have := (hfin _ hmq nz).2; omega)
  · have hE : ∀ x, endR S x = (9221120237041090560, 0) := fun x => by unfold endR; rw [if_neg ha, if_pos hs]
    rw [hE, hE]
    dsimp only
    have hall : ∀ z ∈ l, isNaN z = true := fun z hz => by
      have hc : cntK 5 l = l.length := by
        have := cntK_le 5 l
        have h2 : ¬ cntK 5 l < l.length := fun y => hs (hsi.2 y)
        omega
      refine (nan_kind (h.w _ hz)).2 (Classical.byContradiction fun hk => ?_)
      have : cntK 5 l < l.length := by
        unfold cntK at hc ⊢
        exact List.length_filter_lt_length_iff_exists.2 ⟨z, hz, by simpa using hk⟩
      omega
    rw [told_nan (hall _ hm0), told_nan (hall _ hmq)]
    exact ⟨rfl, rfl, rfl, rfl⟩

end

/- Slices of the call's own that begin anywhere in their block. No condition. -/
section
open Go Sx Wd

def PO (w : World) (e : TypeId) (lo : Nat) (v : Value) (cs : List Value) : Prop :=
  (v = .slice none 0 0 ∧ cs = []) ∨ ∃ g o cap cur, v = .slice (some ⟨g, o, none⟩) cs.length cap ∧ lo ≤ g ∧ w.heap[g]? = some (.cells cur e (0, 0)) ∧ o + cap ≤ cur.size ∧ cs.length ≤ cap ∧ cap ≤ maxLen ∧ (cur.toList.drop o).take cs.length = cs ∧ ∀ c ∈ cur.toList, isU32 c = false
section
variable {w w' : World} {e : TypeId} {lo : Nat} {v : Value} {cs : List Value}
theorem PO.nil : PO w e lo (.slice none 0 0) [] := .inl ⟨rfl, rfl⟩
theorem PO.keep {T : List Nat} (h : PO w e lo v cs) (hc : Chg T w w') (hT : ∀ b ∈ T, v.ownBlock ≠ some b) : PO w' e lo v cs := by
  rcases h with h | ⟨g, o, cap, cur, rfl, h1, h2, h3⟩
  · exact .inl h
  · exact .inr ⟨g, o, cap, cur, rfl, h1, hc.heap h2 (fun hm => hT _ hm rfl), h3⟩
theorem PO.keep0 (h : PO w e lo v cs) (hc : Chg [] w w') : PO w' e lo v cs := h.keep hc (fun b hb => by cases hb)
theorem PO.ge (h : PO w e lo v cs) {b : Nat} (hb : v.ownBlock = some b) : lo ≤ b := by
  rcases h with ⟨rfl, _⟩ | ⟨g, o, cap, cur, rfl, h1, _⟩
  · cases hb
  · cases hb; exact h1
theorem PO.notBK {T : TypeId} {b : Nat} {l : List Value} (h : PO w e lo v cs) (hb : BK w b T l) (hne : e ≠ T) : v.ownBlock ≠ some b := fun q => by
  rcases h with ⟨rfl, _⟩ | ⟨g, o, cap, cur, rfl, _, h2, _⟩
  · cases q
  · cases q
    have e1 := h2.symm.trans hb
    injection e1 with e1
    injection e1 with _ e2 _
    exact hne e2
theorem PO.row (h : PO w e lo v cs) : ∃ a c, v = .slice a cs.length c ∧ cs.length ≤ c ∧ RW w a cs := by
  rcases h with ⟨rfl, rfl⟩ | ⟨g, o, cap, cur, rfl, h1, h2, h3, h4, h5, h6, h7⟩
  · exact ⟨none, 0, rfl, Nat.le_refl _, RW.nil⟩
  · refine ⟨_, cap, rfl, h4, fun i u hu => ⟨_, rfl, ?_⟩⟩
    have hi : i < cs.length := (List.getElem?_eq_some_iff.1 hu).1
    rw [← h6, List.getElem?_take, if_pos hi, List.getElem?_drop] at hu
    have : (⟨g, o, none⟩ : Addr).add i = ⟨g, o + i, none⟩ := by simp [Addr.add]
    rw [this]
    simp only [World.cell?, h2]
    simpa using hu
theorem PO.nu {x : Value} {l : List Nat} (h : PO w e lo v cs) (hc : Chg v.ownBlock.toList w w') (hx : NU w x l) : NU w' x l := by
  rcases h with ⟨rfl, _⟩ | ⟨g, o, cap, cur, rfl, h1, h2, h3, h4, h5, h6, h7⟩
  · exact hx.keep0 hc
  · have hb : BK w g e cur.toList := by
      show w.heap[g]? = some (.cells cur.toList.toArray e (0, 0))
      rw [Array.toArray_toList]; exact h2
    exact hx.keepBK hb hc h7
theorem PO.bk {T : TypeId} {b : Nat} {l : List Value} (h : PO w e lo v cs) (hc : Chg v.ownBlock.toList w w') (hb : BK w b T l) (hne : e ≠ T) : BK w' b T l :=
  hb.keep hc (fun hm => h.notBK hb hne (Option.mem_toList.1 hm))
theorem PO.frame {T : List Nat} {w0 : World} (h : PO w e lo v cs) (hc : Chg v.ownBlock.toList w w') (hf : Chg T w0 w) (hlo : w0.heap.size ≤ lo) : Chg T w0 w' :=
  hf.step hc fun y hy => .inr (Nat.le_trans hlo (h.ge (Option.mem_toList.1 hy)))
theorem po_new {ze : Value} (hzs : ze.cells.size = 1) (hzn : isU32 (ze.cells[0]!) = false) {cap : Nat} (hcap : cs.length ≤ cap) (hmax : cap ≤ maxLen) (hn : ∀ c ∈ cs, isU32 c = false) (hlo : lo ≤ w.heap.size) :
    PO (w.drew.alloc (.cells (cs.toArray ++ Builtin.zeroCells ze.cells (cap - cs.length)) e)) e lo (.slice (some ⟨w.heap.size, 0, none⟩) cs.length cap) cs := by
  have hz : (Builtin.zeroCells ze.cells (cap - cs.length)).size = cap - cs.length := by rw [size_zeroCells, hzs, Nat.mul_one]
  refine .inr ⟨w.heap.size, 0, cap, _, rfl, hlo, heap_alloc_new w.drew _, ?_, hcap, hmax, ?_, fun c hc => ?_⟩
  · rw [Array.size_append, hz, List.size_toArray]; omega
  · rw [List.drop_zero, Array.toList_append]; exact List.take_left
  · rw [Array.toList_append] at hc
    rcases List.mem_append.1 hc with q | q
    · exact hn c q
    · unfold Builtin.zeroCells at q
      rw [Array.toList_map] at q
      obtain ⟨i, _, rfl⟩ := List.mem_map.1 q
      rw [hzs, Nat.mod_one]; exact hzn
theorem add_blk (g o j : Nat) : ((⟨g, o, none⟩ : Addr).add j).block = g := by unfold Addr.add; split <;> rfl
theorem PO.cut {a : Option Addr} {m c j : Nat} (h : PO w e lo (.slice a m c) cs) (hj : j ≤ cs.length) : PO w e lo (.slice (cutAt a j c 1) (m - j) (c - j)) (cs.drop j) ∧ (Value.slice (cutAt a j c 1) (m - j) (c - j)).ownBlock = (Value.slice a m c).ownBlock := by
  rcases h with ⟨h1, rfl⟩ | ⟨g, o, cap, cur, h0, h1, h2, h3, h4, h5, h6, h7z⟩
  · cases h1
    have : j = 0 := by simpa using hj
    subst this
    exact ⟨.inl ⟨rfl, rfl⟩, rfl⟩
  · cases h0
    have hl : (cs.drop j).length = cs.length - j := List.length_drop
    unfold cutAt
    by_cases q : c = j
    · subst q
      have h7 : cs.length = c := by omega
      rw [if_pos rfl]
      refine ⟨.inr ⟨g, o, 0, cur, by rw [hl, h7]; simp, h1, h2, by omega, by rw [hl]; omega, Nat.zero_le _, ?_, h7z⟩, rfl⟩
      rw [hl, h7, Nat.sub_self, List.take_zero]
      exact (List.length_eq_zero_iff.1 (by rw [hl]; omega)).symm
    · rw [if_neg q]
      refine ⟨.inr ⟨g, o + j, c - j, cur, by rw [hl]; simp [Addr.add], h1, h2, by omega, by rw [hl]; omega, by omega, ?_, h7z⟩, by simp only [Option.map_some, Value.ownBlock]; rw [add_blk]⟩
      rw [hl, ← List.drop_drop]
      conv => rhs; rw [← h6]
      rw [List.drop_take]
end
namespace Sx
section
variable {P : Program} {n : Nat} {D : List Deferred} {s : Sl} {w : World} {ops : Array Oper} {K : KK} {rest : List Oper} {ty : TypeId} {pos : String} {af : Array Edge} {d : Nat} {x y : Operand}
theorem app_mid {l cs : List Value} {o n : Nat} {u : Value} (h : (l.drop o).take n = cs) (hn : cs.length = n) (hl : o + n < l.length) : ((l.take (o + n) ++ [u] ++ l.drop (o + n + 1)).drop o).take (n + 1) = cs ++ [u] := by
  have h1 : (l.take (o + n)).drop o = cs := by rw [List.drop_take, show o + n - o = n by omega]; exact h
  rw [List.append_assoc, List.drop_append_of_le_length (by rw [List.length_take]; omega), h1, ← List.append_assoc]
  have h2 : (cs ++ [u]).length = n + 1 := by simp [hn]
  rw [← h2]
  exact List.take_left
theorem ev_appO {t e be : Nat} {de : TypeDesc} {ze : Value} {sz by_ : Nat} {z : Value} {v : Value} {lo : Nat} {cs : List Value} {u : Value} {ad : Addr} {c : Nat} [hT : HasT P t (.slice e) sz by_ z] [hE : HasT P e de 1 be ze]
    (hzs : ze.cells.size = 1) (hzn : isU32 (ze.cells[0]!) = false) (hx : opnd s x = some v) (hy : opnd s y = some (.slice (some ad) 1 c)) (h : PO w e lo v cs) (hu : w.cell? ad = some u) (h1 : u.oneCell' = true) (hun : isU32 u = false) (hlo : lo ≤ w.heap.size) (hlen : cs.length ≤ 1000000) (hbe : be ≤ 16) :
    ∃ v' w', Ev P s (.call ⟨.builtin .append, [x, y].toArray, #[t, t]⟩) ty w v' w' ∧ PO w' e lo v' (cs ++ [u]) ∧ Chg v.ownBlock.toList w w' ∧ (∀ b, v'.ownBlock = some b → v.ownBlock = some b ∨ w.heap.size ≤ b) := by
  have hb2 : (cs.length + 1) * be ≤ 140737488355328 := Nat.le_trans (Nat.mul_le_mul (by omega : cs.length + 1 ≤ 1000001) hbe) (by decide)
  have hnews : ∀ j q, [u][j]? = some q → w.cell? (ad.add j) = some q := fun j q hq => by
    have hj : j = 0 := by have := (List.getElem?_eq_some_iff.1 hq).1; simp at this; omega
    subst hj
    cases hq
    have : ad.add 0 = ad := if_pos rfl
    rw [this]; exact hu
  have hone : ∀ q ∈ [u], q.oneCell' = true := fun q hq => by rw [List.mem_singleton.1 hq]; exact h1
  obtain ⟨i, hi, hi1, hi2, hi3⟩ := hE.inf
  have hmx : cs.length + 1 ≤ maxLen := by unfold maxLen; omega
  have hch : ∀ o : Obj, Chg v.ownBlock.toList w (w.drew.alloc o) := fun o => ⟨rfl, rfl, rfl, by simp, fun k hk _ => heap_alloc_old w.drew _ hk⟩
  rcases h with ⟨rfl, rfl⟩ | ⟨g, o, cap, cur, rfl, a1, a2, a3, a4, a5, a6, a7⟩
  · have hr := run_append_nil (P := P) w t ty e i ze hT.und hi hi3 ad 1 c [u] (by rw [hi1]; rfl) hnews (by decide) (by decide) (by rw [hi2]; omega)
    refine ⟨_, _, fun ρ d' pos af g' hρ => ?_, po_new (cs := [] ++ [u]) hzs hzn (grownCap_ge w 1 0 e) (grownCap_le_maxLen w 1 0 e (by decide)) (fun q hq => by rw [List.mem_singleton.1 hq]; exact hun) hlo, hch _, fun b hb => by cases hb; exact .inr (Nat.le_refl _)⟩
    have e1 := hρ x _ hx
    have e2 := hρ y _ hy
    simp [execOp, resolve, invoke, builtin, e1, e2, hr]
  · by_cases hroom : cs.length + 1 ≤ cap
    · have hf := run_firstCells_some (P := P) w i.size 1 ad 1 c [u] (by rw [hi1]; rfl) hnews
      have hst := run_storeCells_at P g (o + cs.length * i.size) e [u] 0 cur w a2 (by simp [hi1]; omega) hone
      simp only [Nat.add_zero] at hst
      have hr : (Builtin.append_ #[t, t] ty #[.slice (some ⟨g, o, none⟩) cs.length cap, .slice (some ad) 1 c]).run P w =
          .ok (.slice (some ⟨g, o, none⟩) (cs.length + 1) cap) (w.setRow g (cur.toList.take (o + cs.length * i.size) ++ [u] ++ cur.toList.drop (o + cs.length * i.size + [u].length)).toArray) := by
        simp [Builtin.append_, run_underlying hT.und, sizeOf, typeInfo, hi, Builtin.lenOf, hroom, hf, Addr.add_lit, hst]
      rw [hi1, Nat.mul_one] at hr
      have hev : Ev P s (.call ⟨.builtin .append, [x, y].toArray, #[t, t]⟩) ty w (.slice (some ⟨g, o, none⟩) (cs.length + 1) cap) (w.setRow g (cur.toList.take (o + cs.length) ++ [u] ++ cur.toList.drop (o + cs.length + [u].length)).toArray) := fun ρ d' pos af g' hρ => by
        have e1 := hρ x _ hx
        have e2 := hρ y _ hy
        simp [execOp, resolve, invoke, builtin, e1, e2, hr]
      refine ⟨_, _, hev, .inr ⟨g, o, cap, _, by simp, a1, setRow_heap w g cur _ e _ a2, ?_, by simp; omega, a5, ?_, fun q hq => ?_⟩, ⟨rfl, rfl, rfl, by simp, fun k _ hk => setRow_other w g k _ (fun e => hk (by simp [Value.ownBlock, e]))⟩, fun b hb => .inl hb⟩
      · simp only [List.size_toArray, List.length_append, List.length_take, List.length_drop, Array.length_toList, List.length_cons, List.length_nil]
        omega
      · have := app_mid (u := u) a6 rfl (by have := Array.length_toList (xs := cur); omega)
        simpa using this
      · rcases List.mem_append.1 hq with z | z
        · rcases List.mem_append.1 z with y | y
          · exact a7 q (List.mem_of_mem_take y)
          · rw [List.mem_singleton.1 y]; exact hun
        · exact a7 q (List.mem_of_mem_drop z)
    · have hrow : RW w (some ⟨g, o, none⟩) cs := by
        obtain ⟨a, c', e1, _, hr⟩ := PO.row (lo := lo) (.inr ⟨g, o, cap, cur, rfl, a1, a2, a3, a4, a5, a6, a7⟩)
        cases e1; exact hr
      have hr := run_append_grow (P := P) w t ty e i ze hT.und hi hi3 ⟨g, o, none⟩ cs.length cap cs (by rw [hi1, Nat.mul_one]) (fun j q hq => by
        obtain ⟨ad', e1, hcell⟩ := hrow j q hq
        cases e1; exact hcell) ad 1 c [u] (by rw [hi1]; rfl) hnews (by omega) (by omega) (growslice_fits (by omega) (by rw [hi2]; exact hb2))
      have hev : Ev P s (.call ⟨.builtin .append, [x, y].toArray, #[t, t]⟩) ty w (.slice (some ⟨w.heap.size, 0, none⟩) (cs ++ [u]).length (grownCap w (cs.length + 1) cap e)) (w.drew.alloc (.cells ((cs ++ [u]).toArray ++ Builtin.zeroCells ze.cells (grownCap w (cs.length + 1) cap e - (cs ++ [u]).length)) e)) := fun ρ d' pos af g' hρ => by
        have e1 := hρ x _ hx
        have e2 := hρ y _ hy
        have e3 : (cs ++ [u]).toArray = cs.toArray ++ [u].toArray := by simp
        have e4 : (cs ++ [u]).length = cs.length + 1 := by simp
        rw [e3, e4]
        simp only [execOp, resolve, invoke, builtin, e1, e2] at hr ⊢
        simp [e1, e2, hr, execOp, resolve, invoke, builtin]
      refine ⟨_, _, hev, po_new hzs hzn (by rw [List.length_append]; exact grownCap_ge w (cs.length + 1) cap e) (grownCap_le_maxLen w (cs.length + 1) cap e hmx) (fun q hq => ?_) hlo, hch _, fun b hb => by cases hb; exact .inr (Nat.le_refl _)⟩
      rcases List.mem_append.1 hq with z | z
      · rw [← a6] at z
        exact a7 q (List.mem_of_mem_drop (List.mem_of_mem_take z))
      · rw [List.mem_singleton.1 z]; exact hun
theorem WL.appO {t e be : Nat} {de : TypeDesc} {ze : Value} {sz by_ : Nat} {z : Value} {v : Value} {lo : Nat} {cs : List Value} {u : Value} {ad : Addr} {c : Nat} [hT : HasT P t (.slice e) sz by_ z] [hE : HasT P e de 1 be ze]
    (hzs : ze.cells.size = 1) (hzn : isU32 (ze.cells[0]!) = false) (hx : opnd s x = some v) (hy : opnd s y = some (.slice (some ad) 1 c)) (h : PO w e lo v cs) (hu : w.cell? ad = some u) (h1 : u.oneCell' = true) (hun : isU32 u = false) (hlo : lo ≤ w.heap.size) (hlen : cs.length ≤ 1000000) (hbe : be ≤ 16) (hd : Nat.blt d n = true)
    (k : ∀ v' w', PO w' e lo v' (cs ++ [u]) → Chg v.ownBlock.toList w w' → (∀ b, v'.ownBlock = some b → v.ownBlock = some b ∨ w.heap.size ≤ b) → WL P ops K rest n D ((d, v') :: s) w') :
    WL P ops K (⟨some d, .call ⟨.builtin .append, [x, y].toArray, #[t, t]⟩, ty, pos, af, none⟩ :: rest) n D s w := by
  obtain ⟨v', w', he, hp, hc, hg⟩ := ev_appO (P := P) (s := s) (ty := ty) (t := t) (hT := hT) (hE := hE) hzs hzn hx hy h hu h1 hun hlo hlen hbe
  exact WL.ev he hd (k v' w' hp hc hg)
end
end Sx
end

/- Package steelyardlaw21: filled. No condition. -/
section
open Go Sx Wd Fl

structure KFi (l : List Nat) (p i b : Nat) (w0 : World) (q : Nat) (w : World) : Prop where
  m : q % p = i
  hq : q ≤ l.length + p
  sg : SG w (b, cls l p i (min q l.length))
  ge : w0.heap.size ≤ b
  ch : Chg [] w0 w

theorem filled_spec (v : Value) (l : List Nat) (i p : Nat) (w : World) (hv : NF w v l) (hl : l.length ≤ 2000) (hip : i < p) (hp : p ≤ 1000000) (hg : GW w) : Ret Tryz.prog 24 [v, .int .i64 (i : Int), .int .i64 (p : Int)] w fun u w' => (∃ b, u = .pointer (some ⟨b, 0, none⟩) ∧ SG w' (b, cls l p i l.length) ∧ w.heap.size ≤ b) ∧ Chg [] w w' := by
 have hch := crf w;have hv0 := hv;have hg0 := hg;obtain ⟨⟨al, cl, rfl, hcapl, hrl⟩, hWl, hll⟩ := id hv;refine zE3 Tryz.func24 rfl ?_;refine Sr fun _ kh1 => za rfl (zz (kh1 (Sr fun _ kh3 => ?_)));refine WL.call hasF47 rfl rfl (shNew_spec _) fun v w1 h' => ?_;obtain ⟨⟨b, rfl, hS, hge⟩, hC⟩ := h';have hge : w.heap.size ≤ b := Nat.le_trans hch.size hge;have hch := hch.ta hC;refine za rfl (zz (kh3 (zc fun _ kh5 => Sr fun _ kh6 => zm rfl (za rfl (zz (kh6 (CW.block ?_)))))));refine CW.loop (S := fun q : Nat => [(0, .slice al l.length cl), (2, .int .i64 (p : Int)), (7, .pointer (some ⟨b, 0, none⟩)), (8, .int .i64 (q : Int))]) (Inv := KFi l p i b w) (mu := fun q => l.length - q) (i) ?_ ?_ ?_
 ·exact ⟨Nat.mod_eq_of_lt hip, by omega, ⟨_, hS, by rw [cls_start hip _ (by omega)]; exact Mk.zero, fun _ => ⟨rfl, rfl⟩⟩, hge, hch⟩
 ·exact SLp
 rintro q wr ⟨hm, hq, ⟨S, hS, hMk, hno⟩, hge, hch⟩;dsimp only at hS hMk;refine zc fun _ kh8 => Sr fun _ kh9 => zm rfl (zm rfl (zn rfl (zL rfl rfl (zz (kh9 ?_)))));refine zy rfl ?_ ?_<;>intro hc1<;>try simp only [qs] at hc1
 ·have hql : q < l.length := by omega
  rw [Nat.min_eq_left (by omega)] at hMk;have hcl := cls_len l p i q;have hx := D_getD hWl q;have hn : (cls l p i q).length + [l.getD q 0].length ≤ 1099511627776 := by simp; omega
  have hMk2 := Mk.merge hMk (Mk.one hx) hn;have hno2 := Mk.noE hMk (Mk.one hx) hno;have hal : S.s.al = (cls l p i q).length := by rw [hMk.s]
  refine zkk (kh8 (zc fun _ kh11 => CW.block ?_));refine zR fun _ kr12 => ?_;refine zm rfl (zm rfl (zm rfl ?_));refine WL.ev (Ev.ixR (q) rfl rfl (hrl.keep0 hch) (by omega) (by omega) (by simp; omega)) rfl ?_;refine WL.ev (Ev.load rfl rfl ((hrl.keep0 hch).f64 (by first | omega | (simp; omega)))) rfl ?_;refine WL.call hasF48 rfl rfl (shAdd_spec b S (l.getD q 0) _ hS (hMk.wf hno) hx (hg0.keep0 hch)) fun v w2 h' => ?_;rcases h' with ⟨hbig, _⟩ | ⟨_, rfl, hS2, hC⟩
  · omega
  have hS := hS2;have hch := hch.step hC (fun y hy => .inr (by rw [List.mem_singleton.1 hy]; exact hge));refine WL.nil (kr12 _ _ _ (kh11 ?_));refine zS fun _ kr13 => zm rfl (zm rfl ?_);(first | refine zi rfl rfl ?_ | refine zo rfl rfl ?_);refine za rfl (zz (kr13 ?_));refine ⟨rfl, q + p, ?_, ?_, ?_⟩
  ·exact SLp
  ·refine ⟨by rw [Nat.add_mod_right]; exact hm, by omega, ⟨_, hS, ?_, hno2⟩, hge, hch⟩;rw [cls_step hm (by omega) hql]; exact hMk2
  show l.length - (q + p) < l.length - q; omega
 rw [Nat.min_eq_right (by omega)] at hMk;refine CW.exit ?_;refine kh5 (Sr fun _ kh14 => zm rfl (za rfl (zz (kh14 ?_))));refine zr (zr1 rfl rfl ?_);exact ⟨⟨b, rfl, ⟨S, hS, hMk, hno⟩, hge⟩, hch⟩

end

/- Sums of accumulators: special, Round, sums.Exact. No condition. -/
section
open Go Sx Wd Fl

namespace Sx
section
variable {P : Program} {s : Sl} {w : World} {ty : TypeId} {x y : Operand}
theorem run_items64 {e by_ : Nat} {z : Value} [hE : HasT P e (.int .u64) 1 by_ z] (d : Nat) (A B : List Nat) : ∀ is : List Nat, (∀ i ∈ is, i < A.length ∧ i < B.length) →
    (Op.eqItems (d + 1) e 1 (A.map u64v).toArray (B.map u64v).toArray is).run P w = .ok (is.all fun i => decide (A.getD i 0 = B.getD i 0)) w
  | [], _ => by simp [Op.eqItems]
  | i :: is, h => by
    obtain ⟨h1, h2⟩ := h i (List.mem_cons_self ..)
    have ih := run_items64 (hE := hE) d A B is fun j hj => h j (List.mem_cons_of_mem _ hj)
    have hk : P.plainKey e = true := by simp [Program.plainKey, hE.und]
    have g1 : (A.map u64v).toArray[i * 1]? = some (u64v (A.getD i 0)) := by rw [Nat.mul_one, List.getElem?_toArray]; exact map_at u64v 0 h1
    have g2 : (B.map u64v).toArray[i * 1]? = some (u64v (B.getD i 0)) := by rw [Nat.mul_one, List.getElem?_toArray]; exact map_at u64v 0 h2
    have p1 := run_part_plain w hk g1
    have p2 := run_part_plain w hk g2
    have p3 : (Op.equalIn (d + 1) e (u64v (A.getD i 0)) (u64v (B.getD i 0))).run P w = .ok (((A.getD i 0 : Nat) : Int) == ((B.getD i 0 : Nat) : Int)) w := run_equalIn_int w d e .u64 .u64 _ _ hE.und
    simp only [Op.eqItems, Sem.run_bind, p1, p2, p3, Result.andThen_ok, List.all_cons]
    by_cases q : A.getD i 0 = B.getD i 0
    · rw [q]
      simp only [beq_self_eq_true, Bool.not_true, Bool.false_eq_true, if_false, decide_true, Bool.true_and]
      exact ih
    · have q2 : ¬ ((A.getD i 0 : Nat) : Int) = ((B.getD i 0 : Nat) : Int) := by omega
      rw [decide_eq_false q, show (((A.getD i 0 : Nat) : Int) == ((B.getD i 0 : Nat) : Int)) = false from beq_eq_false_iff_ne.2 q2]
      simp
theorem all_getD {A B : List Nat} (h : A.length = B.length) : ((List.range A.length).all fun i => decide (A.getD i 0 = B.getD i 0)) = decide (A = B) := by
  by_cases q : A = B
  · subst q; simp
  · rw [decide_eq_false q, List.all_eq_false]
    apply Classical.byContradiction
    intro hn
    apply q
    apply List.ext_getElem h
    intro i h1 h2
    have := Classical.byContradiction fun z => hn ⟨i, List.mem_range.2 h1, z⟩
    have := of_decide_eq_true this
    rwa [List.getD_eq_getElem?_getD, List.getD_eq_getElem?_getD, List.getElem?_eq_getElem h1, List.getElem?_eq_getElem h2] at this
theorem Ev.eqlArr64 {t t' e n : Nat} {sz by_ eb : Nat} {z ze : Value} {A B : List Nat} [hT : HasT P t (.array n e) sz by_ z] [hE : HasT P e (.int .u64) 1 eb ze] (hG : P.eqGuardType P.depth t = false)
    (hx : opnd s x = some (.agg (A.map u64v).toArray)) (hy : opnd s y = some (.agg (B.map u64v).toArray)) (hA : A.length = n) (hB : B.length = n) : Ev P s (.binOp .eql t x y t') ty w (.bool (decide (A = B))) w := fun ρ d pos af g hρ => by
  have h1 := hρ x _ hx
  have h2 := hρ y _ hy
  obtain ⟨j, hj, hj1, hj2, hj3⟩ := hE.inf
  have hc : P.cellsOf e = 1 := by simp [Program.cellsOf, hj, hj1]
  have h3 := run_equalIn_array (P := P) w 9999 (A.map u64v).toArray (B.map u64v).toArray hT.und hj
  rw [hc, run_items64 (hE := hE) 9998 A B (List.range n) (fun i hi => by have := List.mem_range.1 hi; omega), ← hA, all_getD (hA.trans hB.symm)] at h3
  have hg : (eqGuard .eql t x y (.agg (A.map u64v).toArray) (.agg (B.map u64v).toArray)).run P w = .ok () w := by
    simp [eqGuard, hG]
  have hb : (binOp .eql t (.agg (A.map u64v).toArray) (.agg (B.map u64v).toArray)).run P w = .ok (.bool (decide (A = B))) w := by
    rw [run_eql_struct]
    rw [show (Op.equalIn 10000 t (.agg (A.map u64v).toArray) (.agg (B.map u64v).toArray)).run P w = _ from h3]
    rfl
  simp [execOp, h1, h2, hg, hb]
end
end Sx
def accSh (s : SP) (S : Int) : Sh := ⟨s, sumD S, Dy.zero, 0, 0⟩

theorem acSpecial_spec (b : Nat) (C : List Nat) (s : SP) (S : Int) (mode pn pi : Int) (w : World) (hB : TB w b 251 C s.cells) (hr : Rep C S) (hs : s.le 1000000000000000) (hg : GW w) (h1 : -((16384 * BB : Nat) : Int) < S) (h2 : S < (16384 * BB : Nat)) : Ret Tryz.prog 194 [.pointer (some ⟨b, 0, none⟩), .int .i64 mode, .agg [.int .i64 pn, .int .i64 pi].toArray] w fun u w' => (∃ x k e, u = .tuple [.float .f64 x, .bool k, .int .i64 e].toArray ∧ ((shE s mode pn pi ≠ 0 ∧ x = 0 ∧ k = false ∧ e = shE s mode pn pi) ∨ (shE s mode pn pi = 0 ∧ ((∃ y, verdP s pn pi = .some y ∧ x = y ∧ k = true ∧ e = 0) ∨ (verdP s pn pi = .none ∧ ((S = 0 ∧ x = noughtP s mode ∧ k = true ∧ e = 0) ∨ (S ≠ 0 ∧ k = false ∧ e = 0))))))) ∧ Chg [] w w' := by
 have hch := crf w;have hg0 := hg;have hB0 := hB;have hLL := hr.len;obtain ⟨hs1, hs2, hs3, hs4, hs5, hs6⟩ := id hs;refine zE3 Tryz.func194 rfl ?_;refine Sr fun _ kh1 => ?_;refine zBh rfl rfl rfl hch fun b5 wm5 hb5 hcm5 hge5 hgehch5 hch => ?_;have hneb5 : b ≠ b5 := by have := hB.lt; omega
 have hB := hB.keep0 hcm5;refine za rfl (za rfl (za rfl (zz (kh1 (zc fun _ kh3 => CW.block ?_)))));refine CW.seqMC 11 (decide (¬ ((0 ≤ mode ∧ mode ≤ 4) ∧ mayQ pn pi))) ?_ ?_
 ·intro hcM;refine zS fun _ kr4 => zm rfl (zL rfl rfl (zm rfl ?_));refine zb ?_ ?_<;>intro hg1<;>try simp only [qs] at hg1
  ·refine zv rfl (zv rfl (zt rfl rfl (zm rfl (zv rfl (zv rfl (zv rfl (zt rfl rfl (za rfl (zz (kr4 ?_))))))))));refine ⟨rfl, hcM, Subs.consB rfl ?_ ?_⟩
   ·first | (simp_all; done) | (simp; omega) | (refine decide_eq_decide.2 ?_; omega) | (cases hdm : decide (mayQ pn pi) <;> simp_all <;> omega)
   exact SMg
  refine zw rfl (zm rfl (zw rfl (zG rfl rfl (ze rfl rfl (zm rfl ?_)))));refine zb ?_ ?_<;>intro hg2<;>try simp only [qs] at hg2
  ·refine zv rfl (zv rfl (zv rfl (zt rfl rfl (za rfl (zz (kr4 ?_))))));refine ⟨rfl, hcM, Subs.consB rfl ?_ ?_⟩
   ·first | (simp_all; done) | (simp; omega) | (refine decide_eq_decide.2 ?_; omega) | (cases hdm : decide (mayQ pn pi) <;> simp_all <;> omega)
   exact SMg
  refine zw rfl (zg hb5 rfl (zw rfl ?_));refine WL.call hasF99 rfl rfl (May_spec pn pi _) fun v w1 h' => ?_;obtain ⟨rfl, hC⟩ := h';have hcM := hcM.ta hC;refine zw rfl (zT rfl (ze rfl rfl (za rfl (zz (kr4 ?_)))));refine ⟨rfl, hcM, Subs.consB rfl ?_ ?_⟩
  ·first | (simp_all; done) | (simp; omega) | (refine decide_eq_decide.2 ?_; omega) | (cases hdm : decide (mayQ pn pi) <;> simp_all <;> omega)
  exact SMg
 intro wM hcM;have hch := hch.ta hcM;have hB := hB.keep0 hcM;have hb5 := hb5.k0 hcM;refine zy rfl ?_ ?_<;>intro hc3<;>try simp only [qs] at hc3
 ·have hq : ¬ ((0 ≤ mode ∧ mode ≤ 4) ∧ mayQ pn pi) := hc3
  have he : shE s mode pn pi = 1 := if_pos hq;refine Sr fun _ kh5 => za rfl (za rfl (za rfl (zz (kh5 ?_))));refine zr ?_;refine bodyA.ret3 rfl rfl rfl rfl ?_;exact ⟨⟨_, _, _, rfl, .inl ⟨by rw [he]; decide, rfl, rfl, he.symm⟩⟩, hch⟩
 have hq : ¬ ¬ ((0 ≤ mode ∧ mode ≤ 4) ∧ mayQ pn pi) := fun z => z hc3;have he : shE s mode pn pi = refE s pn pi := if_neg hq;refine CW.seqM 23 (decide (0 < s.na ∧ pn = 2)) ?_ ?_
 ·refine zS fun _ kr7 => zm rfl (zP rfl (zf rfl (zf rfl ?_)));refine WL.ev (Ev.load (v := .int .i64 (s.na : Int)) rfl rfl (TB.tl hB hr.len (j := 0) rfl)) rfl ?_;refine zG rfl rfl (zm rfl ?_);refine zb ?_ ?_<;>intro hg4<;>try simp only [qs] at hg4
  ·refine zw rfl (zf rfl (zw rfl (zl hb5 rfl rfl (zw rfl (zq rfl rfl (zt rfl rfl (za rfl (zz (kr7 ?_)))))))));refine ⟨rfl, rfl, Subs.consB rfl ?_ ?_⟩
   ·first | (simp_all; done) | (simp; omega) | (refine decide_eq_decide.2 ?_; omega)
   exact SMg
  refine zv rfl (zv rfl (zv rfl (ze rfl rfl (za rfl (zz (kr7 ?_))))));refine ⟨rfl, rfl, Subs.consB rfl ?_ ?_⟩
  ·first | (simp_all; done) | (simp; omega) | (refine decide_eq_decide.2 ?_; omega)
  exact SMg
 refine zy rfl ?_ ?_<;>intro hc5<;>try simp only [qs] at hc5
 ·have q1 : 0 < s.na ∧ pn = 2 := hc5
  have he : shE s mode pn pi = 60 := he.trans (if_pos q1);refine Sr fun _ kh8 => za rfl (za rfl (za rfl (zz (kh8 ?_))));refine zr ?_;refine bodyA.ret3 rfl rfl rfl rfl ?_;exact ⟨⟨_, _, _, rfl, .inl ⟨by rw [he]; decide, rfl, rfl, he.symm⟩⟩, hch⟩
 have q1 : ¬ (0 < s.na ∧ pn = 2) := hc5;refine CW.seqMD 35 (decide (0 < s.up + s.dn ∧ pi = 2)) ?_ ?_
 ·refine CW.regionSC hmix (by kernel_rfl) fun kR10 kr10 hdr => ?_;have hB := hB.keep0 hdr;have hb5 := hb5.k0 hdr;refine ym rfl (yP rfl (yf rfl (yf rfl ?_)));refine WS.ev (Ev.load (v := .int .i64 (s.up : Int)) rfl rfl (TB.tl hB hr.len (j := 1) rfl)) rfl ?_;refine ym rfl (yP rfl (yf rfl (yf rfl ?_)));refine WS.ev (Ev.load (v := .int .i64 (s.dn : Int)) rfl rfl (TB.tl hB hr.len (j := 2) rfl)) rfl ?_
  first | refine WS.ev (Ev.addIn rfl rfl (by omega)) rfl ?_ | refine WS.ev (Ev.add rfl rfl) rfl ?_
  refine WS.ev (Ev.gtr rfl rfl) rfl ?_;refine ym rfl ?_;refine WS.boolCase (fun hg6 => ?_) (fun hg6 => ?_)
  ·(try simp only [qs] at hg6);refine yw rfl (yf rfl (yw rfl ?_));refine WS.ev (Ev.load rfl rfl (hb5.at_ rfl)) rfl ?_
   refine yw rfl ?_;refine WS.ev (Ev.eql rfl rfl) rfl ?_;refine yt rfl rfl (ya rfl ?_);refine WS.nil (kr10 _ _ ?_);refine ⟨rfl, rfl, Subs.consB rfl ?_ ?_⟩
   ·first | (simp_all; done) | (simp; omega) | (refine decide_eq_decide.2 ?_; omega)
   exact SMg
  (try simp only [qs] at hg6);refine yv rfl (yv rfl (yv rfl (ye rfl rfl (ya rfl ?_))));refine WS.nil (kr10 _ _ ?_);refine ⟨rfl, rfl, Subs.consB rfl ?_ ?_⟩
  ·first | (simp_all; done) | (simp; omega) | (refine decide_eq_decide.2 ?_; omega)
  exact SMg
 intro hdr;have hch := hch.ta hdr;have hB := hB.keep0 hdr;have hb5 := hb5.k0 hdr;refine zy rfl ?_ ?_<;>intro hc7<;>try simp only [qs] at hc7
 ·have q2 : 0 < s.up + s.dn ∧ pi = 2 := hc7
  have he : shE s mode pn pi = 61 := he.trans ((if_neg q1).trans (if_pos q2));refine Sr fun _ kh11 => za rfl (za rfl (za rfl (zz (kh11 ?_))));refine zr ?_;refine bodyA.ret3 rfl rfl rfl rfl ?_;exact ⟨⟨_, _, _, rfl, .inl ⟨by rw [he]; decide, rfl, rfl, he.symm⟩⟩, hch⟩
 have q2 : ¬ (0 < s.up + s.dn ∧ pi = 2) := hc7;have h0 : shE s mode pn pi = 0 := he.trans ((if_neg q1).trans (if_neg q2));refine zkk (kh3 (zc fun _ kh13 => zc fun _ kh14 => ?_));refine CW.regionHC 11 rfl hmix fun kR15 kr15 hS hdr => ?_;have hch := hch.ta hdr;have hB := hB.keep0 hdr;have hb5 := hb5.k0 hdr;have hB_r := hB;have hb5_r := hb5;refine wh 0 rfl hS (eM rfl) (wh 1 rfl hS (eP rfl) (wh 2 rfl hS (eF rfl) (wh 3 rfl hS (fun _ hw' => Ev.loadAgg (cs := s.cells) rfl rfl rfl (fun j v hv => by rw [add_addr, Nat.zero_add]; exact TB.tl (hB_r.keep0 hw') hr.len hv)) (wh 4 rfl hS (fun _ hw' => Ev.loadA rfl rfl (hb5_r.keep0 hw') rfl) ?_))));refine WH.oneCall 5 rfl (by kernel_rfl) hasF92 rfl rfl (Verdict_spec s pn pi _ hs) fun v w2 h' => ?_;obtain ⟨rfl, hC⟩ := h';have hvc := verd_cases s pn pi;have hch := hch.ta hC;have hB := hB.keep0 hC;have hS := hS.trans hC;refine ⟨hS, ?_⟩;refine wh 6 rfl hS (eM rfl) (wh 7 rfl hS (eX rfl rfl) (wh 8 rfl hS (eX rfl rfl) (wh 9 rfl hS (eA rfl) (wh 10 rfl hS (eA rfl) ?_))));refine WH.done (by kernel_rfl) (kr15 _ _ _ ?_);refine kh14 (Sr fun _ kh16 => zm rfl (zz (kh16 ?_)));refine zy rfl ?_ ?_<;>intro hc8<;>try simp only [qs] at hc8
 ·obtain ⟨x, hv1, hv2, hv3⟩ : ∃ x, verdP s pn pi = .some x ∧ (verdP s pn pi).isSome = true ∧ (verdP s pn pi).getD 0 = x := hvc.resolve_right (fun q => by have := hc8; rw [q.2] at this; exact Bool.false_ne_true this);rw [hv3]
  refine Sr fun _ kh18 => zm rfl (za rfl (za rfl (za rfl (zz (kh18 ?_)))));refine zr ?_;refine bodyA.ret3 rfl rfl rfl rfl ?_;exact ⟨⟨_, _, _, rfl, .inr ⟨h0, .inl ⟨_, hv1, rfl, rfl, rfl⟩⟩⟩, hch⟩
 have hv : verdP s pn pi = .none := by
  rcases hvc with ⟨_, _, q2, _⟩ | q
  · have := hc8; rw [q2] at this; exact absurd this (by decide)
  exact q.1
 refine zkk (kh13 (zc fun _ kh20 => Sr fun _ kh21 => zm rfl (zP rfl (zf rfl ?_))));refine WL.ev (Ev.loadAgg (cs := C.map u64v) rfl (by simp [hLL]) rfl (fun j v hv => by rw [add_addr, Nat.zero_add]; exact BK.at_ hB (by rw [List.getElem?_append_left (lt_of_some hv)]; exact hv))) rfl ?_;refine WL.ev (Ev.buildA (vs := []) (cs := (List.replicate 67 0).map u64v) rfl (by kernel_rfl)) rfl ?_;refine WL.ev (Ev.eqlArr64 (by kernel_rfl) rfl rfl hLL (by simp)) rfl ?_;refine zz (kh21 ?_);refine zy rfl ?_ ?_<;>intro hc9<;>try simp only [qs] at hc9
 ·have hC0 : C = List.replicate 67 0 := hc9
  have hS0 : S = 0 := (hr.nought h1 h2).2 (fun x hx => by rw [hC0] at hx; exact List.eq_of_mem_replicate hx);refine Sr fun _ kh23 => zm rfl (zP rfl (zf rfl ?_));refine WL.ev (Ev.loadAgg (cs := s.cells) rfl rfl rfl (fun j v hv => by rw [add_addr, Nat.zero_add]; exact TB.tl hB hr.len hv)) rfl ?_;refine zm rfl ?_;refine WL.call hasF94 rfl rfl (Nought_spec s mode _ hs) fun v w3 h' => ?_;obtain ⟨rfl, hC⟩ := h';have hch := hch.ta hC;refine za rfl (za rfl (za rfl (zz (kh23 ?_))));refine zr ?_;refine bodyA.ret3 rfl rfl rfl rfl ?_;exact ⟨⟨_, _, _, rfl, .inr ⟨h0, .inr ⟨hv, .inl ⟨hS0, rfl, rfl, rfl⟩⟩⟩⟩, hch⟩
 have hC0 : ¬ C = List.replicate 67 0 := hc9;have hS0 : S ≠ 0 := fun z => hC0 (List.eq_replicate_iff.2 ⟨hLL, (hr.nought h1 h2).1 z⟩);refine zkk (kh20 (Sr fun _ kh25 => za rfl (za rfl (za rfl (zz (kh25 ?_))))));refine zr ?_;refine bodyA.ret3 rfl rfl rfl rfl ?_;exact ⟨⟨_, _, _, rfl, .inr ⟨h0, .inr ⟨hv, .inr ⟨hS0, rfl, rfl⟩⟩⟩⟩, hch⟩

theorem acRound_spec (b : Nat) (C : List Nat) (s : SP) (S : Int) (mode pn pi : Int) (w : World) (hB : TB w b 251 C s.cells) (hr : Rep C S) (hs : s.le 1000000000000000) (hg : GW w) (h1 : -((16384 * BB : Nat) : Int) < S) (h2 : S < (16384 * BB : Nat)) : Ret Tryz.prog 102 [.pointer (some ⟨b, 0, none⟩), .int .i64 mode, .agg [.int .i64 pn, .int .i64 pi].toArray] w fun u w' => (∃ x e, u = .tuple [.float .f64 x, .int .i64 e].toArray ∧ sumShR (accSh s S) mode pn pi x e) ∧ Chg [] w w' := by
 have hch := crf w;have hg0 := hg;have hB0 := hB;refine zE3 Tryz.func102 rfl ?_;refine Sr fun _ kh1 => ?_;refine zBh rfl rfl rfl hch fun b5 wm5 hb5 hcm5 hge5 hgehch5 hch => ?_;have hneb5 : b ≠ b5 := by have := hB.lt; omega
 refine za rfl (za rfl (zz (kh1 (Sr fun _ kh3 => zm rfl (zm rfl (zg hb5 rfl ?_))))));refine WL.call hasF194 rfl rfl (acSpecial_spec b C s S mode pn pi _ (hB0.keep0 hch) hr hs (hg0.keep0 hch) h1 h2) fun v w1 h' => ?_;obtain ⟨⟨x, k, e, rfl, hsp⟩, hC⟩ := h';have hch := hch.ta hC;refine zm rfl (zx rfl rfl (zx rfl rfl (zx rfl rfl (za rfl (za rfl (za rfl (zz (kh3 (zc fun _ kh5 => ?_)))))))));refine CW.seqM 23 (decide (k = true ∨ e ≠ 0)) ?_ ?_
 ·refine zS fun _ kr6 => zm rfl (zm rfl ?_);refine zb ?_ ?_<;>intro hg1<;>try simp only [qs] at hg1
  ·refine zv rfl (zv rfl (zt rfl rfl (zz (kr6 ?_))));refine ⟨rfl, rfl, Subs.consB rfl ?_ ?_⟩
   ·first | (simp_all; done) | (simp; omega) | (refine decide_eq_decide.2 ?_; simp_all; done) | (cases k <;> simp_all; done)
   exact SMg
  refine zw rfl (zm rfl (zw rfl (zN rfl rfl (ze rfl rfl (zz (kr6 ?_))))));refine ⟨rfl, rfl, Subs.consB rfl ?_ ?_⟩
  ·first | (simp_all; done) | (simp; omega) | (refine decide_eq_decide.2 ?_; simp_all; done) | (cases k <;> simp_all; done)
  exact SMg
 refine zy rfl ?_ ?_<;>intro hc2<;>try simp only [qs] at hc2
 ·have hq : k = true ∨ e ≠ 0 := hc2
  refine Sr fun _ kh7 => zm rfl (zm rfl (za rfl (za rfl (zz (kh7 ?_)))));refine zr (zr2 rfl rfl rfl ?_);refine ⟨⟨_, _, rfl, ?_⟩, hch⟩;rcases hsp with ⟨a, rfl, rfl, rfl⟩ | ⟨a, ⟨y, v, rfl, rfl, rfl⟩ | ⟨v, ⟨z, rfl, rfl, rfl⟩ | ⟨z, rfl, rfl⟩⟩⟩
  · exact .inl ⟨a, rfl, rfl⟩
  · exact .inr ⟨a, .inl ⟨_, v, rfl, rfl⟩⟩
  · exact .inr ⟨a, .inr ⟨v, .inl ⟨(rsumD_m0 ⟨h1, h2⟩).2 z, rfl, rfl⟩⟩⟩
  simp at hq
 have hq : ¬ (k = true ∨ e ≠ 0) := hc2;have hfin : shE s mode pn pi = 0 ∧ verdP s pn pi = .none ∧ S ≠ 0 := by
  rcases hsp with ⟨a, rfl, rfl, rfl⟩ | ⟨a, ⟨y, v, rfl, rfl, rfl⟩ | ⟨v, ⟨z, rfl, rfl, rfl⟩ | ⟨z, rfl, rfl⟩⟩⟩
  · exact absurd (.inr a) hq
  · exact absurd (.inl rfl) hq
  · exact absurd (.inl rfl) hq
  exact ⟨a, v, z⟩
 obtain ⟨he0, hvn, hz⟩ := hfin;have hok := rsumD_ok (S := S) ⟨h1, h2⟩;refine zkk (kh5 (Sr fun _ kh9 => zm rfl ?_));refine WL.call hasF108 rfl rfl (Exact_spec b C S _ (hB0.keep0 hch) hr (hg0.keep0 hch) h1 h2) fun v w2 h' => ?_;obtain ⟨⟨rx, rfl, hNx⟩, hC⟩ := h';have hox := hNx.one;have hch := hch.ta hC;refine zm rfl ?_;refine WL.call hasF95 rfl rfl (Round_dspec _ _ _ _ mode _ hNx (hg0.keep0 hch) (ok_i64 hok)) fun v w3 h' => ?_;obtain ⟨⟨xb, xe, rfl, hR⟩, hC⟩ := h';rw [val_wd, formD_self hok] at hR;have hch := hch.ta hC;refine zx rfl rfl (zx rfl rfl (za rfl (za rfl (zz (kh9 ?_)))));refine zr (zr2 rfl rfl rfl ?_);exact ⟨⟨_, _, rfl, .inr ⟨he0, .inr ⟨hvn, .inr ⟨fun z => hz ((rsumD_m0 ⟨h1, h2⟩).1 z), hR⟩⟩⟩⟩, hch⟩

structure KSx (l : List Nat) (b b5 : Nat) (pn pi : Int) (w0 : World) (g : Nat × List Nat) (w : World) : Prop where
  hi : g.1 ≤ l.length
  hB : TB w b 251 g.2 (cntP (l.take g.1)).cells
  hr : Rep g.2 (sumI (l.take g.1))
  h5 : BK w b5 34 [.int .i64 pn, .int .i64 pi]
  ch : Chg [] w0 w

theorem sumsExact_spec (v : Value) (l : List Nat) (mode pn pi : Int) (w : World) (hv : NF w v l) (hg : GW w) : Ret Tryz.prog 30 [v, .int .i64 mode, .agg [.int .i64 pn, .int .i64 pi].toArray] w fun u w' => (∃ x e, u = .tuple [.float .f64 x, .int .i64 e].toArray ∧ (l.length ≤ 65536 → sumShR (accSh (cntP l) (sumI l)) mode pn pi x e)) ∧ Chg [] w w' := by
 obtain ⟨⟨al, cl, rfl, hcap, hrl⟩, hWl, hll⟩ := hv;have hch := crf w;have hg0 := hg;refine zE3 Tryz.func30 rfl ?_;refine Sr fun _ kh1 => ?_;refine zBh rfl rfl rfl hch fun b5 wm5 hb5 hcm5 hge5 hgehch5 hch => ?_;refine za rfl (za rfl (zz (kh1 (zc fun _ kh3 => ?_))));refine CW.seqMC 21 (decide (¬ ((0 ≤ mode ∧ mode ≤ 4) ∧ mayQ pn pi))) ?_ ?_
 ·intro hcM;refine zS fun _ kr4 => zm rfl (zL rfl rfl (zm rfl ?_));refine zb ?_ ?_<;>intro hg1<;>try simp only [qs] at hg1
  ·refine zv rfl (zv rfl (zt rfl rfl (zm rfl (zv rfl (zv rfl (zv rfl (zt rfl rfl (zz (kr4 ?_)))))))));refine ⟨rfl, hcM, Subs.consB rfl ?_ ?_⟩
   ·first | (simp_all; done) | (simp; omega) | (refine decide_eq_decide.2 ?_; omega) | (cases hdm : decide (mayQ pn pi) <;> simp_all <;> omega)
   exact SMg
  refine zw rfl (zm rfl (zw rfl (zG rfl rfl (ze rfl rfl (zm rfl ?_)))));refine zb ?_ ?_<;>intro hg2<;>try simp only [qs] at hg2
  ·refine zv rfl (zv rfl (zv rfl (zt rfl rfl (zz (kr4 ?_)))));refine ⟨rfl, hcM, Subs.consB rfl ?_ ?_⟩
   ·first | (simp_all; done) | (simp; omega) | (refine decide_eq_decide.2 ?_; omega) | (cases hdm : decide (mayQ pn pi) <;> simp_all <;> omega)
   exact SMg
  refine zw rfl (zg hb5 rfl (zw rfl ?_));refine WL.call hasF99 rfl rfl (May_spec pn pi _) fun v w1 h' => ?_;obtain ⟨rfl, hC⟩ := h';have hcM := hcM.ta hC;refine zw rfl (zT rfl (ze rfl rfl (zz (kr4 ?_))));refine ⟨rfl, hcM, Subs.consB rfl ?_ ?_⟩
  ·first | (simp_all; done) | (simp; omega) | (refine decide_eq_decide.2 ?_; omega) | (cases hdm : decide (mayQ pn pi) <;> simp_all <;> omega)
  exact SMg
 intro wM hcM;have hch := hch.ta hcM;have hb5 := hb5.k0 hcM;refine zy rfl ?_ ?_<;>intro hc3<;>try simp only [qs] at hc3
 ·have hq : ¬ ((0 ≤ mode ∧ mode ≤ 4) ∧ mayQ pn pi) := hc3
  have he : ∀ s : SP, shE s mode pn pi = 1 := fun s => if_pos hq;refine Sr fun _ kh5 => za rfl (za rfl (zz (kh5 ?_)));refine zr (zr2 rfl rfl rfl ?_);exact ⟨⟨_, _, rfl, fun _ => .inl ⟨by rw [he]; decide, rfl, (he _).symm⟩⟩, hch⟩
 have hq : ¬ ¬ ((0 ≤ mode ∧ mode ≤ 4) ∧ mayQ pn pi) := fun z => z hc3;refine zkk (kh3 (zc fun _ kh7 => Sr fun _ kh8 => zm rfl (zn rfl (zG rfl rfl (zz (kh8 ?_))))));refine zy rfl ?_ ?_<;>intro hc4<;>try simp only [qs] at hc4
 ·have hbig : 65536 < l.length := by have := hc4; omega
  refine Sr fun _ kh10 => za rfl (za rfl (zz (kh10 ?_)));refine zr (zr2 rfl rfl rfl ?_);exact ⟨⟨_, _, rfl, fun z => absurd z (by omega)⟩, hch⟩
 have hsml : l.length ≤ 65536 := by have := hc4; omega
 refine zkk (kh7 (Sr fun _ kh12 => ?_));refine WL.call hasF100 rfl rfl (New_spec _) fun v w2 h' => ?_;obtain ⟨b, rfl, hB6, hge6, hC⟩ := h';have hbge : w.heap.size ≤ b := Nat.le_trans hch.size hge6;have hne5 : b5 ≠ b := by have := hb5.lt; omega
 have hch := hch.ta hC;have hb5 := hb5.k0 hC;refine za rfl (zz (kh12 (zc fun _ kh14 => Sr fun _ kh15 => zm rfl (zn rfl (zm rfl (zz (kh15 (CW.block ?_))))))));refine CW.loop (S := fun g : Nat × List Nat => [(1, .int .i64 mode), (5, .pointer (some ⟨b5, 0, none⟩)), (8, .pointer (some ⟨b, 0, none⟩)), (26, .slice al l.length cl), (27, .int .i64 (l.length : Int)), (28, .int .i64 (g.1 : Int))]) (Inv := KSx l b b5 pn pi w) (mu := fun g => l.length - g.1) ((0, List.replicate 67 0)) ?_ ?_ ?_
 ·exact ⟨Nat.zero_le _, hB6, by rw [List.take_zero]; exact Rep.zero, hb5, hch⟩
 ·exact SLp
 rintro ⟨i, C⟩ wr ⟨hi, hB, hr, hb5, hch⟩;dsimp only at hi hB hr hb5 hch;dsimp only;have hx := D_getD hWl i;refine Sr fun _ kh17 => zL rfl rfl (zz (kh17 (zc fun _ kh19 => ?_)));refine zy rfl ?_ ?_<;>intro hc5<;>try simp only [qs] at hc5
 ·have hst := sumI_step (l := l) (i := i) (by omega);have hin := sumI_in (l := l.take (i + 1)) (by rw [List.length_take]; omega);rw [hst, ← thv_one] at hin
  have hct := cntP_step (l := l) (i := i) (by omega);have hcl := cnt_le (l.take i);have hlt9 : (l.take i).length ≤ 65536 := by rw [List.length_take]; omega
  refine zkk (kh19 (zc fun _ kh20 => CW.block (Sr fun _ kh21 => ?_)));refine WL.ev (Ev.ixR (i) rfl rfl (hrl.keep0 hch) (by omega) (by omega) (by simp; omega)) rfl ?_;refine WL.ev (Ev.load rfl rfl ((hrl.keep0 hch).f64 (by first | omega | (simp; omega)))) rfl ?_;refine za rfl (zz (kh21 ?_));refine zR fun _ kr23 => ?_;refine zm rfl (zm rfl ?_);refine WL.call hasF101 rfl rfl (acAdd_spec b C (l.getD i 0) (cntP (l.take i)) (sumI (l.take i)) _ hB hr hx (hcl.mono (by omega)) hin.1 hin.2) fun v w3 h' => ?_;obtain ⟨rfl, C2, hB2, hr2, hC34⟩ := h';rw [thv_one, ← hst] at hr2;rw [cnt1_kind, ← hct] at hB2;have hch := hch.step hC34 (fun y hy => by simp only [List.mem_singleton] at hy; subst hy; exact .inr hbge);have hb5 := hb5.keep hC34 (by simpa using hne5);refine WL.nil (kr23 _ _ _ (kh20 ?_));refine zS fun _ kr24 => ?_;(first | refine zi rfl rfl ?_ | refine zo rfl rfl ?_);refine zm rfl (zz (kr24 ?_));refine ⟨rfl, (i + 1, C2), ?_, ?_, ?_⟩
  ·exact SLp
  ·exact ⟨by show i + 1 ≤ l.length; omega, hB2, hr2, hb5, hch⟩
  show l.length - (i + 1) < l.length - i; omega
 have hiX : i = l.length := by omega
 subst hiX;rw [List.take_length] at hr hB;have hin := sumI_in (l := l) (by omega);refine CW.exit ?_;refine kh14 (Sr fun _ kh25 => zm rfl (zm rfl (zg hb5 rfl ?_)));refine WL.call hasF102 rfl rfl (acRound_spec b C (cntP l) (sumI l) mode pn pi _ hB hr ((cnt_le l).mono (by omega)) (hg0.keep0 hch) hin.1 hin.2) fun v w4 h' => ?_;obtain ⟨⟨xb, xe, rfl, hR⟩, hC⟩ := h';have hch := hch.ta hC;refine zx rfl rfl (zx rfl rfl (za rfl (za rfl (zz (kh25 ?_)))));refine zr (zr2 rfl rfl rfl ?_);exact ⟨⟨_, _, rfl, fun _ => hR⟩, hch⟩

theorem sum_same {S : Sh} {l : List Nat} (h : Mk S l) {mode pn pi : Int} {b b' : Nat} {e e' : Int} (h1 : sumShR S mode pn pi b e) (h2 : sumShR (accSh (cntP l) (sumI l)) mode pn pi b' e') : b = b' ∧ e = e' :=
  sumSh_unique (by rw [h.s]; exact (cntP_cnt l).symm) h.V h1 h2

end

/- Medians: plain. No condition. -/
section
open Go Sx Wd Fl

set_option exponentiation.threshold 9000
open Ss

end

/- Medians: Median. No condition. -/
section
open Go Sx Wd Fl

end

/- Store: Records. No condition. -/
section
open Go Sx Wd Fl

namespace Sx
section
variable {P : Program} {ops : Array Oper} {K : KK} {fuel : Nat} {listed : Array Bool} {n : Nat} {D : List Deferred} {s : Sl} {w : World} {ty : TypeId} {pos : String} {af : Array Edge} {d : Nat} {x y : Operand}
end
end Sx
end

/- Store: the empty log's Names. No condition. -/
section
open Go Sx Wd Fl

end

end Go.Proofs.YtnbipejaidbihaaGreatDoor
/-
  DERIVED: THE SHELF's CONTRACTS AT THIS DUMP, IN PLAIN WORDS (tools/lay-plain.mjs out of 'TmpSortStr.lean', which tools/lay-shelf.mjs wrote): THE SAME DECLARATIONS UNDER THE SAME NAMES: 'import', 'namespace', 'open', 'def', 'theorem' AND NOTHING ELSE: no command of the shelf's: FOR A HAND-IN. Each laying: the table of numbers ('.._ren') and one theorem, a field a fact of the dump's own or the kernel's comparison; each contract: ONE APPLICATION.
-/
namespace Go.Proofs
open Go.Shelf
end Go.Proofs

namespace Go.Proofs.YtnbipejaidbihaaGreatDoor
/- Strings sorted, and each kept once: the library's two functions by their contracts. No condition. -/
section
open Go Sx Wd Go.Shelf Go.Sort

abbrev leS : List UInt8 → List UInt8 → Bool := fun x y => decide (x ≤ y)
end

/- Store: Names. No condition. -/
section
open Go Sx Wd Go.Sort Fl

def nmS (G : List RG) : List (List UInt8) := G.map fun g => g.1.data.toList
def nmL (G : List RG) : List (List UInt8) := Lib.compact ((nmS G).mergeSort leS)
end

/- A log's bytes cut, or one of them changed: what is read. No condition. -/
section
open Go Sx Wd Fl

/-! ### The sum -/
/-! ### Reading on, up to a place -/
end

/- Store and steelyardlaw22: size, pick, first. No condition. -/
section
open Go Sx Wd Fl

namespace Sx
section
variable {P : Program} {s : Sl} {w : World} {ty : TypeId} {x : Operand}
end
end Sx
end

/- Package steelyardlaw22: laid. No condition. -/
section
open Go Sx Wd Fl

end

/- errors.As at the program's own kind of error. Lines of a worked proof, turned to this claim. -/
section
open Go Sx Go.RowKit Go.Extern.Stop Go.Stop Go.Extern
set_option maxRecDepth 200000

end

/- errors.Is at the program's own kind of error. Lines of a worked proof, turned to this claim. -/
section
open Go Sx Go.RowKit Go.Extern.Stop Go.Stop Go.Extern
set_option maxRecDepth 200000

end

/- Store: errors told. No condition. -/
section
open Go Sx Wd Fl

structure GF (w : World) (ea : Nat → Addr) : Prop where
  ge : GE w (evV ea)
  cell : ∀ c, 1 ≤ c → c ≤ 4 → ∃ cs t, w.heap[(ea c).block]? = some (.cells cs t (0, 0))
  ne : ∀ c d, 1 ≤ c → c ≤ 4 → 1 ≤ d → d ≤ 4 → c ≠ d → ea c ≠ ea d
  et : w.cell? ⟨1, 0, none⟩ = some (.iface 302 (.agg #[.pointer (some ⟨7, 123, none⟩)]))
namespace Sx
section
variable {r : Option Nat} {P : Program} {A : AQ} {n : Nat} {D : List Deferred} {s : Sl} {w : World}
variable {ops : Array Oper} {K : KK} {fuel : Nat} {listed : Array Bool} {pos : String} {af : Array Edge} {ty : TypeId}
end
end Sx

end

/- Store: Replay of any bytes. No condition. -/
section
open Go Sx Wd Fl

end

/- The law StoreCuts. No condition. -/
section
open Go Sx Wd Fl

namespace Sx
section
variable {P : Program} {ops : Array Oper} {K : KK} {fuel : Nat} {listed : Array Bool} {n : Nat} {D : List Deferred} {s : Sl} {w : World} {ty : TypeId} {pos : String} {af : Array Edge} {d : Nat} {op : Op} {v : Value} {S : World → Prop}
end
end Sx
namespace Sx
end Sx
end

/- Names, each once; totals of records that are shards of lists. No condition. -/
section
open Go Sx Wd Go.Sort Fl

/-! ### Names -/
/-! ### Totals -/
inductive GM : List RG → Nat → Prop
  | nil : GM [] 0
  | snoc {G : List RG} {M : Nat} {nm : ByteArray} {S : Sh} {L : List Nat} {dv : Value} : GM G M → Mk S L → S.noE → GM (G ++ [(nm, encS S, dv)]) (M + L.length)
def totS (nm : ByteArray) (G : List RG) : Sh := match totW nm G with
  | .ok (S, _) => S
  | .error _ => Sh.zero
structure CpG (G : List RG) : Prop where
  t : ∀ x ∈ nmL G, totW ⟨x.toArray⟩ G = .ok (totS ⟨x.toArray⟩ G, true) ∧ (totS ⟨x.toArray⟩ G).wf ∧ (totS ⟨x.toArray⟩ G).ex ∧ decS (encS (totS ⟨x.toArray⟩ G)) = some (totS ⟨x.toArray⟩ G) ∧ (totS ⟨x.toArray⟩ G).noE ∧ (totS ⟨x.toArray⟩ G).s.al ≤ 1099511627776
  n : ∀ x ∈ nmL G, 1 ≤ (sB ⟨x.toArray⟩).length ∧ (sB ⟨x.toArray⟩).length ≤ 64
  len : G.length ≤ 100
end

/- Package steelyardlaw22: laid, by lists; Compact. No condition. -/
section
open Go Sx Wd Go.Sort Fl

namespace Sx
theorem wpAnyH_sub {P : Program} {md : Region.Mode} {ops : Array Oper} {Q : Exit → Act → World → Prop} {S S' : World → Prop} (hSS : ∀ w, S' w → S w) : ∀ (fuel : Nat) (listed : Array Bool) (a : Act) (w : World), wpAnyH P md ops Q S' fuel listed a w → wpAnyH P md ops Q S fuel listed a w
  | 0, _, _, _, h => h
  | fuel + 1, _, _, _, h => ⟨h.1, fun i hi => wpOp_mono (fun a' w' h' => ⟨hSS _ h'.1, wpAnyH_sub hSS fuel _ a' w' h'.2⟩) (h.2 i hi)⟩
theorem WH.narrow {P : Program} {ops : Array Oper} {K : KK} {S S' : World → Prop} {fuel : Nat} {listed : Array Bool} {n : Nat} {D : List Deferred} {s : Sl} {w : World} (hSS : ∀ w, S' w → S w) (k : WH P ops K S' fuel listed n D s w) : WH P ops K S fuel listed n D s w := fun a ha => wpAnyH_sub hSS _ _ _ _ (k a ha)
end Sx

end

/- Package steelyardlaw21: ShardLists. No condition. -/
section
open Go Sx Wd Ss Fl

def ptrV (b : Nat) : Value := .pointer (some ⟨b, 0, none⟩)
theorem PO.rw_ {w : World} {e lo m c : Nat} {a : Option Addr} {cs : List Value} (h : PO w e lo (.slice a m c) cs) : RW w a cs := by
  obtain ⟨a', c', e1, _, hr⟩ := h.row
  cases e1; exact hr
theorem SG.lt {w : World} {q : Nat × List Nat} (h : SG w q) : q.1 < w.heap.size := by
  obtain ⟨S, h1, _⟩ := h; exact h1.lt
structure QS (lo : Nat) (w : World) (v : Value) (Q : List (Nat × List Nat)) : Prop where
  po : PO w 39 lo v (Q.map fun q => ptrV q.1)
  sg : ∀ q ∈ Q, SG w q ∧ lo ≤ q.1
  nd : (Q.map Prod.fst).Nodup
theorem QS.keep0 {lo : Nat} {w w' : World} {v : Value} {Q : List (Nat × List Nat)} (h : QS lo w v Q) (hc : Chg [] w w') : QS lo w' v Q :=
  ⟨h.po.keep0 hc, fun q hq => ⟨(h.sg q hq).1.keep0 hc, (h.sg q hq).2⟩, h.nd⟩
theorem SG.keepPO {lo : Nat} {w w' : World} {v : Value} {cs : List Value} {q : Nat × List Nat} (h : SG w q) (hp : PO w 39 lo v cs) (hc : Chg v.ownBlock.toList w w') : SG w' q := by
  obtain ⟨S, ⟨rv, rq, hb, hv, hq⟩, hm⟩ := h
  exact ⟨S, ⟨rv, rq, hp.bk hc hb (by decide), hp.nu hc hv, hp.nu hc hq⟩, hm⟩
theorem QS.grow {lo : Nat} {w w' : World} {v v' : Value} {Q : List (Nat × List Nat)} {cs : List Value} {b : Nat} {L : List Nat} (hsg : ∀ q ∈ Q, SG w q ∧ lo ≤ q.1) (hnd : (Q.map Prod.fst).Nodup) (hq : SG w (b, L)) (hlo : lo ≤ b) (hf : b ∉ Q.map Prod.fst)
    (hp : PO w 39 lo v cs) (hc : Chg v.ownBlock.toList w w') (hp' : PO w' 39 lo v' (Q.map (fun q => ptrV q.1) ++ [ptrV b])) : QS lo w' v' (Q ++ [(b, L)]) := by
  refine ⟨by rw [List.map_append]; exact hp', fun q hm => ?_, ?_⟩
  · rcases List.mem_append.1 hm with z | z
    · exact ⟨(hsg q z).1.keepPO hp hc, (hsg q z).2⟩
    · rw [List.mem_singleton.1 z]; exact ⟨hq.keepPO hp hc, hlo⟩
  · rw [List.map_append]
    refine List.nodup_append.2 ⟨hnd, by simp, fun a ha c hcm => ?_⟩
    simp only [List.map_cons, List.map_nil, List.mem_singleton] at hcm
    subst hcm
    exact fun e => hf (e ▸ ha)
theorem QS.put {lo : Nat} {w w' : World} {v : Value} {q0 : Nat × List Nat} {b : Nat} {L L' : List Nat} {Q : List (Nat × List Nat)} {S S' : Sh} (h : QS lo w v (q0 :: (b, L) :: Q)) (hS : ShM 109 w b S) (hc : Chg [b] w w') (hS' : ShM 109 w' b S') (hm : Mk S' L') (hn : S'.noE) : QS lo w' v (q0 :: (b, L') :: Q) := by
  have hbk : v.ownBlock ≠ some b := by
    obtain ⟨rv, rq, hb, _⟩ := hS
    exact h.po.notBK hb (by decide)
  have hnd := h.nd
  simp only [List.map_cons, List.nodup_cons, List.mem_cons, not_or] at hnd
  have hoth : ∀ q, SG w q → q.1 ≠ b → SG w' q := fun q hq hne => by
    obtain ⟨T, hT, r⟩ := hq
    exact ⟨T, hT.other hS hc hne, r⟩
  refine ⟨h.po.keep hc (fun y hy => by rw [List.mem_singleton.1 hy]; exact hbk), fun q hq => ?_, h.nd⟩
  simp only [List.mem_cons] at hq
  rcases hq with rfl | rfl | hq
  · have := h.sg q (by simp)
    exact ⟨hoth q this.1 hnd.1.1, this.2⟩
  · exact ⟨⟨S', hS', hm, hn⟩, (h.sg (b, L) (by simp)).2⟩
  · have := h.sg q (by simp [hq])
    exact ⟨hoth q this.1 (fun e => hnd.2.1 (e ▸ List.mem_map_of_mem hq)), this.2⟩
structure KL1 (l : List Nat) (p b5 : Nat) (cs : List Value) (w0 : World) (g : Nat × Value × List (Nat × List Nat)) (w : World) : Prop where
  hi : g.1 ≤ p
  qs : QS w0.heap.size w g.2.1 g.2.2
  ls : g.2.2.map Prod.snd = (List.range g.1).map fun i => cls l p i l.length
  b5 : BK w b5 37 cs
  ch : Chg [] w0 w
structure KL2 (l : List Nat) (b5 : Nat) (cs : List Value) (w0 : World) (g : Value × List (Nat × List Nat)) (w : World) : Prop where
  qs : QS w0.heap.size w g.1 g.2
  ne : 0 < g.2.length
  le : g.2.length ≤ 64
  pm : (g.2.map Prod.snd).flatten.Perm l
  b5 : BK w b5 37 cs
  ch : Chg [] w0 w
structure KL3 (m : List Nat) (bs : Nat) (w0 : World) (q : Nat) (w : World) : Prop where
  hq : q < m.length
  na : ∀ j, q < j → j < m.length → isNaN (m.getD j 0) = true
  r : RW w (some ⟨bs, 0, none⟩) (m.map f64v)
  ch : Chg [] w0 w
theorem end_none {S : Sh} {l : List Nat} (h : Mk S l) (hl : l = []) (x : Nat) : (endR S x).2 = 3 := by
  unfold endR
  rw [if_pos (by rw [h.s, hl]; rfl)]
theorem qs_fresh {lo : Nat} {w : World} {v : Value} {Q : List (Nat × List Nat)} {b : Nat} (h : QS lo w v Q) (hb : w.heap.size ≤ b) : b ∉ Q.map Prod.fst := fun hm => by
  obtain ⟨q, hq, e⟩ := List.mem_map.1 hm
  have := (h.sg q hq).1.lt
  omega
theorem flat2 {a b : List Nat} {Q : List (List Nat)} {l : List Nat} (h : (a :: b :: Q).flatten.Perm l) : (Q ++ [b ++ a]).flatten.Perm l := by
  refine List.Perm.trans ?_ h
  simp only [List.flatten_append, List.flatten_cons, List.flatten_nil, List.append_nil]
  have h1 : (Q.flatten ++ (b ++ a)).Perm ((b ++ a) ++ Q.flatten) := List.perm_append_comm
  refine h1.trans ?_
  rw [← List.append_assoc]
  exact List.Perm.append_right _ List.perm_append_comm

theorem ShardLists_spec (v : Value) (l : List Nat) (parts ok oo ow om ole onn pn pi : Int) (ox : Nat) (vol vob : Value) (w : World) (hg : GW w) (hvl : NF w v l ∧ l.length ≤ 17592186044415) (hparts : -9223372036854775808 ≤ parts ∧ parts ≤ 9223372036854775807) (hvol : vol.oneCell' = true) (hvob : vob.oneCell' = true) : Ret Tryz.prog 7 [v, .int .i64 parts, .agg [.int .i64 ok, .int .i64 oo, .int .i64 ow, .float .f64 ox, vol, .int .i64 om, .int .i64 ole, .int .i64 onn, .int .i64 pn, .int .i64 pi, vob].toArray] w fun u w' => u = .bool true ∧ Chg [] w w' := by
 have hch := crf w;obtain ⟨hvl, -⟩ := hvl;have hv0 := hvl;have hg0 := hg;obtain ⟨⟨al, cl, rfl, hcapl, hrl⟩, hWl, hll⟩ := id hvl;refine zE3 Tryz.func7 rfl ?_;refine Sr fun _ kh1 => ?_;refine zBh rfl rfl rfl hch fun b5 wm5 hb5 hcm5 hge5 hgehch5 hch => ?_;refine za rfl (zz (kh1 (Sr fun _ kh3 => ?_)));refine WL.call hasF10 rfl rfl (awake_spec _ (hg0.keep0 hch)) fun v w1 h' => ?_;obtain ⟨rfl, hC⟩ := h';have hch := hch.ta hC;have hb5 := hb5.k0 hC;refine za rfl (zz (kh3 (zc fun _ kh5 => Sr fun _ kh6 => zm rfl (zT rfl (zm rfl (zw rfl (zm rfl (zw rfl (zn rfl (zw rfl (zG rfl rfl (ze rfl rfl (zz (kh6 ?_))))))))))))));refine zy rfl ?_ ?_<;>intro hc1<;>try simp only [qs] at hc1
 ·refine Sr fun _ kh8 => zm rfl (za rfl (zz (kh8 ?_)));refine zr (zr1 rfl rfl ?_);exact ⟨rfl, hch⟩
 have hl2 : l.length ≤ 2000 := by have := hc1; omega
 refine zkk (kh5 ?_);refine CW.seqJ (fun D s' w' => D = [] ∧ (∃ p : Nat, 1 ≤ p ∧ p ≤ 64 ∧ Sx.look s' 1 = some (.int .i64 (p : Int))) ∧ BK w' b5 37 [.int .i64 ok, .int .i64 oo, .int .i64 ow, .float .f64 ox, vol, .int .i64 om, .int .i64 ole, .int .i64 onn, .int .i64 pn, .int .i64 pi, vob] ∧ Chg [] w w' ∧ Subs [(0, .slice al l.length cl), (5, .pointer (some ⟨b5, 0, none⟩)), (7, .bool true)] s') ?_ ?_
 ·refine CW.seqM 47 (decide (parts < 1 ∨ 64 < parts)) ?_ ?_
  ·refine zS fun _ kr11 => zm rfl (zL rfl rfl (zm rfl ?_));refine zb ?_ ?_<;>intro hg2<;>try simp only [qs] at hg2
   ·refine zv rfl (zv rfl (zt rfl rfl (zz (kr11 ?_))));refine ⟨rfl, rfl, Subs.consB rfl ?_ ?_⟩
    ·first | (simp_all; done) | (refine decide_eq_decide.2 ?_; omega) | (refine (decide_eq_true ?_).symm; omega) | (refine (decide_eq_false ?_).symm; omega)
    exact SMg
   refine zw rfl (zm rfl (zw rfl (zG rfl rfl (ze rfl rfl (zz (kr11 ?_))))));refine ⟨rfl, rfl, Subs.consB rfl ?_ ?_⟩
   ·first | (simp_all; done) | (refine decide_eq_decide.2 ?_; omega) | (refine (decide_eq_true ?_).symm; omega) | (refine (decide_eq_false ?_).symm; omega)
   exact SMg
  refine zy rfl ?_ ?_<;>intro hc3<;>try simp only [qs] at hc3
  ·refine zS fun _ kr12 => zm rfl (zn rfl ?_)
   first | refine WL.ev (Ev.remIn rfl rfl (by omega) (by omega)) rfl ?_ | refine WL.ev (Ev.rem rfl rfl (by omega)) rfl ?_
   (first | refine zi rfl rfl ?_ | refine zo rfl rfl ?_);refine za rfl (zz (kr12 ?_));exact ⟨rfl, ⟨1 + l.length % 9, by omega, by omega, rfl⟩, hb5, hch, by (repeat (first | exact Subs.nil | refine Subs.cons rfl ?_))⟩
  have hpr : 1 ≤ parts ∧ parts ≤ 64 := by have := hc3; omega
  refine zkk ?_;exact ⟨rfl, ⟨parts.toNat, by omega, by omega, by rw [Int.toNat_of_nonneg (by omega)]; rfl⟩, hb5, hch, by (repeat (first | exact Subs.nil | refine Subs.cons rfl ?_))⟩
 rintro _ s' wJ ⟨rfl, ⟨p, hp1, hp64, hlk⟩, hb5, hch, hsub⟩;refine CW.sub (s' := [(1, .int .i64 (p : Int)), (0, .slice al l.length cl), (5, .pointer (some ⟨b5, 0, none⟩)), (7, .bool true)]) (Subs.cons hlk hsub) ?_;refine Sr fun _ kh13 => za rfl (zz (kh13 (zc fun _ kh15 => Sr fun _ kh16 => za rfl (zz (kh16 (CW.block ?_))))));refine CW.loop (S := fun g : Nat × Value × List (Nat × List Nat) => [(0, .slice al l.length cl), (1, .int .i64 (p : Int)), (5, .pointer (some ⟨b5, 0, none⟩)), (7, .bool true), (8, g.2.1), (9, .int .i64 (g.1 : Int))]) (Inv := KL1 l p b5 [.int .i64 ok, .int .i64 oo, .int .i64 ow, .float .f64 ox, vol, .int .i64 om, .int .i64 ole, .int .i64 onn, .int .i64 pn, .int .i64 pi, vob] w) (mu := fun g => p - g.1) ((0, .slice none 0 0, [])) ?_ ?_ ?_
 ·exact ⟨Nat.zero_le _, ⟨PO.nil, fun q hq => (by cases hq), List.nodup_nil⟩, rfl, hb5, hch⟩
 ·exact SLp
 rintro ⟨i, va, Q⟩ wr ⟨hi, hqs, hls, hb5, hch⟩;dsimp only at hi hqs hls;dsimp only;refine zc fun _ kh18 => Sr fun _ kh19 => zm rfl (zm rfl (zL rfl rfl (zz (kh19 ?_))));refine zy rfl ?_ ?_<;>intro hc4<;>try simp only [qs] at hc4
 ·have hip : i < p := by omega
  have hQl : Q.length = i := by have := congrArg List.length hls; simpa using this
  refine zkk (kh18 (zc fun _ kh21 => CW.block ?_));refine zR fun _ kr22 => ?_;refine zm rfl (zm rfl (zm rfl (zm rfl ?_)));refine WL.call hasF24 rfl rfl (filled_spec _ l i p _ (hv0.keep0 hch) hl2 hip (by omega) (hg0.keep0 hch)) fun v w2 h' => ?_;obtain ⟨⟨bf, rfl, hsf, hgef⟩, hC⟩ := h';have hff := qs_fresh hqs hgef;have hlof := Nat.le_trans hch.size hgef;have hch := hch.ta hC;have hb5 := hb5.k0 hC;have hqs := hqs.keep0 hC;refine WL.buildSlice (m := 1) (cs := [ptrV bf]) (by decide) (by decide) rfl (by kernel_rfl) rfl fun b62 w62 hn62 => ?_;have hb62 := hn62.at_;have hqs := hqs.keep0 hn62.chg;have hsf := hsf.keep0 hn62.chg;have hb5 := hb5.keep0 hn62.chg;have hch := hch.trans (Chg.any hn62.chg);refine WL.appO (lo := w.heap.size) (u := ptrV bf) rfl rfl rfl rfl hqs.po ((show BK _ b62 39 [ptrV bf] from hb62).at_ rfl) rfl rfl hch.size (by rw [List.length_map]; omega) (by decide) rfl fun v63 w63 hpo63 hc63 hg63 => ?_;have hch2 := hqs.po.frame hc63 hch (Nat.le_refl _);have hb52 := hqs.po.bk hc63 hb5 (by decide);have hqs := QS.grow hqs.sg hqs.nd hsf hlof hff hqs.po hc63 hpo63;have hch := hch2;have hb5 := hb52;refine za rfl ?_;refine WL.nil (kr22 _ _ _ (kh21 ?_));refine zS fun _ kr23 => zm rfl ?_;(first | refine zi rfl rfl ?_ | refine zo rfl rfl ?_);refine za rfl (zz (kr23 ?_));refine ⟨rfl, (i + 1, v63, Q ++ [(bf, cls l p i l.length)]), ?_, ?_, ?_⟩
  ·exact SLp
  ·refine ⟨by dsimp only; omega, hqs, ?_, hb5, hch⟩;dsimp only;rw [List.map_append, hls, List.range_succ, List.map_append]; rfl
  show p - (i + 1) < p - i; omega
 have hip : i = p := by omega
 subst hip;have hpm : (Q.map Prod.snd).flatten.Perm l := by rw [hls]; exact cls_perm l (by omega)
 have hQl : Q.length = i := by have := congrArg List.length hls; simpa using this
 refine CW.exit ?_;refine kh15 (zc fun _ kh24 => CW.block ?_);refine CW.loop (S := fun g : Value × List (Nat × List Nat) => [(0, .slice al l.length cl), (5, .pointer (some ⟨b5, 0, none⟩)), (7, .bool true), (8, g.1)]) (Inv := KL2 l b5 [.int .i64 ok, .int .i64 oo, .int .i64 ow, .float .f64 ox, vol, .int .i64 om, .int .i64 ole, .int .i64 onn, .int .i64 pn, .int .i64 pi, vob] w) (mu := fun g => g.2.length) ((va, Q)) ?_ ?_ ?_
 ·exact ⟨hqs, by dsimp only; omega, by dsimp only; omega, hpm, hb5, hch⟩
 ·exact SLp
 rintro ⟨va, Q⟩ wr ⟨hqs, hne, hle64, hpm, hb5, hch⟩;dsimp only at hqs hne hle64 hpm;dsimp only;obtain ⟨aq, cq, hve, hcq, hrq⟩ := hqs.po.row;rw [List.length_map] at hve hcq;subst hve;refine zc fun _ kh25 => Sr fun _ kh26 => zm rfl (zn rfl (zG rfl rfl (zz (kh26 ?_))));refine zy rfl ?_ ?_<;>intro hc5<;>try simp only [qs] at hc5
 ·obtain ⟨q0, q1, Q, rfl⟩ : ∃ q0 q1 Q', Q = q0 :: q1 :: Q' := by
        rcases Q with _ | ⟨q0, _ | ⟨q1, Q⟩⟩
        · simp at hne
        · simp at hc5
        exact ⟨q0, q1, Q, rfl⟩
  obtain ⟨⟨S0, hS0, hM0, hN0⟩, hlo0⟩ := hqs.sg q0 (by simp);obtain ⟨⟨S1, hS1, hM1, hN1⟩, hlo1⟩ := hqs.sg q1 (by simp);have hlen2 : q1.2.length + q0.2.length ≤ 2000 := by have := hpm.length_eq; simp at this; omega
  have hne01 : q1.1 ≠ q0.1 := by have := hqs.nd; simp at this; exact fun e => this.1.1 e.symm
  have hal1 : S1.s.al = q1.2.length := by rw [hM1.s]
  have hal0 : S0.s.al = q0.2.length := by rw [hM0.s]
  refine zkk (kh25 (CW.block (zc fun _ kh28 => ?_)));refine CW.regionHT [q1.1] 8 rfl hmix fun kR29 kr29 hS hdr => ?_;have hch := hch.ta hdr;have hb5 := hb5.k0 hdr;have hqs := hqs.keep0 hdr;have hS0 := hS0.keep0 hdr;have hS1 := hS1.keep0 hdr;have hTn : ∀ y ∈ [q1.1], (Value.slice aq (Q.length + 1 + 1) cq).ownBlock ≠ some y := fun y hy => by rw [List.mem_singleton.1 hy]; obtain ⟨_, _, hbk, _⟩ := hS1; exact hqs.po.notBK hbk (by decide)
  have hqr := hqs.po;have hno1 := hS1;refine wh 0 rfl hS (eM rfl) (wh 1 rfl hS (fun _ hw' => Ev.ixR 1 rfl rfl (hqr.keep hw' hTn).rw_ rfl (by omega) (by simp)) (wh 2 rfl hS (fun _ hw' => Ev.load (v := ptrV q1.1) rfl rfl ((hqr.keep hw' hTn).rw_.at_ (j := 1) rfl)) (wh 3 rfl hS (eM rfl) (wh 4 rfl hS (fun _ hw' => Ev.ixR 0 rfl rfl (hqr.keep hw' hTn).rw_ rfl (by omega) (by simp)) (wh 5 rfl hS (fun _ hw' => Ev.load (v := ptrV q0.1) rfl rfl ((hqr.keep hw' hTn).rw_.at_ (j := 0) rfl)) ?_)))));refine WH.oneCall 6 rfl (by kernel_rfl) hasF25 rfl rfl (shMerge_spec q1.1 q0.1 S1 S0 _ hS1 (hM1.wf hN1) hS0 (hM0.wf hN0) hne01 (hg0.keep0 hch)) fun v w3 h' => ?_;rcases h' with ⟨hbig, _⟩ | ⟨_, rfl, hS2, hC⟩
  · omega
  have hM2 := Mk.merge hM1 hM0 (by omega);have hN2 := Mk.noE hM1 hM0 hN1;have hqs := QS.put hqs hS1 hC hS2 hM2 hN2;have hb5 := hb5.keep hC (by rw [List.mem_singleton]; obtain ⟨_, _, hbk, _⟩ := hS1; exact bk_neT hb5 hbk (by decide));have hch := hch.step hC (fun y hy => .inr (by rw [List.mem_singleton.1 hy]; exact hlo1));have hS := hS.trans hC;refine ⟨hS, ?_⟩;refine wh 7 rfl hS (eA rfl) ?_;refine WH.done (by kernel_rfl) (kr29 _ _ _ ?_);refine kh28 (Sr fun _ kh30 => zm rfl ?_);refine WL.ev (Ev.ixR 1 rfl rfl hqs.po.rw_ rfl (by omega) (by simp)) rfl ?_;refine WL.ev (Ev.load (v := ptrV q1.1) rfl rfl (hqs.po.rw_.at_ (j := 1) rfl)) rfl ?_;refine WL.call hasF14 rfl rfl (shEncode_spec q1.1 (S1.merge S0) _ hS2 (hM2.wf hN2) hM2.ex) fun v w4 h' => ?_;obtain ⟨hge1, hC⟩ := h';obtain ⟨a78, c78, rfl, hcap78, hre78, hbl78⟩ := hge1.u8cell;have hch := hch.ta hC;have hb5 := hb5.k0 hC;have hqs := hqs.keep0 hC;refine WL.call hasF26 rfl rfl (Decode_spec21 a78 (encS (S1.merge S0)) c78 _ hre78 hcap78 hbl78 (encS_B8 _) (by have := encS_len hM2.ex; omega) (hg0.keep0 hch)) fun v w5 h' => ?_;obtain ⟨hD, hC⟩ := h';have hszw := hch.size;rcases hD with ⟨T, bt, hT, rfl, hTm, hget, -⟩ | ⟨hno, -⟩
  rotate_left
  · rw [hM2.dec hN2] at hno; cases hno
  obtain rfl : T = S1.merge S0 := Option.some.inj (hT.symm.trans (hM2.dec hN2));have hft : bt ∉ Q.map Prod.fst := fun hm => by have := qs_fresh hqs hget; simp only [List.map_cons, List.mem_cons, not_or] at this; exact this.2.2 hm
  have hch := hch.ta hC;have hb5 := hb5.k0 hC;have hqs := hqs.keep0 hC;refine zm rfl (zx rfl rfl (zx rfl rfl (za rfl (za rfl (zz (kh30 (zc fun _ kh32 => Sr fun _ kh33 => zm rfl (zN rfl rfl ?_))))))));rw [decide_eq_false (by simp)];refine zm rfl (zw rfl (zm rfl (zw rfl (zN rfl rfl ?_))));rw [decide_eq_false (by simp)];refine ze rfl rfl (zm rfl (zw rfl (zm rfl (zw rfl ?_))));refine WL.ev (Ev.eqlPtrNil rfl rfl) rfl ?_;refine ze rfl rfl (zz (kh33 ?_));refine CW.condF rfl ?_;refine zkk (kh32 ?_);refine CW.seqJ (fun D s' w' => D = [] ∧ (∃ bn, Sx.look s' 11 = some (ptrV bn) ∧ SG w' (bn, q1.2 ++ q0.2) ∧ w.heap.size ≤ bn ∧ bn ∉ Q.map Prod.fst) ∧ QS w.heap.size w' (.slice aq (Q.length + 1 + 1) cq) (q0 :: (q1.1, q1.2 ++ q0.2) :: Q) ∧ BK w' b5 37 [.int .i64 ok, .int .i64 oo, .int .i64 ow, .float .f64 ox, vol, .int .i64 om, .int .i64 ole, .int .i64 onn, .int .i64 pn, .int .i64 pi, vob] ∧ Chg [] w w' ∧ Subs [(0, .slice al l.length cl), (5, .pointer (some ⟨b5, 0, none⟩)), (7, .bool true), (8, .slice aq (Q.length + 1 + 1) cq)] s') ?_ ?_
  ·refine Sr fun _ kh36 => zm rfl (zn rfl ?_)
   first | refine WL.ev (Ev.remIn rfl rfl (by omega) (by omega)) rfl ?_ | refine WL.ev (Ev.rem rfl rfl (by omega)) rfl ?_
   refine zq rfl rfl (zz (kh36 ?_));refine zy rfl ?_ ?_<;>intro hc6<;>try simp only [qs] at hc6
   ·refine zS fun _ kr38 => zm rfl ?_
    refine WL.ev (Ev.ixR 1 rfl rfl hqs.po.rw_ rfl (by omega) (by simp)) rfl ?_;refine WL.ev (Ev.load (v := ptrV q1.1) rfl rfl (hqs.po.rw_.at_ (j := 1) rfl)) rfl ?_;refine za rfl (zz (kr38 ?_));refine ⟨rfl, ⟨q1.1, rfl, (hqs.sg _ (by simp)).1, hlo1, ?_⟩, hqs, hb5, hch, by (repeat (first | exact Subs.nil | refine Subs.cons rfl ?_))⟩;have := hqs.nd; simp at this; simpa using this.2.1
   refine zkk ?_;refine ⟨rfl, ⟨bt, rfl, ⟨_, hTm, hM2, hN2⟩, Nat.le_trans hszw hget, hft⟩, hqs, hb5, hch, by (repeat (first | exact Subs.nil | refine Subs.cons rfl ?_))⟩
  rintro _ s' wJ ⟨rfl, ⟨bn, hlk, hsn, hlon, hfn⟩, hqs, hb5, hch, hsub⟩;refine CW.sub (s' := [(11, ptrV bn), (0, .slice al l.length cl), (5, .pointer (some ⟨b5, 0, none⟩)), (7, .bool true), (8, .slice aq (Q.length + 1 + 1) cq)]) (Subs.cons hlk hsub) ?_;refine zS fun _ kr39 => zm rfl ?_;refine WL.ev (Ev.sliceLn 2 rfl rfl rfl (by omega)) rfl ?_;refine zm rfl ?_;refine WL.buildSlice (m := 1) (cs := [ptrV bn]) (by decide) (by decide) rfl (by kernel_rfl) rfl fun b102 w102 hn102 => ?_;have hb102 := hn102.at_;have hqs := hqs.keep0 hn102.chg;have hsn := hsn.keep0 hn102.chg;have hb5 := hb5.keep0 hn102.chg;have hch := hch.trans (Chg.any hn102.chg);obtain ⟨hpc, hoc⟩ := hqs.po.cut (j := 2) (by simp);refine WL.appO (lo := w.heap.size) (u := ptrV bn) rfl rfl rfl rfl hpc ((show BK _ b102 39 [ptrV bn] from hb102).at_ rfl) rfl rfl hch.size (by simp at hle64 ⊢; omega) (by decide) rfl fun v103 w103 hpo103 hc103 hg103 => ?_;rw [hoc] at hc103;have hch2 := hqs.po.frame hc103 hch (Nat.le_refl _);have hb52 := hqs.po.bk hc103 hb5 (by decide);have hqs := QS.grow (Q := Q) (fun q hq => hqs.sg q (by simp [hq])) (by have := hqs.nd; simp at this; exact this.2.2) hsn hlon hfn hqs.po hc103 hpo103;have hch := hch2;have hb5 := hb52;refine za rfl (zz (kr39 ?_));refine ⟨rfl, (v103, Q ++ [(bn, q1.2 ++ q0.2)]), ?_, ?_, ?_⟩
  ·exact SLp
  ·refine ⟨hqs, by simp, by simp at hle64 ⊢; omega, ?_, hb5, hch⟩;dsimp only;rw [List.map_append];exact flat2 hpm
  show (Q ++ [(bn, q1.2 ++ q0.2)]).length < _; simp
 obtain ⟨q0, rfl⟩ : ∃ q0, Q = [q0] := by
       rcases Q with _ | ⟨q0, _ | ⟨q1, Q⟩⟩
       · simp at hne
       · exact ⟨q0, rfl⟩
       exfalso; have h9 := hc5; simp only [List.length_cons] at h9; omega
 obtain ⟨⟨S, hSh, hM, hN⟩, hlo0⟩ := hqs.sg q0 (by simp);have hp0 : q0.2.Perm l := by simpa using hpm
 refine CW.exit ?_;refine kh24 (Sr fun _ kh40 => zm rfl ?_);refine WL.ev (Ev.ixR 0 rfl rfl hqs.po.rw_ rfl (by simp) (by simp)) rfl ?_;refine WL.ev (Ev.load (v := ptrV q0.1) rfl rfl (hqs.po.rw_.at_ (j := 0) rfl)) rfl ?_;refine za rfl (zz (kh40 (Sr fun _ kh42 => zm rfl ?_)));refine WL.call hasF24 rfl rfl (filled_spec _ l 0 1 _ (hv0.keep0 hch) hl2 (by decide) (by decide) (hg0.keep0 hch)) fun v w6 h' => ?_;obtain ⟨⟨bw, rfl, ⟨T, hT, hMT, hNT⟩, hgef⟩, hC⟩ := h';rw [cls_one] at hMT;dsimp only at hT hMT;obtain rfl : S = T := Mk.perm hM hMT hp0 hN hNT;have hch := hch.ta hC;have hb5 := hb5.k0 hC;have hSh := hSh.keep0 hC;refine za rfl (zz (kh42 (Sr fun _ kh44 => zm rfl (zf rfl (zl hb5 rfl rfl (zf rfl ?_))))));refine WL.ev (Ev.loadB (cs := [.int .i64 pn, .int .i64 pi]) rfl rfl hb5 rfl rfl) rfl ?_;refine WL.call hasF27 rfl rfl (shSum_spec q0.1 S om pn pi _ hSh (hMT.wf hNT) (hg0.keep0 hch)) fun v w7 h' => ?_;obtain ⟨⟨xa, ea, rfl, hRa⟩, hC⟩ := h';have hch := hch.ta hC;have hb5 := hb5.k0 hC;have hSh := hSh.keep0 hC;have hT := hT.keep0 hC;refine zm rfl (zx rfl rfl (zx rfl rfl (za rfl (za rfl (zz (kh44 (Sr fun _ kh46 => zm rfl (zf rfl (zl hb5 rfl rfl (zf rfl ?_))))))))));refine WL.ev (Ev.loadB (cs := [.int .i64 pn, .int .i64 pi]) rfl rfl hb5 rfl rfl) rfl ?_;refine WL.call hasF28 rfl rfl (shMean_spec q0.1 S om pn pi _ hSh (hMT.wf hNT) (hg0.keep0 hch) (by rw [hMT.fin.1]; omega)) fun v w8 h' => ?_;obtain ⟨⟨xb, eb, rfl, hRb⟩, hC⟩ := h';have hch := hch.ta hC;have hb5 := hb5.k0 hC;have hSh := hSh.keep0 hC;have hT := hT.keep0 hC;refine zm rfl (zx rfl rfl (zx rfl rfl (za rfl (za rfl (zz (kh46 (Sr fun _ kh48 => zm rfl (zf rfl (zl hb5 rfl rfl (zf rfl (zl hb5 rfl rfl (zf rfl ?_))))))))))));refine WL.ev (Ev.loadB (cs := [.int .i64 pn, .int .i64 pi]) rfl rfl hb5 rfl rfl) rfl ?_;refine WL.call hasF29 rfl rfl (shVar_spec q0.1 S ole om pn pi _ hSh (hMT.wf hNT) (hg0.keep0 hch)) fun v w9 h' => ?_;obtain ⟨⟨xc, ec, rfl, hRc⟩, hC⟩ := h';have hch := hch.ta hC;have hb5 := hb5.k0 hC;have hSh := hSh.keep0 hC;have hT := hT.keep0 hC;refine zm rfl (zx rfl rfl (zx rfl rfl (za rfl (za rfl (zz (kh48 (Sr fun _ kh50 => zm rfl (zf rfl (zl hb5 rfl rfl (zf rfl ?_))))))))));refine WL.ev (Ev.loadB (cs := [.int .i64 pn, .int .i64 pi]) rfl rfl hb5 rfl rfl) rfl ?_;refine WL.call hasF30 rfl rfl (sumsExact_spec _ l om pn pi _ (hv0.keep0 hch) (hg0.keep0 hch)) fun v w10 h' => ?_;obtain ⟨⟨xa2, ea2, rfl, hRa2⟩, hC⟩ := h';obtain ⟨rfl, rfl⟩ := sum_same hMT hRa (hRa2 (by omega));have hch := hch.ta hC;have hb5 := hb5.k0 hC;have hSh := hSh.keep0 hC;have hT := hT.keep0 hC;refine zm rfl (zx rfl rfl (zx rfl rfl (za rfl (za rfl (zz (kh50 (Sr fun _ kh52 => zm rfl (zf rfl (zl hb5 rfl rfl (zf rfl ?_))))))))));refine WL.ev (Ev.loadB (cs := [.int .i64 pn, .int .i64 pi]) rfl rfl hb5 rfl rfl) rfl ?_;refine WL.call hasF31 rfl rfl (Mean_spec _ l om pn pi _ (hv0.keep0 hch) (hg0.keep0 hch)) fun v w11 h' => ?_;obtain ⟨⟨xb2, eb2, rfl, hRb2⟩, hC⟩ := h';obtain ⟨rfl, rfl⟩ := mean_same hMT (by omega) hRb hRb2;have hch := hch.ta hC;have hb5 := hb5.k0 hC;have hSh := hSh.keep0 hC;have hT := hT.keep0 hC;refine zm rfl (zx rfl rfl (zx rfl rfl (za rfl (za rfl (zz (kh52 (Sr fun _ kh54 => zm rfl (zf rfl (zl hb5 rfl rfl (zf rfl (zl hb5 rfl rfl (zf rfl ?_))))))))))));refine WL.ev (Ev.loadB (cs := [.int .i64 pn, .int .i64 pi]) rfl rfl hb5 rfl rfl) rfl ?_;refine WL.call hasF32 rfl rfl (Var_spec _ l ole om pn pi _ (hv0.keep0 hch) (hg0.keep0 hch)) fun v w12 h' => ?_;obtain ⟨⟨xc2, ec2, rfl, hRc2⟩, hC⟩ := h';obtain ⟨rfl, rfl⟩ := var_same hMT (by omega) hRc hRc2;have hch := hch.ta hC;have hSh := hSh.keep0 hC;have hT := hT.keep0 hC;refine zm rfl (zx rfl rfl (zx rfl rfl (za rfl (za rfl (zz (kh54 (zc fun _ kh56 => zc fun _ kh57 => ?_)))))));refine CW.regionHC 47 rfl hmix fun kR58 kr58 hS hdr => ?_;have hch := hch.ta hdr;have hSh := hSh.keep0 hdr;have hT := hT.keep0 hdr;refine wh 0 rfl hS (eM rfl) (wh 1 rfl hS (eM rfl) (wh 2 rfl hS (fun _ _ => Ev.neq rfl rfl) ?_));rw [decide_eq_false (by simp)];refine wh 3 rfl hS (eM rfl) (wg 4 rfl rfl rfl rfl rfl hS (eM rfl) (wg 5 rfl rfl rfl rfl rfl hS (eM rfl) (wg 6 rfl rfl rfl rfl rfl hS (fun _ _ => Ev.neq rfl rfl) ?_)));rw [decide_eq_false (by simp)];refine wh 7 rfl hS (fun _ _ => Ev.pickF rfl rfl rfl) (wh 8 rfl hS (eM rfl) (wg 9 rfl rfl rfl rfl rfl hS (eM rfl) (wg 10 rfl rfl rfl rfl rfl hS (eM rfl) (wg 11 rfl rfl rfl rfl rfl hS (fun _ _ => Ev.neq rfl rfl) ?_))));rw [decide_eq_false (by simp)];refine wh 12 rfl hS (fun _ _ => Ev.pickF rfl rfl rfl) (wh 13 rfl hS (eM rfl) (wg 14 rfl rfl rfl rfl rfl hS (eM rfl) (wg 15 rfl rfl rfl rfl rfl hS (eM rfl) ?_)));refine WH.oneCallG 16 rfl (by kernel_rfl) rfl rfl rfl rfl hasF33 rfl rfl (steelyardref03_Alike_spec _ _ _) fun v w13 h' => ?_;obtain ⟨rfl, rfl⟩ := h';rw [decide_eq_true rfl];refine ⟨hS, ?_⟩;refine wg 17 rfl rfl rfl rfl rfl hS (fun _ _ => Ev.not rfl) (wh 18 rfl hS (fun _ _ => Ev.pickF rfl rfl rfl) (wh 19 rfl hS (eM rfl) (wg 20 rfl rfl rfl rfl rfl hS (eM rfl) (wg 21 rfl rfl rfl rfl rfl hS (eM rfl) ?_))));refine WH.oneCallG 22 rfl (by kernel_rfl) rfl rfl rfl rfl hasF33 rfl rfl (steelyardref03_Alike_spec _ _ _) fun v w14 h' => ?_;obtain ⟨rfl, rfl⟩ := h';rw [decide_eq_true rfl];refine ⟨hS, ?_⟩;refine wg 23 rfl rfl rfl rfl rfl hS (fun _ _ => Ev.not rfl) (wh 24 rfl hS (fun _ _ => Ev.pickF rfl rfl rfl) (wh 25 rfl hS (eM rfl) (wg 26 rfl rfl rfl rfl rfl hS (eM rfl) (wg 27 rfl rfl rfl rfl rfl hS (eM rfl) ?_))))
 refine WH.oneCallG 28 rfl (by kernel_rfl) rfl rfl rfl rfl hasF33 rfl rfl (steelyardref03_Alike_spec _ _ _) fun v w15 h' => ?_;obtain ⟨rfl, rfl⟩ := h';rw [decide_eq_true rfl];refine ⟨hS, ?_⟩;refine wg 29 rfl rfl rfl rfl rfl hS (fun _ _ => Ev.not rfl) (wh 30 rfl hS (fun _ _ => Ev.pickF rfl rfl rfl) (wh 31 rfl hS (eM rfl) (wg 32 rfl rfl rfl rfl rfl hS (eM rfl) (wg 35 rfl rfl rfl rfl rfl hS (eM rfl) ?_))));refine WH.oneCallG 33 rfl (by kernel_rfl) rfl rfl rfl rfl hasF14 rfl rfl (shEncode_spec q0.1 S _ hSh (hMT.wf hNT) hMT.ex) fun v w16 h' => ?_;obtain ⟨hgA, hC⟩ := h';obtain ⟨aA, cA, rfl, hcapA, hreA, -⟩ := hgA.u8cell;have hch := hch.ta hC;have hSh := hSh.keep0 hC;have hT := hT.keep0 hC;have hS := hS.trans hC;refine ⟨hS, ?_⟩;refine WH.narrow (S' := Chg [] w16) (fun w' hw' => hS.trans hw') ?_;have hS : Chg [] w16 w16 := Chg.refl _ _;refine wg 34 rfl rfl rfl rfl rfl hS (fun _ hw' => Ev.toStr (l := encS S) rfl rfl (hreA.keep0 hw')) ?_;refine WH.oneCallG 36 rfl (by kernel_rfl) rfl rfl rfl rfl hasF14 rfl rfl (shEncode_spec bw S _ hT (hMT.wf hNT) hMT.ex) fun v w17 h' => ?_;obtain ⟨hgB, hC⟩ := h';obtain ⟨aB, cB, rfl, hcapB, hreB, -⟩ := hgB.u8cell;have hch := hch.ta hC;have hSh := hSh.keep0 hC;have hS := hS.trans hC;refine ⟨hS, ?_⟩;refine WH.narrow (S' := Chg [] w17) (fun w' hw' => hS.trans hw') ?_;have hS : Chg [] w17 w17 := Chg.refl _ _;refine wg 37 rfl rfl rfl rfl rfl hS (fun _ hw' => Ev.toStr (l := encS S) rfl rfl (hreB.keep0 hw')) (wg 38 rfl rfl rfl rfl rfl hS (fun _ _ => Ev.neqStr rfl rfl) ?_);rw [decide_eq_false (fun z => z rfl)];refine wh 39 rfl hS (fun _ _ => Ev.pickF rfl rfl rfl) (wh 40 rfl hS (eM rfl) (wg 41 rfl rfl rfl rfl rfl hS (eM rfl) (wg 43 rfl rfl rfl rfl rfl hS (eM rfl) (wg 44 rfl rfl rfl rfl rfl hS (fun _ _ => Ev.len rfl) ?_))));refine WH.oneCallG 42 rfl (by kernel_rfl) rfl rfl rfl rfl hasF34 rfl rfl (Count_spec_ q0.1 S _ hSh (hMT.wf hNT).s) fun v w18 h' => ?_;obtain ⟨rfl, hC⟩ := h';rw [show S.s.al = l.length by rw [hMT.s]];have hch := hch.ta hC;have hSh := hSh.keep0 hC;have hS := hS.trans hC;refine ⟨hS, ?_⟩;refine wg 45 rfl rfl rfl rfl rfl hS (fun _ _ => Ev.neq rfl rfl) ?_;rw [decide_eq_false (fun z => z rfl)];refine wh 46 rfl hS (fun _ _ => Ev.pickF rfl rfl rfl) ?_;refine WH.done (by kernel_rfl) (kr58 _ _ _ ?_);refine kh57 ?_;refine CW.condF rfl ?_;refine zkk (kh56 (Sr fun _ kh59 => zm rfl ?_));refine WL.call hasF35 rfl rfl (Least_spec q0.1 S _ hSh (hMT.wf hNT) (hg0.keep0 hch)) fun v w19 h' => ?_;obtain ⟨rfl, hC⟩ := h';have hch := hch.ta hC;have hSh := hSh.keep0 hC;refine zm rfl (zx rfl rfl (zx rfl rfl (za rfl (za rfl (zz (kh59 (Sr fun _ kh61 => zm rfl ?_)))))));refine WL.call hasF36 rfl rfl (Most_spec q0.1 S _ hSh (hMT.wf hNT) (hg0.keep0 hch)) fun v w20 h' => ?_;obtain ⟨rfl, hC⟩ := h';have hch := hch.ta hC;refine zm rfl (zx rfl rfl (zx rfl rfl (za rfl (za rfl (zz (kh61 (Sr fun _ kh63 => zm rfl ?_)))))));refine WL.call hasF37 rfl rfl (rankSort_spec _ l _ (hv0.keep0 hch) (by omega)) fun v w21 h' => ?_;obtain ⟨⟨bs, l', rfl, hFB, hp, hso, hgs⟩, hC⟩ := h';have hll2 : l'.length = l.length := by rw [hp.length_eq, List.length_range]
 obtain ⟨m, hm⟩ : ∃ m, m = l'.map (fun k => toldP (l.getD k 0)) := ⟨_, rfl⟩;rw [← hm] at hFB;have hml : m.length = l.length := by rw [hm, List.length_map, hll2]
 have hrs := hFB.row;have hm64 : ∀ j, m.getD j 0 < 18446744073709551616 := fun j => by
       rw [hm, List.getD_eq_getElem?_getD, List.getElem?_map];cases z : l'[j]? with
       | none => exact (by decide : (0 : Nat) < 18446744073709551616)
       | some k => exact toldP_lt (D_getD hWl k)
 have hch := hch.ta hC;refine za rfl (zz (kh63 (zc fun _ kh65 => Sr fun _ kh66 => zm rfl (zn rfl (zq rfl rfl (zz (kh66 ?_)))))));refine zy rfl ?_ ?_<;>intro hc7<;>try simp only [qs] at hc7
 ·have hl0 : l = [] := List.length_eq_zero_iff.1 (by omega);rw [end_none hMT hl0, end_none hMT hl0]
  refine Sr fun _ kh68 => zm rfl (zq rfl rfl ?_);rw [decide_eq_true rfl];refine zm rfl (zw rfl (zm rfl (zw rfl (zq rfl rfl ?_))));rw [decide_eq_true rfl];refine zt rfl rfl (za rfl (zz (kh68 ?_)));refine zr (zr1 rfl rfl ?_);exact ⟨rfl, hch⟩
 have hl0 : l.length ≠ 0 := by omega
 refine zkk (kh65 (Sr fun _ kh70 => zm rfl (zn rfl ?_)));refine WL.ev (Ev.subIn rfl rfl (by omega)) rfl ?_;rw [show ((l.length : Nat) : Int) - 1 = ((l.length - 1 : Nat) : Int) by omega];refine za rfl (zz (kh70 (zc fun _ kh72 => CW.block ?_)));refine CW.loop (S := fun q : Nat => [(27, .float .f64 (endR S S.lo).1), (28, .int .i64 (endR S S.lo).2), (29, .float .f64 (endR S S.hi).1), (30, .int .i64 (endR S S.hi).2), (31, .slice (some ⟨bs, 0, none⟩) l.length l.length), (32, .int .i64 (q : Int))]) (Inv := KL3 m bs w) (mu := fun q => q) (l.length - 1) ?_ ?_ ?_
 ·exact ⟨by omega, fun j h1 h2 => by omega, hrs, hch⟩
 ·exact SLp
 rintro q wr ⟨hq, hna, hrs, hch⟩;refine zc fun _ kh73 => zc fun _ kh74 => ?_;refine CW.regionSC hmix (by kernel_rfl) fun kR75 kr75 hdr => ?_;have hch := hch.ta hdr;have hrs := hrs.keep0 hdr;refine ym rfl ?_
 by_cases hq0 : 0 < q
 ·refine WS.ev (Ev.gtr rfl rfl) rfl ?_;rw [decide_eq_true (show (0 : Int) < (q : Int) by omega)];refine ym rfl (yw rfl (ym rfl (yw rfl (ym rfl (yw rfl ?_)))));refine WS.ev (Ev.ixR (q) rfl rfl hrs (by omega) (by omega) (by simp; omega)) rfl ?_;refine yw rfl ?_;refine WS.ev (Ev.load rfl rfl (hrs.f64 (by first | omega | (simp; omega)))) rfl ?_;refine yw rfl (ym rfl (yw rfl (ym rfl (yw rfl ?_))));refine WS.ev (Ev.ixR (q) rfl rfl hrs (by omega) (by omega) (by simp; omega)) rfl ?_;refine yw rfl ?_;refine WS.ev (Ev.load rfl rfl (hrs.f64 (by first | omega | (simp; omega)))) rfl ?_;refine yw rfl ?_;refine WS.ev (Ev.fneq rfl rfl) rfl ?_;rw [show (FloatKind.f64.format.order (m.getD q 0) (m.getD q 0) != some .eq) = isNaN (m.getD q 0) from order_self _];refine yt rfl rfl ?_;refine WS.nil (kr75 _ _ ?_);refine kh74 ?_;refine zy rfl ?_ ?_<;>intro hc8<;>try simp only [qs] at hc8
  ·have hnq : isNaN (m.getD q 0) = true := hc8
   refine zkk (kh73 (CW.block (zS fun _ kr76 => zm rfl ?_)));refine WL.ev (Ev.subIn rfl rfl (by omega)) rfl ?_;rw [show (q : Int) - 1 = ((q - 1 : Nat) : Int) by omega];refine za rfl (zz (kr76 ?_));refine ⟨rfl, q - 1, ?_, ?_, ?_⟩
   ·exact SLp
   ·refine ⟨by omega, fun j h1 h2 => ?_, hrs, hch⟩
    by_cases e : j = q
    · rw [e]; exact hnq
    exact hna j (by omega) h2
   show q - 1 < q; omega
  have hlast : q = 0 ∨ isNaN (m.getD q 0) = false := by first | exact .inl (by omega) | exact .inr hc8
  have hfin := row_ends hMT (fun z => hl0 (by rw [z]; rfl)) hp hso (q := q) (by omega) (by rw [← hm]; exact hlast) (fun j h1 h2 => by rw [← hm]; exact hna j h1 (by omega));rw [← hm] at hfin;obtain ⟨hf1, hf2, hf3, hf4⟩ := hfin;rw [hf1, hf2, hf3, hf4];refine CW.exit ?_;refine kh72 (Sr fun _ kh77 => zm rfl (zq rfl rfl ?_));rw [decide_eq_true rfl];refine zm rfl (zw rfl (zm rfl (zw rfl (zq rfl rfl ?_))));rw [decide_eq_true rfl];refine zt rfl rfl (zm rfl (zw rfl (zm rfl (zw rfl (zm rfl (zw rfl ?_))))));refine WL.ev (Ev.ixR (0) rfl rfl hrs (by omega) (by omega) (by simp; omega)) rfl ?_;refine zw rfl ?_;refine WL.ev (Ev.load rfl rfl (hrs.f64 (by first | omega | (simp; omega)))) rfl ?_;refine zw rfl ?_;refine WL.call hasF38 rfl rfl (steelyardref01_Same_spec (m.getD 0 0) (m.getD 0 0) (hm64 0) (hm64 0) _) fun v w22 h' => ?_;obtain ⟨rfl, rfl⟩ := h';rw [decide_eq_true rfl];refine zt rfl rfl (zm rfl (zw rfl (zm rfl (zw rfl (zm rfl (zw rfl (zm rfl (zw rfl ?_))))))));refine WL.ev (Ev.ixR (q) rfl rfl hrs (by omega) (by omega) (by simp; omega)) rfl ?_;refine zw rfl ?_;refine WL.ev (Ev.load rfl rfl (hrs.f64 (by first | omega | (simp; omega)))) rfl ?_;refine zw rfl ?_;refine WL.call hasF38 rfl rfl (steelyardref01_Same_spec (m.getD q 0) (m.getD q 0) (hm64 q) (hm64 q) _) fun v w23 h' => ?_;obtain ⟨rfl, rfl⟩ := h';rw [decide_eq_true rfl];refine zt rfl rfl (za rfl (zz (kh77 ?_)));refine zr (zr1 rfl rfl ?_);exact ⟨rfl, hch⟩
 refine WS.ev (Ev.gtr rfl rfl) rfl ?_;rw [decide_eq_false (show ¬ (0 : Int) < (q : Int) by omega)];refine ym rfl (yv rfl (yv rfl (yv rfl (yv rfl (yv rfl (yv rfl (yv rfl (yv rfl (yv rfl (ye rfl rfl ?_))))))))));refine WS.nil (kr75 _ _ ?_);refine kh74 ?_;refine zy rfl ?_ ?_<;>intro hc9<;>try simp only [qs] at hc9
 ·exact absurd hc9 (by decide)
 have hlast : q = 0 ∨ isNaN (m.getD q 0) = false := by first | exact .inl (by omega) | exact .inr hc9
 have hfin := row_ends hMT (fun z => hl0 (by rw [z]; rfl)) hp hso (q := q) (by omega) (by rw [← hm]; exact hlast) (fun j h1 h2 => by rw [← hm]; exact hna j h1 (by omega));rw [← hm] at hfin;obtain ⟨hf1, hf2, hf3, hf4⟩ := hfin;rw [hf1, hf2, hf3, hf4];refine CW.exit ?_;refine kh72 (Sr fun _ kh79 => zm rfl (zq rfl rfl ?_));rw [decide_eq_true rfl];refine zm rfl (zw rfl (zm rfl (zw rfl (zq rfl rfl ?_))));rw [decide_eq_true rfl];refine zt rfl rfl (zm rfl (zw rfl (zm rfl (zw rfl (zm rfl (zw rfl ?_))))));refine WL.ev (Ev.ixR (0) rfl rfl hrs (by omega) (by omega) (by simp; omega)) rfl ?_;refine zw rfl ?_;refine WL.ev (Ev.load rfl rfl (hrs.f64 (by first | omega | (simp; omega)))) rfl ?_;refine zw rfl ?_;refine WL.call hasF38 rfl rfl (steelyardref01_Same_spec (m.getD 0 0) (m.getD 0 0) (hm64 0) (hm64 0) _) fun v w24 h' => ?_;obtain ⟨rfl, rfl⟩ := h';rw [decide_eq_true rfl];refine zt rfl rfl (zm rfl (zw rfl (zm rfl (zw rfl (zm rfl (zw rfl (zm rfl (zw rfl ?_))))))));refine WL.ev (Ev.ixR (q) rfl rfl hrs (by omega) (by omega) (by simp; omega)) rfl ?_;refine zw rfl ?_;refine WL.ev (Ev.load rfl rfl (hrs.f64 (by first | omega | (simp; omega)))) rfl ?_;refine zw rfl ?_;refine WL.call hasF38 rfl rfl (steelyardref01_Same_spec (m.getD q 0) (m.getD q 0) (hm64 q) (hm64 q) _) fun v w25 h' => ?_;obtain ⟨rfl, rfl⟩ := h';rw [decide_eq_true rfl];refine zt rfl rfl (za rfl (zz (kh79 ?_)));refine zr (zr1 rfl rfl ?_);exact ⟨rfl, hch⟩

end

/- What came in, opened; the listed table, opened. No condition. -/
section
open Go Sx Wd
open Go.ChangeShapes Go.WideShapes Go.ChangeAt Go.WideMaps Go.WideElems Go.RowKit

theorem own : ownKnob Tryz.prog.godebug = none := by kernel_rfl
theorem laidOut : laidOutB Tryz.prog = true := by kernel_rfl
theorem door_met (os : Os) (args : Array Value) : laidMetH Tryz.prog [("math/bits.deBruijn32tab", Rows.laid_math_bits_deBruijn32tab)] ((World.doorLaid Tryz.prog 400 os).forCall (fun _ _ => 0) ⟨#[], args, []⟩).memory :=
  laidMetH_of_parts3 (fuel := 8) (laidMet_of_run' 8 (by kernel_rfl) (by kernel_rfl)) (by kernel_rfl) (by kernel_rfl)
theorem gDeb : Tryz.prog.globalNamed "math/bits.deBruijn32tab" = some 6 := by kernel_rfl
theorem tDeb : (Tryz.prog.globals[6]?).map (·.type) = some 394 := by kernel_rfl
theorem deb_data {H : Type} : (Rows.laid_math_bits_deBruijn32tab : DataW H) = .agg (deb.map fun n : Nat => .lit (.int .u8 (n : Int))) := rfl
theorem gw_of_laid {W : World} (h : laidMetH Tryz.prog [("math/bits.deBruijn32tab", Rows.laid_math_bits_deBruijn32tab)] W) : GW W := by
  rw [MakeChecks.laidMetH_plain _ _ _ (by kernel_rfl)] at h
  obtain ⟨ps, ⟨g0, t0, cs0, f0, p0, q0, hg0, ht0, hv0, hd0, _, _⟩, _, _⟩ := h
  obtain rfl := Option.some.inj (gDeb.symm.trans hg0)
  obtain rfl := Option.some.inj (tDeb.symm.trans ht0)
  obtain ⟨xs, m1, rfl, hx1, hlen, hn3, hel⟩ := DataW.trod_array Tryz.underlying394 hd0
  have c8 : Tryz.prog.cellsOf 5 = 1 := by kernel_rfl
  simp only [Prod.mk.injEq] at hx1
  intro i hi
  have hi' := hel i hi
  rw [c8, Nat.mul_one] at hi'
  have hxi : xs[i]? = some (xs[i]'(by omega)) := List.getElem?_eq_getElem (by omega)
  rw [hxi] at hi'
  obtain ⟨k, e1, e2, _⟩ := DataW.trod_int Tryz.underlying5 hi'
  have hxs : (deb.map fun n : Nat => (DataW.lit (.int .u8 (n : Int)) : DataW Unit)) = xs.map (·.1) := by
    have := hx1.1
    rw [deb_data] at this
    exact DataW.agg.inj this
  have hdat : (deb.map fun n : Nat => (DataW.lit (.int .u8 (n : Int)) : DataW Unit))[i]? = some (.lit (.int .u8 ((deb.getD i 0 : Nat) : Int))) := by
    rw [List.getElem?_map, List.getElem?_eq_getElem (show i < deb.length from hi), List.getD_eq_getElem?_getD, List.getElem?_eq_getElem (show i < deb.length from hi)]; rfl
  rw [hxs, List.getElem?_map, hxi] at hdat
  simp only [Option.map_some] at hdat
  rw [e2] at hdat
  have hk : k = ((deb.getD i 0 : Nat) : Int) := by
    have := Option.some.inj hdat
    simp only [DataW.lit.injEq, Lit.int.injEq, true_and] at this
    exact this
  subst hk
  have hc : cs0[i]? = some (.int .u8 ((deb.getD i 0 : Nat) : Int)) := by
    have h3 : (cs0.toList.drop i)[0]? = some (.int .u8 ((deb.getD i 0 : Nat) : Int)) := by
      have := congrArg (fun l : List Value => l[0]?) e1
      simpa using this
    simpa using h3
  have := World.var?_cell hg0 hv0 i
  rw [hc] at this
  exact this

theorem float_cell {H : Type} {enc : TypeId × Value → H} {P : Program} {w : World} {base : Nat} {spare : Nat → Bool} {held : Bool} {n : Nat} {e : TypeId} {v : Value} {x : DataW H × List MemPlace} (he : P.underlying e = some (.float .f64)) (h : DataW.trod enc P w base spare held n e [v] = some x) : ∃ b, v = .float .f64 b ∧ b < 18446744073709551616 := by
  cases n with
  | zero => simp [DataW.trod] at h
  | succ n =>
    simp only [DataW.trod, he] at h
    cases v <;> simp_all
    rename_i k b
    cases k <;> simp_all [Lit.wf]
theorem open_nf {H : Type} {enc : TypeId × Value → H} {P : Program} {w : World} {base b0 : Nat} {spare : Nat → Bool} {held : Bool} {t e : TypeId} {v : Value} {d : DataW H} {ps : List MemPlace} (ht : P.underlying t = some (.slice e)) (he : P.underlying e = some (.float .f64)) (hc : P.cellsOf e = 1) (hb : P.bytesOf e = 8) (hval : Value.okWide P w .any b0 t v) (h : DataW.Trod enc P w base spare held t v d ps)
    (hsz : ∀ elems spare', d = .slice elems spare' → (elems.length + spare'.length) * P.bytesOf e ≤ reachBytes) : ∃ l : List Nat, NF w v l ∧ l.length ≤ 17592186044415 := by
  obtain ⟨a, len, cap, rfl⟩ := okWide_slice ht hval
  obtain ⟨fuel, hf⟩ := h
  rcases Go.Deep.open_slice1 ht hc hf with ⟨hcs, _⟩ | ⟨ad, l, c, m, n, V, D, Pl, hcs, _, hlc, hcm, hm, hx, hV⟩
  · simp [Value.cells] at hcs
    obtain ⟨rfl, rfl, rfl⟩ := hcs
    exact ⟨[], ⟨⟨none, 0, rfl, Nat.le_refl _, RW.nil⟩, fun x hx => (by cases hx), by decide⟩, by decide⟩
  · simp [Value.cells] at hcs
    obtain ⟨rfl, rfl, rfl⟩ := hcs
    have hlm : len ≤ m := by rw [hm]; split <;> omega
    simp only [Prod.mk.injEq] at hx
    have h8 := hsz _ _ hx.1
    rw [hb] at h8
    simp only [List.length_map, List.length_range] at h8
    have hr : reachBytes = 140737488351232 := by decide
    have hlen : len ≤ 17592186044415 := by omega
    obtain ⟨f, hf2⟩ := Go.Deep.choose_lt (α := Nat) (n := len) (p := fun i b => V i = .float .f64 b ∧ b < 18446744073709551616) (fun i hi => float_cell he (hV i (by omega)).2)
    refine ⟨(List.range len).map f, ⟨⟨some ad, cap, by simp, by simpa using hlc, fun i y hy => ?_⟩, fun y hy => ?_, by simp; omega⟩, by simpa using hlen⟩
    · have hi : i < len := by
        by_cases q : i < len
        · exact q
        · rw [List.getElem?_eq_none (by simp; omega)] at hy; cases hy
      simp [List.getElem?_range hi] at hy
      subst hy
      exact ⟨ad, rfl, by rw [(hV i (by omega)).1, (hf2 i hi).1]; rfl⟩
    · obtain ⟨i, hi, rfl⟩ := List.mem_map.1 hy
      exact (hf2 i (List.mem_range.1 hi)).2
end

/- A share, a rule and a mode that came in. No condition. -/
section
open Go Sx Wd
open Go.ChangeShapes Go.WideShapes Go.ChangeAt Go.WideMaps Go.WideElems Go.RowKit

theorem cell_i64 {H : Type} {enc : TypeId × Value → H} {P : Program} {w : World} {base : Nat} {spare : Nat → Bool} {held : Bool} {n : Nat} {e : TypeId} {v : Value} {x : DataW H × List MemPlace} (he : P.underlying e = some (.int .i64)) (h : DataW.trod enc P w base spare held n e [v] = some x) : ∃ z, v = .int .i64 z ∧ (-9223372036854775808 ≤ z ∧ z ≤ 9223372036854775807) := by
  obtain ⟨z, e1, _, e3⟩ := DataW.trod_int he h
  exact ⟨z, by simpa using e1, bounds_i64 e3⟩
end

/- The listed variables of the store, opened: the table, the errors. No condition. -/
section
open Go Sx Wd
open Go.ChangeShapes Go.WideShapes Go.ChangeAt Go.WideMaps Go.WideElems Go.RowKit

end

/- The law StoreTold. No condition. -/
section
open Go Sx Wd Fl

end

/- Asked records that came in; errors.As's own type, as it lies. No condition. -/
section
open Go Sx Wd
open Go.ChangeShapes Go.WideShapes Go.ChangeAt Go.WideMaps Go.WideElems Go.RowKit

/-! ### errors.As's own type -/
end

/- A step of a play that came in: the form of its cells. No condition. -/
section
open Go Sx Wd
open Go.ChangeShapes Go.WideShapes Go.ChangeAt Go.WideMaps Go.WideElems Go.RowKit

theorem trod_fld {H : Type} {enc : TypeId × Value → H} {P : Program} {w : World} {base : Nat} {spare : Nat → Bool} {held : Bool} {t : TypeId} {fs : Array Field} {fuel : Nat} {cs : List Value} {x : DataW H × List MemPlace} (ht : P.underlying t = some (.struct fs)) (h : DataW.trod enc P w base spare held fuel t cs = some x) :
    ∃ n, ∀ (i : Nat) (f : Field), fs[i]? = some f → ∃ y, DataW.trod enc P w base spare held n f.type ((cs.drop f.offset).take (P.cellsOf f.type)) = some y := by
  obtain ⟨xs, n, _, rfl, hl, hlen, hf⟩ := DataW.trod_struct ht h
  refine ⟨n, fun i f hi => ?_⟩
  have h1 := hf i f hi
  have hlt : i < fs.size := (Array.getElem?_eq_some_iff.1 hi).1
  rw [List.getElem?_eq_getElem (by omega)] at h1
  exact ⟨_, h1⟩
theorem cell_slice {H : Type} {enc : TypeId × Value → H} {P : Program} {w : World} {base : Nat} {spare : Nat → Bool} {held : Bool} {n : Nat} {t e : TypeId} {v : Value} {x : DataW H × List MemPlace} (ht : P.underlying t = some (.slice e)) (h : DataW.trod enc P w base spare held n t [v] = some x) : v.oneCell' = true := by
  rcases DataW.trod_slice ht h with ⟨hcs, _⟩ | ⟨a, len, cap, _, _, _, _, hcs, _⟩
  · cases hcs; rfl
  · cases hcs; rfl
theorem open_op1 {H : Type} {enc : TypeId × Value → H} {w : World} {base b0 : Nat} {spare : Nat → Bool} {held : Bool} {v : Value} {d : DataW H} {ps : List MemPlace} (hval : Value.okWide Tryz.prog w .any b0 37 v) (h : DataW.Trod enc Tryz.prog w base spare held 37 v d ps) :
    ∃ (ok oo ow om ole onn pn pi : Int) (ox : Nat) (vol vob : Value), v = .agg [.int .i64 ok, .int .i64 oo, .int .i64 ow, .float .f64 ox, vol, .int .i64 om, .int .i64 ole, .int .i64 onn, .int .i64 pn, .int .i64 pi, vob].toArray ∧ vol.oneCell' = true ∧ vob.oneCell' = true := by
  obtain ⟨fuel, hf⟩ := h
  have hu := Tryz.underlying37
  simp only [Value.okWide, hu] at hval
  obtain ⟨cs, rfl, hsz, _⟩ := hval
  have hc : Tryz.prog.cellsOf 37 = 11 := by kernel_rfl
  rw [hc] at hsz
  have c1 : Tryz.prog.cellsOf 3 = 1 := by kernel_rfl
  have cf : Tryz.prog.cellsOf 31 = 1 := by kernel_rfl
  have cl : Tryz.prog.cellsOf 32 = 1 := by kernel_rfl
  have cb : Tryz.prog.cellsOf 35 = 1 := by kernel_rfl
  have cp : Tryz.prog.cellsOf 34 = 2 := by kernel_rfl
  obtain ⟨n, hF⟩ := trod_fld hu hf
  obtain ⟨y0, h0⟩ := hF 0 ⟨"Kind", 3, 0, false, "", "", 0⟩ rfl
  obtain ⟨y1, h1⟩ := hF 1 ⟨"On", 3, 1, false, "", "", 8⟩ rfl
  obtain ⟨y2, h2⟩ := hF 2 ⟨"With", 3, 2, false, "", "", 16⟩ rfl
  obtain ⟨y3, h3⟩ := hF 3 ⟨"X", 31, 3, false, "", "", 24⟩ rfl
  obtain ⟨y4, h4⟩ := hF 4 ⟨"L", 32, 4, false, "", "", 32⟩ rfl
  obtain ⟨y5, h5⟩ := hF 5 ⟨"Mode", 3, 5, false, "", "", 56⟩ rfl
  obtain ⟨y6, h6⟩ := hF 6 ⟨"Less", 3, 6, false, "", "", 64⟩ rfl
  obtain ⟨y7, h7⟩ := hF 7 ⟨"N", 3, 7, false, "", "", 72⟩ rfl
  obtain ⟨y8, h8⟩ := hF 8 ⟨"P", 34, 8, false, "", "", 80⟩ rfl
  obtain ⟨y9, h9⟩ := hF 9 ⟨"B", 35, 10, false, "", "", 96⟩ rfl
  obtain ⟨l⟩ := cs
  match l, hsz with
  | [a, b, c, d, e, f, g, h, i, j, k], _ =>
    dsimp only [Value.cells] at h0 h1 h2 h3 h4 h5 h6 h7 h8 h9
    rw [c1] at h0 h1 h2 h5 h6 h7
    rw [cf] at h3
    rw [cl] at h4
    rw [cp] at h8
    rw [cb] at h9
    obtain ⟨z0, rfl, _⟩ := cell_i64 Tryz.underlying3 (show DataW.trod enc Tryz.prog w base spare held n 3 [a] = some y0 from by simpa using h0)
    obtain ⟨z1, rfl, _⟩ := cell_i64 Tryz.underlying3 (show DataW.trod enc Tryz.prog w base spare held n 3 [b] = some y1 from by simpa using h1)
    obtain ⟨z2, rfl, _⟩ := cell_i64 Tryz.underlying3 (show DataW.trod enc Tryz.prog w base spare held n 3 [c] = some y2 from by simpa using h2)
    obtain ⟨z3, rfl, _⟩ := float_cell Tryz.underlying31 (show DataW.trod enc Tryz.prog w base spare held n 31 [d] = some y3 from by simpa using h3)
    have o4 := cell_slice Tryz.underlying32 (show DataW.trod enc Tryz.prog w base spare held n 32 [e] = some y4 from by simpa using h4)
    obtain ⟨z5, rfl, _⟩ := cell_i64 Tryz.underlying3 (show DataW.trod enc Tryz.prog w base spare held n 3 [f] = some y5 from by simpa using h5)
    obtain ⟨z6, rfl, _⟩ := cell_i64 Tryz.underlying3 (show DataW.trod enc Tryz.prog w base spare held n 3 [g] = some y6 from by simpa using h6)
    obtain ⟨z7, rfl, _⟩ := cell_i64 Tryz.underlying3 (show DataW.trod enc Tryz.prog w base spare held n 3 [h] = some y7 from by simpa using h7)
    have o9 := cell_slice Tryz.underlying35 (show DataW.trod enc Tryz.prog w base spare held n 35 [k] = some y9 from by simpa using h9)
    have h8' : DataW.trod enc Tryz.prog w base spare held n 34 [i, j] = some y8 := by simpa using h8
    obtain ⟨n2, hP⟩ := trod_fld Tryz.underlying34 h8'
    obtain ⟨x0, p0⟩ := hP 0 ⟨"NaN", 3, 0, false, "", "", 0⟩ rfl
    obtain ⟨x1, p1⟩ := hP 1 ⟨"Inf", 3, 1, false, "", "", 8⟩ rfl
    dsimp only at p0 p1
    rw [c1] at p0 p1
    obtain ⟨w0, rfl, _⟩ := cell_i64 Tryz.underlying3 (show DataW.trod enc Tryz.prog w base spare held n2 3 [i] = some x0 from by simpa using p0)
    obtain ⟨w1, rfl, _⟩ := cell_i64 Tryz.underlying3 (show DataW.trod enc Tryz.prog w base spare held n2 3 [j] = some x1 from by simpa using p1)
    exact ⟨z0, z1, z2, z5, z6, z7, w0, w1, z3, e, k, rfl, o4, o9⟩
end

/- A row's joined facts, one by one. No condition. -/
section
open Go
def jf1 (P : Program) (f : FuncId) (fn : Func) (s : ChangeSpec) (c : OpenClaim) : Bool := c.wf (OpenSpec.ofChange s)
def jf2 (P : Program) (f : FuncId) (fn : Func) (s : ChangeSpec) (c : OpenClaim) : Bool := laidOutB P
def jf3 (P : Program) (f : FuncId) (fn : Func) (s : ChangeSpec) (c : OpenClaim) : Bool := mapsRowed P
def jf4 (P : Program) (f : FuncId) (fn : Func) (s : ChangeSpec) (c : OpenClaim) : Bool := fn.params.all (P.readableRec ·)
def jf5 (P : Program) (f : FuncId) (fn : Func) (s : ChangeSpec) (c : OpenClaim) : Bool := namedTie P c.named s.vars
def jf6 (P : Program) (f : FuncId) (fn : Func) (s : ChangeSpec) (c : OpenClaim) : Bool := (c.stops == [])
def jf7 (P : Program) (f : FuncId) (fn : Func) (s : ChangeSpec) (c : OpenClaim) : Bool := (P.stops == [])
def jf8 (P : Program) (f : FuncId) (fn : Func) (s : ChangeSpec) (c : OpenClaim) : Bool := (c.knobs == [])
def jf9 (P : Program) (f : FuncId) (fn : Func) (s : ChangeSpec) (c : OpenClaim) : Bool := (P.stopKnobs == [])
def jf10 (P : Program) (f : FuncId) (fn : Func) (s : ChangeSpec) (c : OpenClaim) : Bool := (c.inPlace == P.inPlace f)
def jf11 (P : Program) (f : FuncId) (fn : Func) (s : ChangeSpec) (c : OpenClaim) : Bool := (c.unfollowed == P.unfollowed f)
def jf12 (P : Program) (f : FuncId) (fn : Func) (s : ChangeSpec) (c : OpenClaim) : Bool := (c.recurses == P.recurses f)
def jf13 (P : Program) (f : FuncId) (fn : Func) (s : ChangeSpec) (c : OpenClaim) : Bool := (c.named == P.varsNamed f)
def jf14 (P : Program) (f : FuncId) (fn : Func) (s : ChangeSpec) (c : OpenClaim) : Bool := (c.maps == (fn.params.toList ++ s.plain.varTypes P).any (P.mapsRec ·))
def jf15 (P : Program) (f : FuncId) (fn : Func) (s : ChangeSpec) (c : OpenClaim) : Bool := (c.ifaces == (fn.params.toList ++ s.plain.varTypes P).any (P.ifacesRec ·))
def jf16 (P : Program) (f : FuncId) (fn : Func) (s : ChangeSpec) (c : OpenClaim) : Bool := (c.mapsOut == P.mapsAmong fn.resultTypes.toList)
def jf17 (P : Program) (f : FuncId) (fn : Func) (s : ChangeSpec) (c : OpenClaim) : Bool := (c.loops == (fn.params.toList ++ s.plain.varTypes P).any (P.loopsFrom ·))
def jf18 (P : Program) (f : FuncId) (fn : Func) (s : ChangeSpec) (c : OpenClaim) : Bool := (c.wideKeys == (fn.params.toList ++ s.plain.varTypes P ++ fn.resultTypes.toList).any (P.wideKeysFrom ·))
def jf19 (P : Program) (f : FuncId) (fn : Func) (s : ChangeSpec) (c : OpenClaim) : Bool := s.vars.all (P.varReadable ·)
def jf20 (P : Program) (f : FuncId) (fn : Func) (s : ChangeSpec) (c : OpenClaim) : Bool := fn.resultTypes.all (fun t => P.readableRec t && decide (t < P.types.size))
def jf21 (P : Program) (f : FuncId) (fn : Func) (s : ChangeSpec) (c : OpenClaim) : Bool := (c.ifacesOut == fn.resultTypes.toList.any (P.ifacesRec ·))
def jf22 (P : Program) (f : FuncId) (fn : Func) (s : ChangeSpec) (c : OpenClaim) : Bool := (c.loopsOut == fn.resultTypes.toList.any (P.loopsFrom ·))
def jf23 (P : Program) (f : FuncId) (fn : Func) (s : ChangeSpec) (c : OpenClaim) : Bool := (c.plainKeys == P.plainKeys)
def jf24 (P : Program) (f : FuncId) (fn : Func) (s : ChangeSpec) (c : OpenClaim) : Bool := c.shortTexts.isNone
def jf25 (P : Program) (f : FuncId) (fn : Func) (s : ChangeSpec) (c : OpenClaim) : Bool := P.stopsHeard
def jf26 (P : Program) (f : FuncId) (fn : Func) (s : ChangeSpec) (c : OpenClaim) : Bool := P.mayEnter
def jf27 (P : Program) (f : FuncId) (fn : Func) (s : ChangeSpec) (c : OpenClaim) : Bool := (c.lifted == P.liftsFinal)
def jf28 (P : Program) (f : FuncId) (fn : Func) (s : ChangeSpec) (c : OpenClaim) : Bool := (P.make == some c.make)
def jf29 (P : Program) (f : FuncId) (fn : Func) (s : ChangeSpec) (c : OpenClaim) : Bool := (c.kinds == (if c.domain.isEmpty then [] else fn.params.toList.map fun t => match P.underlying t with | some (.int k) => some k | _ => none))
def jf30 (P : Program) (f : FuncId) (fn : Func) (s : ChangeSpec) (c : OpenClaim) : Bool := (c.pinned == c.pinnedBy)
def jf31 (P : Program) (f : FuncId) (fn : Func) (s : ChangeSpec) (c : OpenClaim) : Bool := (c.veiled == (fn.params.toList ++ s.plain.varTypes P ++ fn.resultTypes.toList).any (P.veiledRec ·))
def jf32 (P : Program) (f : FuncId) (fn : Func) (s : ChangeSpec) (c : OpenClaim) : Bool := c.veiledFits P fn.params.toList (fn.params.toList ++ s.plain.varTypes P ++ fn.resultTypes.toList)
theorem joined_of {P : Program} {f : FuncId} {fn : Func} {s : ChangeSpec} {c : OpenClaim}
    (h1 : jf1 P f fn s c = true)
    (h2 : jf2 P f fn s c = true)
    (h3 : jf3 P f fn s c = true)
    (h4 : jf4 P f fn s c = true)
    (h5 : jf5 P f fn s c = true)
    (h6 : jf6 P f fn s c = true)
    (h7 : jf7 P f fn s c = true)
    (h8 : jf8 P f fn s c = true)
    (h9 : jf9 P f fn s c = true)
    (h10 : jf10 P f fn s c = true)
    (h11 : jf11 P f fn s c = true)
    (h12 : jf12 P f fn s c = true)
    (h13 : jf13 P f fn s c = true)
    (h14 : jf14 P f fn s c = true)
    (h15 : jf15 P f fn s c = true)
    (h16 : jf16 P f fn s c = true)
    (h17 : jf17 P f fn s c = true)
    (h18 : jf18 P f fn s c = true)
    (h19 : jf19 P f fn s c = true)
    (h20 : jf20 P f fn s c = true)
    (h21 : jf21 P f fn s c = true)
    (h22 : jf22 P f fn s c = true)
    (h23 : jf23 P f fn s c = true)
    (h24 : jf24 P f fn s c = true)
    (h25 : jf25 P f fn s c = true)
    (h26 : jf26 P f fn s c = true)
    (h27 : jf27 P f fn s c = true)
    (h28 : jf28 P f fn s c = true)
    (h29 : jf29 P f fn s c = true)
    (h30 : jf30 P f fn s c = true)
    (h31 : jf31 P f fn s c = true)
    (h32 : jf32 P f fn s c = true)
    : joinedFacts P f fn s c = true := by
  unfold joinedFacts
  simp only [Bool.and_eq_true]
  exact ⟨⟨⟨⟨⟨⟨⟨⟨⟨⟨⟨⟨⟨⟨⟨⟨⟨⟨⟨⟨⟨⟨⟨⟨⟨⟨⟨⟨⟨⟨⟨h1, h2⟩, h3⟩, h4⟩, h5⟩, h6⟩, h7⟩, h8⟩, h9⟩, h10⟩, h11⟩, h12⟩, h13⟩, h14⟩, h15⟩, h16⟩, h17⟩, h18⟩, h19⟩, h20⟩, h21⟩, h22⟩, h23⟩, h24⟩, h25⟩, h26⟩, h27⟩, h28⟩, h29⟩, h30⟩, h31⟩, h32⟩
end

end Go.Proofs.YtnbipejaidbihaaGreatDoor