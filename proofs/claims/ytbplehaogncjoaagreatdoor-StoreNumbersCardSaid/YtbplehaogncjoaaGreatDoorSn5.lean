/- Part 5 of what the proof rests on. No condition. -/
import Derived.Test.YtbplehaogncjoaaGreatDoorSn4
import Derived.WalkKit
import Derived.ProofKit
import Derived.OpenShut
import Derived.ChangeOld
import Derived.Below
import Derived.Deep.Slices
import Derived.Laws.Cover2
import Derived.LaidMore
import Derived.SizedLaws
import Derived.SevenTiedAt
import Derived.Stop.Joined
import Derived.Test.YtbplehaogncjoaaGreatDoorRows
import Derived.LaidHandle
import Derived.ChangeMaps5
import Derived.Stop.ErrReads
set_option linter.unusedVariables false
set_option linter.unusedSimpArgs false
set_option maxRecDepth 100000
set_option maxHeartbeats 4000000
namespace Go.Proofs.YtbplehaogncjoaaGreatDoor
/- Store: Records. No condition. -/
section
open Go Sx Wd Fl

namespace Sx
section
variable {P : Program} {ops : Array Oper} {K : KK} {fuel : Nat} {listed : Array Bool} {n : Nat} {D : List Deferred} {s : Sl} {w : World} {ty : TypeId} {pos : String} {af : Array Edge} {d : Nat} {x y : Operand}
theorem WH.buildSliceT (i : Nat) {w0 : World} {T0 : List Nat} {t e : TypeId} {de : TypeDesc} {sz by_ es be : Nat} {z ze : Value} {ps : List (Nat × Operand)} {vs : List (Nat × Value)} {cs : List Value} {m : Nat} [hT : HasT P t (.slice e) sz by_ z] [hE : HasT P e de es be ze]
    (hi : ops[i]? = some ⟨some d, .buildSlice t m ps.toArray, ty, pos, af, none⟩) (hr : Region.ready .any ops listed = [i]) (hS : Chg T0 w0 w)
    (hm : m * es ≤ 2 ^ 24) (hp : 0 < m * es) (hx : opndP s ps = some vs) (hf : Instr.fill (fun i => some (i * es, es)) ((Array.range (m * es)).map (ze.cells[· % ze.cells.size]!)) vs = some cs.toArray) (hd : Nat.blt d n = true)
    (k : ∀ b w', New w b (.cells cs.toArray e) w' → Chg T0 w0 w' → WH P ops K (Chg T0 w0) fuel (listed.setIfInBounds i true) n D ((d, .slice (some ⟨b, 0, none⟩) m m) :: s) w') : WH P ops K (Chg T0 w0) (fuel + 1) listed n D s w := by
  obtain ⟨b, w', he, hn⟩ := ev_buildSlice (P := P) (ty := ty) (w := w) (t := t) (hT := hT) (hE := hE) hm hp hx hf
  exact WH.one i hi hr he (hS.trans (Chg.any hn.chg)) hd (k b w' hn (hS.trans (Chg.any hn.chg)))
theorem WH.growRc (i : Nat) {w0 : World} {t e es be : Nat} {de : TypeDesc} {ze : Value} {sz by_ : Nat} {z0 : Value} {v : Value} {lo m : Nat} {l news : List Value} {ad : Addr} {mm c : Nat} [hT : HasT P t (.slice e) sz by_ z0] [hE : HasT P e de es be ze]
    (hi : ops[i]? = some ⟨some d, .call ⟨.builtin .append, [x, y].toArray, #[t, t]⟩, ty, pos, af, none⟩) (hr : Region.ready .any ops listed = [i]) (hS : Chg v.ownBlock.toList w0 w)
    (hzs : ze.cells.size = es) (hsz : 0 < es) (h1 : ∀ u ∈ news, u.oneCell' = true) (hx : opnd s x = some v) (hy : opnd s y = some (.slice (some ad) mm c)) (hg : GRc w e es lo [] v m l) (hm : news.length = mm * es) (hrw : RW w (some ad) news) (hlo : lo ≤ w.heap.size)
    (hbytes : (m + mm) * be ≤ 140737488355328) (h63 : m + mm ≤ 70368744177664) (hd : Nat.blt d n = true)
    (k : ∀ v' w', GRc w' e es lo [] v' (m + mm) (l ++ news) → Chg v.ownBlock.toList w w' → Chg v.ownBlock.toList w0 w' → WH P ops K (Chg v.ownBlock.toList w0) fuel (listed.setIfInBounds i true) n D ((d, v') :: s) w') : WH P ops K (Chg v.ownBlock.toList w0) (fuel + 1) listed n D s w := by
  obtain ⟨j, hj, hj1, hj2, hj3⟩ := hE.inf
  obtain ⟨v', w', hrr, ho, hgr, _, hloc⟩ := run_append_own_at (P := P) w 0 t ty e j ze es be hT.und hj hj3 hj1 hj2 hzs hsz v m l hg.1 ad mm c news hm (fun q u hu => by obtain ⟨ad', e1, hcell⟩ := hrw q u hu; cases e1; exact hcell) h1 (by unfold maxLen; omega) hbytes (Nat.zero_le _)
  have hc : Chg v.ownBlock.toList w w' := Chg.of_grown hgr
  have hS' := hS.step hc (fun y hy => .inl hy)
  refine WH.one (v := v') (w' := w') i hi hr (fun ρ d' pos af g hρ => ?_) hS' hd (k _ _ ⟨ho, fun b hb => ⟨?_, by simp⟩⟩ hc hS')
  · have e1 := hρ x _ hx
    have e2 := hρ y _ hy
    simp [execOp, resolve, invoke, builtin, e1, e2, hrr]
  · rcases hloc with q | q
    · rw [q] at hb; exact (hg.2 b hb).1
    · rw [q] at hb; cases hb; exact hlo
end
end Sx
theorem tellG_take {G : List RG} {i : Nat} {g : RG} (h : G[i]? = some g) : tellG (G.take (i + 1)) = tellG (G.take i) ++ [(g.1, g.2.1)] := by
  rw [List.take_add_one, h]
  simp [tellG]

theorem stRecords_spec (b lo : Nat) (G : List RG) (w : World) (hL : LgM lo w b G) : Ret Tryz.prog 18 [.pointer (some ⟨b, 0, none⟩)] w fun u w' => (∃ G2, tellG G2 = tellG G ∧ GRc w' 47 2 w.heap.size [] u G.length (recC G2) ∧ DatM w' G2) ∧ Chg [] w w' := by
 obtain ⟨⟨v, hb, hgc⟩, hda, htot⟩ := hL;obtain ⟨av, cv, rfl, hcapv, hrv, -⟩ := hgc.row;have hGl := totG_len G;have hch : Chg [] w w := Chg.refl _ _;refine zE1 Tryz.func18 rfl ?_;refine Sr fun _ kh1 => za rfl (zz (kh1 (Sr fun _ kh3 => za rfl (zz (kh3 (zc fun _ kh5 => Sr fun _ kh6 => zm rfl ?_))))));refine WL.ev (Ev.nilPtr rfl) rfl ?_;refine zf rfl ?_;refine WL.ev (Ev.load (v := .slice av G.length cv) rfl rfl (hb.at_ rfl)) rfl ?_;refine zn rfl (zm rfl (zz (kh6 ?_)));refine CW.block ?_;refine CW.loop (S := fun g : Nat × Value × List RG => [(3, g.2.1), (9, .slice av G.length cv), (10, .int .i64 (G.length : Int)), (11, .int .i64 (g.1 : Int))]) (Inv := fun g w1 => g.1 ≤ G.length ∧ tellG g.2.2 = tellG (G.take g.1) ∧ GRc w1 47 2 w.heap.size [] g.2.1 g.1 (recC g.2.2) ∧ DatM w1 g.2.2 ∧ Chg [] w w1) (mu := fun g => G.length - g.1) ((0, .slice none 0 0, [])) ?_ ?_ ?_
 ·exact ⟨Nat.zero_le _, rfl, GRc.nil, (fun g hg => by cases hg), hch⟩
 ·exact SLp
 ·rintro ⟨i, vi, G2⟩ wr ⟨hi, htl, hgc2, hda2, hch⟩;dsimp only at hi htl hgc2 hda2;obtain ⟨a3, c3, rfl, hcap3, hr3, -⟩ := hgc2.row;dsimp only;refine Sr fun _ kh8 => ?_;refine WL.ev (Ev.lss rfl rfl) rfl ?_;refine zz (kh8 (zc fun _ kh10 => ?_));refine zy rfl ?_ ?_<;>intro hc1<;>try simp only [qs] at hc1
  ·obtain ⟨⟨nm, data, dv⟩, hg⟩ : ∃ g, G[i]? = some g := ⟨_, List.getElem?_eq_getElem (by omega : i < G.length)⟩
   have hm := List.mem_of_getElem? hg;obtain ⟨q, rfl, -⟩ := hgc.at2 hg;obtain ⟨q2, e2, hcell⟩ := (hgc.keep0 hch).at2 hg;cases e2;obtain ⟨hd1, hB⟩ := hda _ hm;dsimp only at hd1 hB;obtain ⟨ad, cd, rfl, hcapd, hrd⟩ := hd1.row;have hs2 := szG_le hm;unfold szG at hs2;dsimp only at hs2;refine zkk ?_;refine kh10 (zc fun _ kh11 => ?_);refine CW.block ?_;refine Sr fun _ kh12 => ?_;refine WL.ev (Ev.indexAddr rfl rfl (by omega) (by omega)) rfl ?_;refine WL.ev (Ev.loadAgg (cs := [.string nm, .slice ad data.length cd]) rfl rfl rfl hcell) rfl ?_;refine WL.allocB (l := [.string ⟨#[]⟩, .slice none 0 0]) rfl rfl fun b5 wm5 hb5 hcm5 hge5 => ?_;have hgehch5 := Nat.le_trans hch.size hge5;have hch := hch.ta hcm5;have hda2 := hda2.keep0 hcm5;refine zss rfl rfl ao hb5 rfl fun ws1 hb5_ hcs1 => ?_;(try simp only [Sx.splice, qt] at hb5_);have hch := hch.s1 hcs1;have hda2 := hda2.keepBK hb5 hcs1 an;have hb5 := hb5_;refine zz (kh12 ?_);refine CW.regionHT (Value.slice a3 i c3).ownBlock.toList 10 rfl hmix fun kR14 kr14 hS hdr => ?_;have hch := hch.ta hdr;have hb5 := hb5.k0 hdr;have hda2 := hda2.keep0 hdr;have hb5_r := hb5;have hnb5 : b5 ∉ (Value.slice a3 i c3).ownBlock.toList := fun hm => by have := hgc2.lt (Option.mem_toList.1 hm); omega
   have hgc2 := ((hgc2.keep0 hcm5).keepV hcs1 (fun y hy e => hnb5 (by rw [← List.mem_singleton.1 hy]; exact Option.mem_toList.2 e))).keep0 hdr;refine wh 0 rfl hS (fun _ _ => Ev.move rfl) (wh 1 rfl hS (fun _ _ => Ev.fieldAddr rfl) (wh 2 rfl hS (fun _ hw' => Ev.load (v := .string nm) rfl rfl ((hb5_r.keep hw' hnb5).at_ rfl)) (wh 3 rfl hS (fun _ _ => Ev.fieldAddr rfl) (wh 4 rfl hS (fun _ hw' => Ev.load (v := .slice ad data.length cd) rfl rfl ((hb5_r.keep hw' hnb5).at_ rfl)) ?_))));refine WH.oneCall 5 rfl (by kernel_rfl) hasF35 rfl rfl (CloneB_spec ad data cd _ (hrd.keep0 hch) (by omega)) fun v w1 h' => ?_;obtain ⟨hgd, hC⟩ := h';obtain ⟨a20, c20, rfl, hcap20, hr20⟩ := hgd.row;have hch := hch.ta hC;have hda2 := hda2.keep0 hC;have hgc2 := hgc2.keep0 hC;have hS := hS.ta hC;refine ⟨hS, ?_⟩;refine wh 6 rfl hS (fun _ _ => Ev.build (vs := _) (cs := [_, _]) rfl rfl) ?_;refine WH.buildSliceT (m := 1) (cs := [.string nm, .slice a20 data.length c20]) 7 rfl (by kernel_rfl) hS (by decide) (by decide) rfl (by kernel_rfl) rfl fun b22 w22 hn22 hS => ?_;have hb22 := RW.of_heap hn22.at_;have hgc2 := hgc2.keep0 hn22.chg;have hda2 := hda2.keep0 hn22.chg;have hgd := hgd.keep0 hn22.chg;have hch := hch.trans (Chg.any hn22.chg);refine WH.growRc (news := [.string nm, .slice a20 data.length c20]) 8 rfl (by kernel_rfl) hS (by rfl) (by decide) (by intro u hu; simp only [List.mem_cons, List.not_mem_nil, or_false] at hu; rcases hu with rfl | rfl <;> rfl) rfl rfl hgc2 rfl hb22 (by have := hch.size; omega) (by omega) (by omega) rfl fun v23 w23 hg23 hc23 hS => ?_;have hgd := hgd.keepV hc23 (hgc2.sep hgd (by decide));have hda2 := hda2.keepRow hgc2 hc23 (by decide);have hch := hgc2.frame hc23 hch (Nat.le_refl _);have hgc2 := hg23;rw [show recC G2 ++ [Value.string nm, Value.slice a20 data.length c20] = recC (G2 ++ [(nm, data, Value.slice a20 data.length c20)]) from (recC_snoc G2 (nm, data, Value.slice a20 data.length c20)).symm] at hgc2;have hda2 : DatM w23 (G2 ++ [(nm, data, Value.slice a20 data.length c20)]) := fun g hg => by
    rcases List.mem_append.1 hg with hg | hg
    · exact hda2 g hg
    · rw [List.mem_singleton.1 hg]; exact ⟨hgd.mono (Nat.zero_le _) (by simp), hB⟩
   obtain ⟨a23, c23, rfl, hcap23, hr23, -⟩ := hgc2.row;refine wh 9 rfl hS (fun _ _ => Ev.assign rfl) ?_;refine WH.done (by kernel_rfl) (kr14 _ _ _ ?_);refine kh11 ?_;refine zR fun _ kr15 => ?_;(first | refine zi rfl rfl ?_ | refine zo rfl rfl ?_);refine zm rfl ?_;refine WL.nil (kr15 _ _ _ ?_);refine ⟨rfl, (i + 1, .slice a23 (i + 1) c23, G2 ++ [(nm, data, .slice a20 data.length c20)]), ?_, ?_, ?_⟩
   ·exact SLp
   ·exact ⟨by dsimp only; omega, by rw [tellG_snoc, htl, tellG_take hg], hgc2, hda2, hch⟩
   ·show G.length - (i + 1) < G.length - i; omega
  ·have hiX : i = G.length := by omega
   subst hiX;rw [List.take_length] at htl;refine CW.exit ?_;refine kh5 (Sr fun _ kh16 => zm rfl (za rfl (zz (kh16 ?_))));refine zr (zr1 rfl rfl ?_);exact ⟨⟨G2, htl, hgc2, hda2⟩, hch⟩

end

/- Store: the empty log's Names. No condition. -/
section
open Go Sx Wd Fl

theorem Len64z_spec (w : World) : Ret Tryz.prog 99 [.int .u64 0] w fun u w' => u = .int .i64 0 ∧ Chg [] w w' := by
 have hch : Chg [] w w := Chg.refl _ _;refine zE1 Tryz.func99 rfl ?_;refine Sr fun _ kh1 => za rfl (zz (kh1 (zc fun _ kh3 => Sr fun _ kh4 => zm rfl ?_)));refine WL.ev (Ev.geq rfl rfl) rfl ?_;rw [decide_eq_false (by simp)];refine zz (kh4 ?_);refine CW.condF rfl ?_;refine zkk ?_;refine kh3 (zc fun _ kh6 => Sr fun _ kh7 => zm rfl ?_);refine WL.ev (Ev.geq rfl rfl) rfl ?_;rw [decide_eq_false (by simp)];refine zz (kh7 ?_);refine CW.condF rfl ?_;refine zkk ?_;refine kh6 (zc fun _ kh9 => Sr fun _ kh10 => zm rfl ?_);refine WL.ev (Ev.geq rfl rfl) rfl ?_;rw [decide_eq_false (by simp)];refine zz (kh10 ?_);refine CW.condF rfl ?_;refine zkk ?_;refine kh9 (Sr fun _ kh12 => zm rfl (zm rfl ?_));refine WL.ev (Ev.conv8 rfl rfl) rfl ?_;refine WL.ev (Ev.indexS (i := 0) (c := 0) rfl rfl (by decide)) rfl ?_;rw [show (0 : UInt8).toNat = 0 from rfl];refine WL.ev (Ev.convIn rfl rfl (in_i64 (by omega))) rfl ?_;(first | refine zi rfl rfl ?_ | refine zo rfl rfl ?_);refine za rfl (zz (kh12 ?_));refine zr (zr1 rfl rfl ?_);exact ⟨rfl, hch⟩

theorem Lenz_spec (w : World) : Ret Tryz.prog 63 [.int .u64 0] w fun u w' => u = .int .i64 0 ∧ Chg [] w w' := by
 have hch : Chg [] w w := Chg.refl _ _;refine zE1 Tryz.func63 rfl ?_;refine Sr fun _ kh1 => za rfl (zz (kh1 (zc fun _ kh3 => ?_)));refine CW.condF rfl ?_;refine zkk ?_;refine kh3 (Sr fun _ kh4 => zm rfl ?_);refine WL.call hasF99 rfl rfl (Len64z_spec _) fun v w1 h' => ?_;obtain ⟨rfl, hC⟩ := h';have hch := hch.ta hC;refine za rfl (zz (kh4 ?_));refine zr (zr1 rfl rfl ?_);exact ⟨rfl, hch⟩

theorem InsS0_spec (w : World) : Ret Tryz.prog 89 [.slice none 0 0, .int .i64 0, .int .i64 0] w fun u w' => Chg [] w w' := by
 have hch : Chg [] w w := Chg.refl _ _;refine zE3 Tryz.func89 rfl ?_;refine Sr fun _ kh1 => zm rfl ?_;(first | refine zi rfl rfl ?_ | refine zo rfl rfl ?_);refine za rfl (zz (kh1 ?_));refine CW.block ?_;refine CW.loop (S := fun _ : Nat => [(2, .int .i64 0), (6, .int .i64 1)]) (Inv := fun _ w1 => Chg [] w w1) (mu := fun _ => 0) (0) ?_ ?_ ?_
 ·exact hch
 ·exact SLp
 ·rintro _ wr hch;refine zc fun _ kh3 => Sr fun _ kh4 => zm rfl (zm rfl ?_);refine WL.ev (Ev.lss rfl rfl) rfl ?_;refine zz (kh4 ?_);refine CW.condF rfl ?_;refine CW.exit ?_;refine bodyA.norm0 rfl ?_;exact hch

theorem Pdq0_spec (w : World) : Ret Tryz.prog 62 [.slice none 0 0, .int .i64 0, .int .i64 0, .int .i64 0] w fun u w' => Chg [] w w' := by
 have hch : Chg [] w w := Chg.refl _ _;refine zE4 Tryz.func62 rfl ?_;refine Sr fun _ kh1 => za rfl (zz (kh1 (Sr fun _ kh3 => za rfl (zz (kh3 ?_)))));refine CW.block ?_;refine CW.loop (S := fun _ : Nat => [(0, .slice none 0 0), (1, .int .i64 0), (2, .int .i64 0)]) (Inv := fun _ w1 => Chg [] w w1) (mu := fun _ => 0) (0) ?_ ?_ ?_
 ·exact hch
 ·exact SLp
 ·rintro _ wr hch;refine CW.block ?_;refine Sr fun _ kh5 => zm rfl (zm rfl ?_)
  first | refine WL.ev (Ev.subIn rfl rfl (by omega)) rfl ?_ | refine WL.ev (Ev.sub rfl rfl) rfl ?_
  refine za rfl (zz (kh5 (zc fun _ kh7 => Sr fun _ kh8 => zm rfl ?_)));refine WL.ev (Ev.leq rfl rfl) rfl ?_;refine zz (kh8 ?_);refine CW.condT rfl ?_;refine Sr fun _ kh10 => zm rfl (zm rfl (zm rfl ?_));refine WL.call hasF89 rfl rfl (InsS0_spec _) fun v w1 h' => ?_;have hC := h';have hch := hch.ta hC;refine zz (kh10 ?_);refine zr ?_;refine bodyA.ret0 rfl ?_;exact hch

theorem SortS0_spec (w : World) : Ret Tryz.prog 38 [.slice none 0 0] w fun u w' => Chg [] w w' := by
 have hch : Chg [] w w := Chg.refl _ _;refine zE1 Tryz.func38 rfl ?_;refine Sr fun _ kh1 => zm rfl (zn rfl (za rfl (zz (kh1 ?_))));refine zR fun _ kr3 => ?_;refine zm rfl (zm rfl (zm rfl ?_));refine WL.ev (Ev.convIn rfl rfl (in_u64 (by omega))) rfl ?_;refine WL.call hasF63 rfl rfl (Lenz_spec _) fun v w1 h' => ?_;obtain ⟨rfl, hC⟩ := h';have hch := hch.ta hC;refine WL.call hasF62 rfl rfl (Pdq0_spec _) fun v w2 h' => ?_;have hC := h';have hch := hch.ta hC;refine WL.nil (kr3 _ _ _ ?_);refine bodyA.norm0 rfl ?_;exact hch

theorem CompactS0_spec (w : World) : Ret Tryz.prog 39 [.slice none 0 0] w fun u w' => u = .slice none 0 0 ∧ Chg [] w w' := by
 have hch : Chg [] w w := Chg.refl _ _;refine zE1 Tryz.func39 rfl ?_;refine Sr fun _ kh1 => za rfl (zz (kh1 (zc fun _ kh3 => Sr fun _ kh4 => zm rfl (zn rfl ?_))));refine WL.ev (Ev.lss rfl rfl) rfl ?_;refine zz (kh4 ?_);refine CW.condT rfl ?_;refine Sr fun _ kh6 => zm rfl (za rfl (zz (kh6 ?_)));refine zr (zr1 rfl rfl ?_);exact ⟨rfl, hch⟩

theorem stNames0_spec (b lo : Nat) (w : World) (hL : LgM lo w b []) : Ret Tryz.prog 22 [.pointer (some ⟨b, 0, none⟩)] w fun u w' => u = .slice none 0 0 ∧ Chg [] w w' := by
 obtain ⟨⟨v, hb, hgc⟩, hda, htot⟩ := hL;obtain ⟨av, cv, rfl, hcapv, hrv, -⟩ := hgc.row;have e0 : ([] : List RG).length = 0 := rfl;rw [e0] at hb hgc hcapv;have hch : Chg [] w w := Chg.refl _ _;refine zE1 Tryz.func22 rfl ?_;refine Sr fun _ kh1 => za rfl (zz (kh1 (Sr fun _ kh3 => za rfl (zz (kh3 (zc fun _ kh5 => Sr fun _ kh6 => zm rfl ?_))))));refine WL.ev (Ev.nilPtr rfl) rfl ?_;refine zf rfl ?_;refine WL.ev (Ev.load (v := .slice av 0 cv) rfl rfl (hb.at_ rfl)) rfl ?_;refine zn rfl (zm rfl (zz (kh6 ?_)));refine CW.block ?_;refine CW.loop (S := fun _ : Nat => [(3, .slice none 0 0), (10, .int .i64 0), (11, .int .i64 0)]) (Inv := fun _ w1 => Chg [] w w1) (mu := fun _ => 0) (0) ?_ ?_ ?_
 ·exact hch
 ·exact SLp
 ·rintro _ wr hch;refine Sr fun _ kh8 => ?_;refine WL.ev (Ev.lss rfl rfl) rfl ?_;refine zz (kh8 (zc fun _ kh10 => ?_));refine CW.condF rfl ?_;refine CW.exit ?_;refine kh5 (Sr fun _ kh11 => zm rfl ?_);refine WL.call hasF38 rfl rfl (SortS0_spec _) fun v w1 h' => ?_;have hC := h';have hch := hch.ta hC;refine zz (kh11 (Sr fun _ kh13 => zm rfl ?_));refine WL.call hasF39 rfl rfl (CompactS0_spec _) fun v w2 h' => ?_;obtain ⟨rfl, hC⟩ := h';have hch := hch.ta hC;refine za rfl (zz (kh13 ?_));refine zr (zr1 rfl rfl ?_);exact ⟨rfl, hch⟩

end

/- Package steelyardlaw22: one. No condition. -/
section
open Go Sx Wd Fl

/-- The shard of some numbers. -/
def oneStep (S : Sh) (x : Nat) : Sh := if 1099511627776 < S.s.al + 1 then S else S.merge (Sh.one x)
def oneL (l : List Nat) : Sh := l.foldl oneStep Sh.zero
theorem oneL_take {l : List Nat} {i : Nat} (h : i < l.length) : oneL (l.take (i + 1)) = oneStep (oneL (l.take i)) (l.getD i 0) := by
  rw [take_step h]; simp [oneL]
theorem one_cnt (x : Nat) : (Sh.one x).cnt := by
  show (countP SP.zero (kindP x)).na + (countP SP.zero (kindP x)).up + (countP SP.zero (kindP x)).dn + (countP SP.zero (kindP x)).mi + (countP SP.zero (kindP x)).pl ≤ (countP SP.zero (kindP x)).al
  simp only [countP, SP.zero]
  repeat (first | omega | split)
theorem one_al (x : Nat) : (Sh.one x).s.al = 1 := rfl
theorem oneAdd {T : TypeId} {S : Sh} {x b : Nat} {w w' : World} {u : Value} (h : (1099511627776 < S.s.al + 1 ∧ u = .int .i64 2 ∧ ShM T w' b S ∧ Chg [b] w w') ∨ (S.s.al + 1 ≤ 1099511627776 ∧ u = .int .i64 0 ∧ ShM T w' b (S.merge (Sh.one x)) ∧ Chg [b] w w')) : ShM T w' b (oneStep S x) ∧ Chg [b] w w' := by
  unfold oneStep
  rcases h with ⟨h1, _, h2, h3⟩ | ⟨h1, _, h2, h3⟩
  · rw [if_pos h1]; exact ⟨h2, h3⟩
  · rw [if_neg (by omega)]; exact ⟨h2, h3⟩
theorem oneStep_ok {S : Sh} {x : Nat} (hx : x < 18446744073709551616) (hS : S.wf) (hc : S.cnt) : (oneStep S x).wf ∧ (oneStep S x).cnt := by
  unfold oneStep
  split
  · exact ⟨hS, hc⟩
  · exact cnt_wf hS (one_wf hx) hc (one_cnt x) (by rw [one_al]; omega)
theorem oneL_ok {l : List Nat} (hw : ∀ x ∈ l, x < 18446744073709551616) : (oneL l).wf ∧ (oneL l).cnt := by
  unfold oneL
  have key : ∀ (l : List Nat) (S : Sh), S.wf → S.cnt → (∀ x ∈ l, x < 18446744073709551616) → (l.foldl oneStep S).wf ∧ (l.foldl oneStep S).cnt := by
    intro l
    induction l with
    | nil => intro S h1 h2 _; exact ⟨h1, h2⟩
    | cons x l ih =>
      intro S h1 h2 hw
      obtain ⟨a, b⟩ := oneStep_ok (hw x (List.mem_cons_self ..)) h1 h2
      exact ih _ a b fun y hy => hw y (List.mem_cons_of_mem _ hy)
  exact key l Sh.zero Sh.wf.zero (Nat.le_refl _) hw

theorem l22one_spec (al : Option Addr) (l : List Nat) (cl : Nat) (w : World) (hrl : RW w al (l.map f64v)) (hWl : ∀ x ∈ l, x < 18446744073709551616) (hll : l.length ≤ 70368744177664) (hg0 : GW w) : Ret Tryz.prog 10 [.slice al l.length cl] w fun u w' => (∃ b, u = .pointer (some ⟨b, 0, none⟩) ∧ ShM 66 w' b (oneL l) ∧ w.heap.size ≤ b) ∧ Chg [] w w' := by
 have hch : Chg [] w w := Chg.refl _ _;refine zE1 Tryz.func10 rfl ?_;refine Sr fun _ kh1 => za rfl (zz (kh1 (Sr fun _ kh3 => ?_)));refine WL.call hasF11 rfl rfl (shNew_spec _) fun v w1 h' => ?_;obtain ⟨⟨bt, rfl, hbt, hget⟩, hC⟩ := h';have hch := hch.ta hC;refine za rfl (zz (kh3 (zc fun _ kh5 => Sr fun _ kh6 => zm rfl ?_)));refine WL.ev (Ev.eqlPtrNil rfl rfl) rfl ?_;refine zz (kh6 ?_);refine CW.condF rfl ?_;refine zkk ?_;refine kh5 (zc fun _ kh8 => Sr fun _ kh9 => za rfl (zz (kh9 ?_)));refine CW.block ?_;refine CW.loop (S := fun i : Nat => [(0, .slice al l.length cl), (3, .pointer (some ⟨bt, 0, none⟩)), (4, .int .i64 (i : Int))]) (Inv := fun i w1 => i ≤ l.length ∧ ShM 66 w1 bt (oneL (l.take i)) ∧ Chg [] w w1) (mu := fun i => l.length - i) (0) ?_ ?_ ?_
 ·exact ⟨Nat.zero_le _, hbt, hch⟩
 ·exact SLp
 ·rintro i wr ⟨hi, hbt, hch⟩;refine zc fun _ kh11 => Sr fun _ kh12 => zm rfl (zm rfl (zn rfl ?_));refine WL.ev (Ev.lss rfl rfl) rfl ?_;refine zz (kh12 ?_);refine zy rfl ?_ ?_<;>intro hc1<;>try simp only [qs] at hc1
  ·have hok := oneL_ok (l := l.take i) (fun x hx => hWl x (List.mem_of_mem_take hx));have hxi : l.getD i 0 < 18446744073709551616 := by rw [List.getD_eq_getElem?_getD, List.getElem?_eq_getElem (by omega)]; exact hWl _ (List.getElem_mem _)
   refine zkk ?_;refine kh11 (zc fun _ kh14 => ?_);refine CW.block ?_;refine zR fun _ kr15 => ?_;refine zm rfl (zm rfl (zm rfl ?_));refine WL.ev (Ev.ixR (i) rfl rfl (hrl.keep0 hch) (by omega) (by omega) (by simp; omega)) rfl ?_;refine WL.ev (Ev.load rfl rfl ((hrl.keep0 hch).f64 (by first | omega | (simp; omega)))) rfl ?_;refine WL.call hasF25 rfl rfl (shAdd_spec bt _ _ _ hbt hok.1 hxi (hg0.keep hch (fun b hb => by cases hb))) fun v w2 h' => ?_;obtain ⟨hbt, hC⟩ := oneAdd h';have hch := hch.step hC (fun y hy => by rw [List.mem_singleton.1 hy]; exact .inr hget);refine WL.nil (kr15 _ _ _ (kh14 ?_));refine zR fun _ kr16 => ?_;refine zm rfl ?_;(first | refine zi rfl rfl ?_ | refine zo rfl rfl ?_);refine za rfl ?_;refine WL.nil (kr16 _ _ _ ?_);refine ⟨rfl, i + 1, ?_, ?_, ?_⟩
   ·exact SLp
   ·exact ⟨by omega, by rw [oneL_take (by omega)]; exact hbt, hch⟩
   ·show l.length - (i + 1) < l.length - i; omega
  ·have hiX : i = l.length := by omega
   subst hiX;rw [List.take_length] at hbt;refine CW.exit ?_;refine kh8 (Sr fun _ kh17 => zm rfl (za rfl (zz (kh17 ?_))));refine zr (zr1 rfl rfl ?_);exact ⟨⟨bt, rfl, hbt, hget⟩, hch⟩

end

/- A log's bytes, read again, are its records. No condition. -/
section
open Go Sx Wd Fl

theorem rdRec_laid {nm dat : List Nat} (rest : List Nat) (h1 : 1 ≤ nm.length) (h2 : nm.length ≤ 64) (hl : dat.length < 16777216) (hs : decS dat ≠ none) : rdRec (laidB nm dat ++ rest) = (0, nm, dat) := by
  obtain ⟨bs, hbs⟩ : ∃ bs, laidB nm dat ++ rest = bs := ⟨_, rfl⟩
  have e1 : bs = [nm.length % 256] ++ (nm ++ (leB dat.length 3 ++ (dat ++ (leB (fnv (recB nm dat)) 4 ++ rest)))) := by
    obtain ⟨F, hF⟩ : ∃ F, fnv (recB nm dat) = F := ⟨_, rfl⟩
    rw [← hbs]; unfold laidB; rw [hF]; unfold recB
    simp only [List.append_assoc]
  have e2 : bs = ([nm.length % 256] ++ nm) ++ (leB dat.length 3 ++ (dat ++ (leB (fnv (recB nm dat)) 4 ++ rest))) := by rw [e1, List.append_assoc]
  have e3 : bs = (([nm.length % 256] ++ nm) ++ leB dat.length 3) ++ (dat ++ (leB (fnv (recB nm dat)) 4 ++ rest)) := by rw [e2, List.append_assoc (_ ++ nm)]
  have e4 : bs = recB nm dat ++ (leB (fnv (recB nm dat)) 4 ++ rest) := by rw [← hbs]; unfold laidB; rw [List.append_assoc]
  have hlen : bs.length = 8 + nm.length + dat.length + rest.length := by rw [← hbs, List.length_append, laidB_len]
  have h0 : bs.getD 0 0 = nm.length := by
    rw [e1]; show nm.length % 256 = nm.length; exact Nat.mod_eq_of_lt (by omega)
  have hd1 : (bs.drop 1).take nm.length = nm := by
    rw [e1, List.drop_left' (by rfl), List.take_left' rfl]
  have hd2 : leV ((bs.drop (1 + nm.length)).take 3) = dat.length := by
    rw [e2, List.drop_left' (by rw [List.length_append]; rfl), List.take_left' (leB_len _ _), leV_leB]; exact Nat.mod_eq_of_lt (by omega)
  have hd3 : (bs.drop (4 + nm.length)).take dat.length = dat := by
    rw [e3, List.drop_left' (by simp only [List.length_append, leB_len, List.length_cons, List.length_nil]; omega), List.take_left' rfl]
  have hd4 : (bs.drop (4 + nm.length + dat.length)).take 4 = leB (fnv (recB nm dat)) 4 := by
    rw [e4, List.drop_left' (recB_len _ _), List.take_left' (leB_len _ _)]
  have hd5 : bs.take (4 + nm.length + dat.length) = recB nm dat := by
    rw [e4, List.take_left' (recB_len _ _)]
  unfold rdRec
  rw [hbs, h0, hd2, if_neg (by omega), if_neg (by omega), if_neg (by omega), hd4, hd5, if_neg (by simp), hd3, if_neg hs, hd1]
/-- Records that a log keeps, which read again. -/
structure GoodG (G : List RG) : Prop where
  g : ∀ g ∈ G, 1 ≤ (sB g.1).length ∧ (sB g.1).length ≤ 64 ∧ B8 g.2.1 ∧ decS g.2.1 ≠ none
  tot : totG G ≤ 1048576
theorem bytG_append (A B : List RG) : bytG (A ++ B) = bytG A ++ bytG B := by simp [bytG]
theorem bytG_at {G : List RG} {i : Nat} {g : RG} (h : G[i]? = some g) : (bytG G).drop (totG (G.take i)) = laidB (sB g.1) g.2.1 ++ bytG (G.drop (i + 1)) := by
  have hlt : i < G.length := (List.getElem?_eq_some_iff.1 h).1
  have e : G = G.take i ++ (g :: G.drop (i + 1)) := by
    conv => lhs; rw [← List.take_append_drop i G]
    rw [List.drop_eq_getElem_cons hlt]
    congr 2
    exact (List.getElem?_eq_some_iff.1 h).2
  have e2 : bytG G = bytG (G.take i) ++ (laidB (sB g.1) g.2.1 ++ bytG (G.drop (i + 1))) := by
    conv => lhs; rw [e]
    rw [bytG_append]; rfl
  rw [e2, List.drop_left' (bytG_len _)]
theorem bytG_B8 {G : List RG} (h : ∀ g ∈ G, B8 g.2.1) : B8 (bytG G) := by
  intro x hx
  obtain ⟨m, hm, hx⟩ := List.mem_flatten.1 hx
  obtain ⟨g, hg, rfl⟩ := List.mem_map.1 hm
  unfold laidB recB at hx
  exact ((((B8.append (fun x hx => by rw [List.mem_singleton.1 hx]; exact Nat.mod_lt _ (by decide)) (sB_lt g.1)).append (leB_B8 _ _)).append (h g hg)).append (leB_B8 _ _)) x hx
theorem totG_take_lt {G : List RG} {i : Nat} (h : i < G.length) : totG (G.take i) < totG G := by
  have h1 := totG_take G (i + 1)
  rw [List.take_add_one, List.getElem?_eq_getElem h] at h1
  simp only [Option.toList_some] at h1
  rw [totG_snoc] at h1
  unfold szG at h1
  omega
theorem GoodG.read {G : List RG} (h : GoodG G) {i : Nat} {g : RG} (hg : G[i]? = some g) : rdRec ((bytG G).drop (totG (G.take i))) = (0, sB g.1, g.2.1) := by
  obtain ⟨a, b, c, d⟩ := h.g g (List.mem_of_getElem? hg)
  have hs := szG_le (List.mem_of_getElem? hg)
  have ht := h.tot
  rw [bytG_at hg]
  exact rdRec_laid _ a b (by unfold szG at hs; omega) d
theorem GoodG.wk {G : List RG} (h : GoodG G) {R : List (ByteArray × List Nat)} {p : Nat} (hw : Wk (bytG G) R p) : ∃ i, i ≤ G.length ∧ R = tellG (G.take i) ∧ p = totG (G.take i) := by
  induction hw with
  | nil => exact ⟨0, Nat.zero_le _, rfl, rfl⟩
  | @step R p nm dat hw hp hr ih =>
    obtain ⟨i, hi, rfl, rfl⟩ := ih
    rw [bytG_len] at hp
    have hlt : i < G.length := by
      rcases Nat.lt_or_ge i G.length with q | q
      · exact q
      · rw [List.take_of_length_le q] at hp; omega
    obtain ⟨g, hg⟩ : ∃ g, G[i]? = some g := ⟨_, List.getElem?_eq_getElem hlt⟩
    rw [h.read hg] at hr
    injection hr with _ hr
    injection hr with h1 h2
    subst h1; subst h2
    refine ⟨i + 1, hlt, ?_, ?_⟩
    · rw [List.take_add_one, hg, Option.toList_some, tellG_snoc, bA_sB]
    · rw [List.take_add_one, hg, Option.toList_some, totG_snoc]; unfold szG; omega
theorem GoodG.all {G : List RG} (h : GoodG G) {R : List (ByteArray × List Nat)} (hw : Wk (bytG G) R (bytG G).length) : R = tellG G := by
  obtain ⟨i, hi, rfl, hp⟩ := h.wk hw
  rw [bytG_len] at hp
  rcases Nat.lt_or_ge i G.length with q | q
  · have := totG_take_lt q; omega
  · rw [List.take_of_length_le q]
theorem GoodG.good {G : List RG} (h : GoodG G) : ∀ R p, Wk (bytG G) R p → p < (bytG G).length → (rdRec ((bytG G).drop p)).1 = 0 := fun R p hw hp => by
  obtain ⟨i, hi, rfl, rfl⟩ := h.wk hw
  rw [bytG_len] at hp
  rcases Nat.lt_or_ge i G.length with q | q
  · obtain ⟨g, hg⟩ : ∃ g, G[i]? = some g := ⟨_, List.getElem?_eq_getElem q⟩
    rw [h.read hg]
  · rw [List.take_of_length_le q] at hp; omega
theorem tell_one {G : List RG} {nm : ByteArray} {d : List Nat} (h : tellG G = [(nm, d)]) : ∃ v, G = [(nm, d, v)] := by
  match G, h with
  | [(a, b, v)], h => cases h; exact ⟨v, rfl⟩
end

/- Package steelyardlaw22: live. No condition. -/
section
open Go Sx Wd Fl

def l12 : List Nat := [4607182418800017408, 4611686018427387904]
theorem ex12 : (oneL l12).ex := by constructor <;> decide +kernel
theorem w12 : ∀ x ∈ l12, x < 18446744073709551616 := by decide
theorem back12 : (oneL l12).back := ⟨(oneL_ok w12).1, ex12, fun h => absurd (by decide +kernel : (oneL l12).some) h, by decide +kernel, by decide +kernel, fun _ => by decide +kernel⟩
theorem dec12 : decS (encS (oneL l12)) = some (oneL l12) := decS_encS back12
theorem tot12 (nm : ByteArray) (dv : Value) : totW nm [(nm, encS (oneL l12), dv)] = .ok (Sh.zero.merge (oneL l12), true) := by
  have h : ¬ 1099511627776 < Sh.zero.s.al + (oneL l12).s.al := by decide +kernel
  show totStep nm (.ok (Sh.zero, false)) (nm, encS (oneL l12), dv) = _
  unfold totStep
  dsimp only
  rw [if_pos rfl, dec12]
  dsimp only
  rw [if_neg h]
theorem al12 : (Sh.zero.merge (oneL l12)).s.al = 2 := by decide +kernel
theorem sBa : sB ⟨#[97]⟩ = [97] := by decide
theorem enc12_len : 58 ≤ (encS (oneL l12)).length := by
  unfold encS
  simp only [List.length_append, leB_len, encD_len]
  omega
theorem good12 (dv : Value) : GoodG [(⟨#[97]⟩, encS (oneL l12), dv)] := by
  refine ⟨fun g hg => ?_, ?_⟩
  · rw [List.mem_singleton.1 hg]
    dsimp only
    rw [sBa, dec12]
    exact ⟨by decide, by decide, encS_B8 _, by simp⟩
  · have := encS_len ex12
    show szG _ + 0 ≤ _
    unfold szG
    dsimp only
    rw [sBa]
    simp only [List.length_cons, List.length_nil]
    omega

theorem l22live_spec (w : World) (ea : Nat → Addr) (hg0 : GW w) (hE0 : GE w (evV ea)) : Ret Tryz.prog 8 [] w fun u w' => u = .bool true ∧ Chg [] w w' := by
 have hch : Chg [] w w := Chg.refl _ _;refine zE0 Tryz.func8 rfl ?_;refine Sr fun _ kh1 => za rfl (zz (kh1 (Sr fun _ kh3 => ?_)));refine WL.call hasF9 rfl rfl (stNew_spec _) fun v w1 h' => ?_;obtain ⟨⟨bl, rfl, hbl0, hgel⟩, hC⟩ := h';have hL : LgM w.heap.size _ bl [] := LgM.new hbl0;have hch := hch.ta hC;refine za rfl (zz (kh3 (Sr fun _ kh5 => ?_)));refine WL.buildSlice (m := 2) (cs := [f64v (4607182418800017408), f64v (4611686018427387904)]) (by decide) (by decide) rfl (by kernel_rfl) rfl fun b11 w11 hn11 => ?_;have hcm11 := hn11.chg;have hge11 := hn11.ge;have hb11 : FB w11 b11 _ [4607182418800017408, 4611686018427387904] := hn11.at_;have hgehch11 := Nat.le_trans hch.size hge11;have hch := hch.ta hcm11;have hL := hL.keep0 hcm11;refine WL.call hasF10 rfl rfl (l22one_spec _ l12 2 _ hb11.row w12 (by decide) (hg0.keep hch (fun b hb => by cases hb))) fun v w2 h' => ?_;obtain ⟨⟨bs1, rfl, hbs, hges⟩, hC⟩ := h';have hch := hch.ta hC;have hL := hL.keep0 hC;refine za rfl (zz (kh5 (zc fun _ kh7 => Sr fun _ kh8 => zm rfl ?_)));refine WL.ev (Ev.eqlPtrNil rfl rfl) rfl ?_;refine zm rfl (zw rfl (zm rfl (zw rfl ?_)));refine WL.ev (Ev.eqlPtrNil rfl rfl) rfl ?_;refine ze rfl rfl (zz (kh8 ?_));refine CW.condF rfl ?_;refine zkk ?_;refine kh7 (Sr fun _ kh10 => zm rfl (zm rfl ?_));refine WL.call hasF13 rfl rfl (stAppend_spec bl w.heap.size [] ⟨#[97]⟩ bs1 _ w _ hL hbs (oneL_ok w12).1 ex12 (Chg.any hch) (Nat.le_refl _) hch.size) fun v w3 h' => ?_;rcases h' with ⟨hbad, _⟩ | ⟨_, hbig, _⟩ | ⟨_, hle, rfl, ⟨dv, hL⟩, hch⟩
 · rw [sBa] at hbad; exact absurd hbad (by decide)
 · have := encS_len ex12; rw [sBa] at hbig; simp only [totG, List.map_nil, List.sum_nil, List.length_cons, List.length_nil] at hbig; omega
 have hch := hch.drop hgel;rw [List.nil_append] at hL;refine za rfl (zz (kh10 (Sr fun _ kh12 => zm rfl ?_)));refine WL.call hasF14 rfl rfl (stBytes_spec bl w.heap.size [(⟨#[97]⟩, encS (oneL l12), dv)] _ hL) fun v w4 h' => ?_;obtain ⟨hgb, hC⟩ := h';have hGd := good12 dv;have hbl58 := enc12_len;have hlenB := bytG_len [(⟨#[97]⟩, encS (oneL l12), dv)];have htotB : totG [(⟨#[97]⟩, encS (oneL l12), dv)] = 9 + (encS (oneL l12)).length := by show szG _ + 0 = _; unfold szG; dsimp only; rw [sBa]; rfl
 have htB := hGd.tot;have hB0 : (bytG [(⟨#[97]⟩, encS (oneL l12), dv)]).getD 0 0 = 1 := rfl;have hB1 : (bytG [(⟨#[97]⟩, encS (oneL l12), dv)]).getD 1 0 = 97 := rfl;obtain ⟨bs, hbs⟩ : ∃ bs, bytG [(⟨#[97]⟩, encS (oneL l12), dv)] = bs := ⟨_, rfl⟩;rw [hbs] at hgb hlenB hB0 hB1;obtain ⟨a23, c23, rfl, hcap23, hr23⟩ := hgb.row;have hch := hch.ta hC;refine za rfl (zz (kh12 (Sr fun _ kh14 => zm rfl ?_)));refine WL.call hasF17 rfl rfl (stReplayOk_spec a23 bs c23 _ ea hr23 hcap23 (by rw [← hbs]; exact bytG_B8 (fun g hg => (hGd.g g hg).2.2.1)) (by omega) (hE0.keep0 hch) (hg0.keep hch (fun b hb => by cases hb)) (by rw [← hbs]; exact hGd.good)) fun v w5 h' => ?_;obtain ⟨⟨bl2, G2, rfl, hWk, hL2, hge2⟩, hC⟩ := h';obtain ⟨dv2, rfl⟩ := tell_one (by rw [← hbs] at hWk; exact (hGd.all hWk : tellG G2 = tellG [(⟨#[97]⟩, encS (oneL l12), dv)]));have hch := hch.ta hC;have hr23 := hr23.keep0 hC;refine zm rfl (zx rfl rfl (zx rfl rfl (zx rfl rfl (za rfl (za rfl (za rfl (zz (kh14 (zc fun _ kh16 => Sr fun _ kh17 => zm rfl ?_)))))))));refine WL.ev (Ev.neq rfl rfl) rfl ?_;rw [decide_eq_false (by simp)];refine zm rfl (zw rfl (zm rfl (zw rfl ?_)));refine WL.ev (Ev.neq rfl rfl) rfl ?_;rw [decide_eq_false (by simp)];refine ze rfl rfl (zm rfl (zw rfl (zm rfl (zw rfl ?_))));refine WL.ev (Ev.eqlPtrNil rfl rfl) rfl ?_;refine ze rfl rfl (zm rfl (zw rfl (zm rfl (zw rfl (zm rfl (zw rfl (zn rfl (zw rfl ?_))))))));refine WL.ev (Ev.neq rfl rfl) rfl ?_;rw [decide_eq_false (by simp)];refine ze rfl rfl (zm rfl (zw rfl (zm rfl (zw rfl ?_))));refine WL.ev (Ev.lss rfl rfl) rfl ?_;rw [decide_eq_false (by omega)];refine ze rfl rfl (zz (kh17 ?_));refine CW.condF rfl ?_;refine zkk ?_;refine kh16 (Sr fun _ kh19 => zm rfl ?_);refine WL.call hasF21 rfl rfl (stTotal_spec bl2 _ _ ⟨#[97]⟩ _ hL2 (hg0.keep hch (fun b hb => by cases hb))) fun v w6 h' => ?_;obtain ⟨hu, hC⟩ := h';rw [tot12] at hu;rcases hu with ⟨S, bt, hS, rfl, hbt, hwt, _⟩ | ⟨S, hS, _⟩ | ⟨e, hS, _⟩
 rotate_left
 · cases hS
 · cases hS
 obtain rfl : Sh.zero.merge (oneL l12) = S := by injection hS with hS; injection hS
 have hch := hch.ta hC;have hr23 := hr23.keep0 hC;refine zm rfl (zx rfl rfl (zx rfl rfl (za rfl (za rfl (zz (kh19 (Sr fun _ kh21 => zm rfl (zq rfl rfl (zm rfl (zw rfl (zm rfl (zw rfl ?_))))))))))));refine WL.ev (Ev.neqPtrNil rfl rfl) rfl ?_;refine zt rfl rfl (zm rfl (zw rfl (zm rfl (zw rfl ?_))));refine WL.call hasF24 rfl rfl (Count_spec_ bt _ _ hbt hwt.1) fun v w7 h' => ?_;obtain ⟨rfl, hC⟩ := h';rw [al12];have hch := hch.ta hC;have hr23 := hr23.keep0 hC;refine zw rfl (zq rfl rfl (zt rfl rfl (zm rfl (zw rfl (zm rfl (zw rfl ?_))))));refine WL.ev (Ev.ixR (0) rfl rfl hr23 (by omega) (by omega) (by simp; omega)) rfl ?_;refine zw rfl ?_;refine WL.ev (Ev.load rfl rfl (hr23.u8 (by omega))) rfl ?_;rw [hB0];refine zw rfl (zq rfl rfl (zt rfl rfl (zm rfl (zw rfl (zm rfl (zw rfl ?_))))));refine WL.ev (Ev.ixR (1) rfl rfl hr23 (by omega) (by omega) (by simp; omega)) rfl ?_;refine zw rfl ?_;refine WL.ev (Ev.load rfl rfl (hr23.u8 (by omega))) rfl ?_;rw [hB1];refine zw rfl (zq rfl rfl (zt rfl rfl (za rfl (zz (kh21 ?_)))));refine zr (zr1 rfl rfl ?_);exact ⟨rfl, hch⟩

end

/- steelyardlaw22: numbers. No condition. -/
section
open Go Sx Wd Fl

theorem StoreNumbers_spec (w : World) (ea : Nat → Addr) (hg0 : GW w) (hE0 : GE w (evV ea)) : Ret Tryz.prog 6 [] w fun u w' => u = .bool true ∧ Chg [] w w' := by
 have hch : Chg [] w w := Chg.refl _ _;refine zE0 Tryz.func6 rfl ?_;refine Sr fun _ kh1 => za rfl (zz (kh1 (Sr fun _ kh3 => ?_)));refine WL.call hasF8 rfl rfl (l22live_spec _ ea (hg0.keep hch (fun b hb => by cases hb)) (hE0.keep0 hch)) fun v w1 h' => ?_;obtain ⟨rfl, hC⟩ := h';have hch := hch.ta hC;refine za rfl (zz (kh3 (Sr fun _ kh5 => ?_)));refine WL.call hasF9 rfl rfl (stNew_spec _) fun v w2 h' => ?_;obtain ⟨⟨bl, rfl, hbl0, hgel⟩, hC⟩ := h';have hL : LgM 0 _ bl [] := LgM.new hbl0;have hch := hch.ta hC;refine za rfl (zz (kh5 (zc fun _ kh7 => Sr fun _ kh8 => zm rfl ?_)));refine WL.ev (Ev.not rfl) rfl ?_;refine zm rfl (zw rfl (zm rfl (zw rfl ?_)));refine WL.ev (Ev.eqlPtrNil rfl rfl) rfl ?_;refine ze rfl rfl (zz (kh8 ?_));refine CW.condF rfl ?_;refine zkk ?_;refine kh7 (Sr fun _ kh10 => zm rfl ?_);refine WL.call hasF21 rfl rfl (stTotal_spec bl _ _ ⟨#[97]⟩ _ hL (hg0.keep hch (fun b hb => by cases hb))) fun v w3 h' => ?_;obtain ⟨hu, hC⟩ := h';rcases hu with ⟨S, bt, hS, _⟩ | ⟨S, hS, rfl⟩ | ⟨e, hS, _⟩
 rotate_left
 rotate_left
 · cases hS
 · cases hS
 have hch := hch.ta hC;have hL := hL.keep0 hC;refine zm rfl (zx rfl rfl (zx rfl rfl (za rfl (za rfl (zz (kh10 (Sr fun _ kh12 => ?_)))))));refine WL.call hasF17 rfl rfl (stReplayOk_spec none [] 0 _ ea RW.nil (Nat.le_refl _) (fun x hx => by cases hx) (by decide) (hE0.keep0 hch) (hg0.keep hch (fun b hb => by cases hb)) (fun R p _ h => absurd h (Nat.not_lt_zero _))) fun v w4 h' => ?_;obtain ⟨⟨bl2, G2, rfl, hWk, hL2, hge2⟩, hC⟩ := h';have hch := hch.ta hC;have hL := hL.keep0 hC;refine zm rfl (zx rfl rfl (zx rfl rfl (zx rfl rfl (za rfl (za rfl (za rfl (zz (kh12 (Sr fun _ kh14 => zm rfl ?_)))))))));refine WL.call hasF14 rfl rfl (stBytes_spec bl _ [] _ hL) fun v w5 h' => ?_;obtain ⟨hgb, hC⟩ := h';obtain ⟨a28, c28, rfl, hcap28, hr28⟩ := hgb.row;rw [show (bytG []).length = 0 from rfl];have hch := hch.ta hC;have hL := hL.keep0 hC;refine zn rfl (zq rfl rfl (zm rfl (zw rfl (zm rfl (zw rfl ?_)))));refine WL.call hasF18 rfl rfl (stRecords_spec bl _ [] _ hL) fun v w6 h' => ?_;obtain ⟨⟨G33, _, hgc33, _⟩, hC⟩ := h';obtain ⟨a33, c33, rfl, hcap33, hr33, -⟩ := hgc33.row;rw [show ([] : List RG).length = 0 from rfl];have hch := hch.ta hC;have hL := hL.keep0 hC;refine zw rfl (zn rfl (zw rfl (zq rfl rfl (zt rfl rfl (zm rfl (zw rfl (zm rfl (zw rfl ?_))))))));refine WL.call hasF22 rfl rfl (stNames0_spec bl _ _ hL) fun v w7 h' => ?_;obtain ⟨rfl, hC⟩ := h';have hch := hch.ta hC;refine zw rfl (zn rfl (zw rfl (zq rfl rfl (zt rfl rfl (zm rfl (zw rfl (zm rfl (zw rfl (zq rfl rfl (zt rfl rfl (zm rfl (zw rfl (zm rfl (zw rfl ?_))))))))))))));refine WL.ev (Ev.neqPtrNil rfl rfl) rfl ?_;refine zt rfl rfl (zm rfl (zw rfl (zm rfl (zw rfl (zq rfl rfl (zt rfl rfl (zm rfl (zw rfl (zm rfl (zw rfl (zq rfl rfl (zt rfl rfl (za rfl (zz (kh14 (Sr fun _ kh16 => zm rfl (zm rfl (zt rfl rfl (zm rfl (zt rfl rfl (zm rfl (zt rfl rfl (zm rfl ?_)))))))))))))))))))))));refine zt rfl rfl (zm rfl (zt rfl rfl (zm rfl (zt rfl rfl (zm rfl (zt rfl rfl (zm rfl (zt rfl rfl (za rfl (zz (kh16 ?_)))))))))));refine zr (zr1 rfl rfl ?_);exact ⟨rfl, hch⟩

end

/- What came in, opened; the listed table, opened. No condition. -/
section
open Go Sx Wd
open Go.ChangeShapes Go.WideShapes Go.ChangeAt Go.WideMaps Go.WideElems Go.RowKit

theorem own : ownKnob Tryz.prog.godebug = none := by kernel_rfl
theorem gDeb : Tryz.prog.globalNamed "math/bits.deBruijn32tab" = some 6 := by kernel_rfl
theorem tDeb : (Tryz.prog.globals[6]?).map (·.type) = some 205 := by kernel_rfl
theorem deb_data {H : Type} : (Rows.laid_math_bits_deBruijn32tab : DataW H) = .agg (deb.map fun n : Nat => .lit (.int .u8 (n : Int))) := rfl
end

/- The listed variables of the store, opened: the table, the errors. No condition. -/
section
open Go Sx Wd
open Go.ChangeShapes Go.WideShapes Go.ChangeAt Go.WideMaps Go.WideElems Go.RowKit

theorem door_metS (os : Os) (args : Array Value) : laidMetH Tryz.prog [("math/bits.deBruijn32tab", Rows.laid_math_bits_deBruijn32tab), ("errors.errorType", Rows.laid_errors_errorType), ("steelyard/store.errForm", Rows.laid_steelyard_store_errForm), ("steelyard/store.errTorn", Rows.laid_steelyard_store_errTorn), ("steelyard/store.errSum", Rows.laid_steelyard_store_errSum), ("steelyard/store.errShard", Rows.laid_steelyard_store_errShard)] ((World.doorLaid Tryz.prog 400 os).forCall (fun _ _ => 0) ⟨#[], args, []⟩).memory :=
  laidMetH_of_parts3 (fuel := 8) (laidMet_of_run' 8 (by kernel_rfl) (by kernel_rfl)) (by kernel_rfl) (by kernel_rfl)
theorem gw_of_trod {W : World} {g0 : Nat} {t0 : TypeId} {cs0 : Array Value} {f0 : Nat} {p0 : List MemPlace} (hg0 : Tryz.prog.globalNamed "math/bits.deBruijn32tab" = some g0) (ht0 : (Tryz.prog.globals[g0]?).map (·.type) = some t0) (hv0 : W.var? Tryz.prog "math/bits.deBruijn32tab" = some cs0) (hd0 : DataW.trod (fun _ => ()) Tryz.prog W 0 (fun _ => true) false f0 t0 cs0.toList = some (Rows.laid_math_bits_deBruijn32tab, p0)) : GW W := by
  obtain rfl := Option.some.inj (gDeb.symm.trans hg0)
  obtain rfl := Option.some.inj (tDeb.symm.trans ht0)
  obtain ⟨xs, m1, rfl, hx1, hlen, hn3, hel⟩ := DataW.trod_array Tryz.underlying205 hd0
  have c8 : Tryz.prog.cellsOf 5 = 1 := by kernel_rfl
  simp only [Prod.mk.injEq] at hx1
  intro i hi
  have hi' := hel i hi
  rw [c8, Nat.mul_one] at hi'
  have hxi : xs[i]? = some (xs[i]'(by omega)) := List.getElem?_eq_getElem (by omega)
  rw [hxi] at hi'
  obtain ⟨k, e1, e2, _⟩ := DataW.trod_int Tryz.underlying5 hi'
  have hxs : (deb.map fun n : Nat => (DataW.lit (.int .u8 (n : Int)) : DataW Unit)) = xs.map (·.1) := by
    have := hx1.1
    rw [deb_data] at this
    exact DataW.agg.inj this
  have hdat : (deb.map fun n : Nat => (DataW.lit (.int .u8 (n : Int)) : DataW Unit))[i]? = some (.lit (.int .u8 ((deb.getD i 0 : Nat) : Int))) := by
    rw [List.getElem?_map, List.getElem?_eq_getElem (show i < deb.length from hi), List.getD_eq_getElem?_getD, List.getElem?_eq_getElem (show i < deb.length from hi)]; rfl
  rw [hxs, List.getElem?_map, hxi] at hdat
  simp only [Option.map_some] at hdat
  rw [e2] at hdat
  have hk : k = ((deb.getD i 0 : Nat) : Int) := by
    have := Option.some.inj hdat
    simp only [DataW.lit.injEq, Lit.int.injEq, true_and] at this
    exact this
  subst hk
  have hc : cs0[i]? = some (.int .u8 ((deb.getD i 0 : Nat) : Int)) := by
    have h3 : (cs0.toList.drop i)[0]? = some (.int .u8 ((deb.getD i 0 : Nat) : Int)) := by
      have := congrArg (fun l : List Value => l[0]?) e1
      simpa using this
    simpa using h3
  have := World.var?_cell hg0 hv0 i
  rw [hc] at this
  exact this

theorem star_es : "*" ++ "errors.errorString" = "*errors.errorString" := by decide
theorem row_es (u : TypeId) (h : Tryz.prog.typeName? 3 u = some "*errors.errorString") : u = 206 :=
  typeName_ptr_named (nm := "errors.errorString") (by rw [star_es]; kernel_rfl) (by kernel_rfl) (by decide) u (by rw [star_es]; exact h)
theorem c1_es : Tryz.prog.cellsOf 226 = 1 := by kernel_rfl
theorem c1_str : Tryz.prog.cellsOf 9 = 1 := by kernel_rfl
theorem g_errForm : Tryz.prog.globalNamed "steelyard/store.errForm" = some 2 := by kernel_rfl
theorem t_errForm : (Tryz.prog.globals[2]?).map (·.type) = some 80 := by kernel_rfl
theorem g_errTorn : Tryz.prog.globalNamed "steelyard/store.errTorn" = some 3 := by kernel_rfl
theorem t_errTorn : (Tryz.prog.globals[3]?).map (·.type) = some 80 := by kernel_rfl
theorem g_errSum : Tryz.prog.globalNamed "steelyard/store.errSum" = some 4 := by kernel_rfl
theorem t_errSum : (Tryz.prog.globals[4]?).map (·.type) = some 80 := by kernel_rfl
theorem g_errShard : Tryz.prog.globalNamed "steelyard/store.errShard" = some 5 := by kernel_rfl
theorem t_errShard : (Tryz.prog.globals[5]?).map (·.type) = some 80 := by kernel_rfl
theorem nodup_mem {α : Type} {A B : List α} {x : α} (h : (A ++ B).Nodup) (ha : x ∈ A) (hb : x ∈ B) : False := (List.nodup_append.1 h).2.2 x ha x hb rfl
/-- The table and the errors, as they lie when the call begins. -/
structure LaidG (W : World) (ea : Nat → Addr) : Prop where
  gw : GW W
  ge : GE W (evV ea)
  cell : ∀ c, 1 ≤ c → c ≤ 4 → ∃ cs t, W.heap[(ea c).block]? = some (.cells cs t (0, 0))
  ne : ∀ c d, 1 ≤ c → c ≤ 4 → 1 ≤ d → d ≤ 4 → c ≠ d → ea c ≠ ea d
theorem laidG {W : World} (h : laidMetH Tryz.prog [("math/bits.deBruijn32tab", Rows.laid_math_bits_deBruijn32tab), ("errors.errorType", Rows.laid_errors_errorType), ("steelyard/store.errForm", Rows.laid_steelyard_store_errForm), ("steelyard/store.errTorn", Rows.laid_steelyard_store_errTorn), ("steelyard/store.errSum", Rows.laid_steelyard_store_errSum), ("steelyard/store.errShard", Rows.laid_steelyard_store_errShard)] W) : ∃ ea, LaidG W ea := by
  have h' : laidMet Tryz.prog [("math/bits.deBruijn32tab", Rows.laid_math_bits_deBruijn32tab), ("steelyard/store.errForm", Rows.laid_steelyard_store_errForm), ("steelyard/store.errTorn", Rows.laid_steelyard_store_errTorn), ("steelyard/store.errSum", Rows.laid_steelyard_store_errSum), ("steelyard/store.errShard", Rows.laid_steelyard_store_errShard)] W ∧ handlesMet Tryz.prog [("errors.errorType", Rows.laid_errors_errorType)] W := h
  obtain ⟨⟨ps, ⟨g0, t0, cs0, f0, p0, q0, hg0, ht0, hv0, hd0, hch, e0⟩, hnd, hrows⟩, _⟩ := h'
  have hGW := gw_of_trod hg0 ht0 hv0 hd0
  obtain ⟨g1, t1, cs1, f1, p1, q1, hg1, ht1, hv1, hd1, hch1, e1⟩ := hch
  obtain ⟨g2, t2, cs2, f2, p2, q2, hg2, ht2, hv2, hd2, hch2, e2⟩ := hch1
  obtain ⟨g3, t3, cs3, f3, p3, q3, hg3, ht3, hv3, hd3, hch3, e3⟩ := hch2
  obtain ⟨g4, t4, cs4, f4, p4, q4, hg4, ht4, hv4, hd4, hch4, e4⟩ := hch3
  have hq4 : q4 = [] := hch4
  obtain rfl := Option.some.inj (g_errForm.symm.trans hg1)
  obtain rfl := Option.some.inj (t_errForm.symm.trans ht1)
  obtain rfl := Option.some.inj (g_errTorn.symm.trans hg2)
  obtain rfl := Option.some.inj (t_errTorn.symm.trans ht2)
  obtain rfl := Option.some.inj (g_errSum.symm.trans hg3)
  obtain rfl := Option.some.inj (t_errSum.symm.trans ht3)
  obtain rfl := Option.some.inj (g_errShard.symm.trans hg4)
  obtain rfl := Option.some.inj (t_errShard.symm.trans ht4)
  subst hq4
  subst e4; subst e3; subst e2; subst e1; subst e0
  obtain ⟨l1⟩ := cs1
  have ok1 : ∀ u v, l1 = [.iface u v] → Value.okWide Tryz.prog W .any 0 u v := fun u v e => by
    subst e
    exact (hrows 2 0 (by simp [MemPlace.row])).2 u v (by simpa using World.var?_cell hg1 hv1 0)
  obtain ⟨a1, s1, rfl, hc1, hs1, hz1, rfl⟩ := errorString_of_trod Tryz.underlying80 row_es Tryz.underlying206 Tryz.underlying226 rfl rfl Tryz.underlying9 c1_es c1_str hd1 ok1
  obtain ⟨c1, u1, hb1⟩ := (hrows a1.block a1.off (by simp [MemPlace.row])).1
  have hw1 : W.cell? ⟨2, 0, none⟩ = some (.iface 206 (.pointer (some a1))) := by simpa using World.var?_cell hg1 hv1 0
  obtain ⟨l2⟩ := cs2
  have ok2 : ∀ u v, l2 = [.iface u v] → Value.okWide Tryz.prog W .any 0 u v := fun u v e => by
    subst e
    exact (hrows 3 0 (by simp [MemPlace.row])).2 u v (by simpa using World.var?_cell hg2 hv2 0)
  obtain ⟨a2, s2, rfl, hc2, hs2, hz2, rfl⟩ := errorString_of_trod Tryz.underlying80 row_es Tryz.underlying206 Tryz.underlying226 rfl rfl Tryz.underlying9 c1_es c1_str hd2 ok2
  obtain ⟨c2, u2, hb2⟩ := (hrows a2.block a2.off (by simp [MemPlace.row])).1
  have hw2 : W.cell? ⟨3, 0, none⟩ = some (.iface 206 (.pointer (some a2))) := by simpa using World.var?_cell hg2 hv2 0
  obtain ⟨l3⟩ := cs3
  have ok3 : ∀ u v, l3 = [.iface u v] → Value.okWide Tryz.prog W .any 0 u v := fun u v e => by
    subst e
    exact (hrows 4 0 (by simp [MemPlace.row])).2 u v (by simpa using World.var?_cell hg3 hv3 0)
  obtain ⟨a3, s3, rfl, hc3, hs3, hz3, rfl⟩ := errorString_of_trod Tryz.underlying80 row_es Tryz.underlying206 Tryz.underlying226 rfl rfl Tryz.underlying9 c1_es c1_str hd3 ok3
  obtain ⟨c3, u3, hb3⟩ := (hrows a3.block a3.off (by simp [MemPlace.row])).1
  have hw3 : W.cell? ⟨4, 0, none⟩ = some (.iface 206 (.pointer (some a3))) := by simpa using World.var?_cell hg3 hv3 0
  obtain ⟨l4⟩ := cs4
  have ok4 : ∀ u v, l4 = [.iface u v] → Value.okWide Tryz.prog W .any 0 u v := fun u v e => by
    subst e
    exact (hrows 5 0 (by simp [MemPlace.row])).2 u v (by simpa using World.var?_cell hg4 hv4 0)
  obtain ⟨a4, s4, rfl, hc4, hs4, hz4, rfl⟩ := errorString_of_trod Tryz.underlying80 row_es Tryz.underlying206 Tryz.underlying226 rfl rfl Tryz.underlying9 c1_es c1_str hd4 ok4
  obtain ⟨c4, u4, hb4⟩ := (hrows a4.block a4.off (by simp [MemPlace.row])).1
  have hw4 : W.cell? ⟨5, 0, none⟩ = some (.iface 206 (.pointer (some a4))) := by simpa using World.var?_cell hg4 hv4 0
  refine ⟨fun c => if c = 1 then a1 else if c = 2 then a2 else if c = 3 then a3 else a4, hGW, ⟨hw1, hw2, hw3, hw4⟩, fun c h1 h4 => ?_, fun c d hc1 hc4 hd1 hd4 hne he => ?_⟩
  · have : c = 1 ∨ c = 2 ∨ c = 3 ∨ c = 4 := by omega
    rcases this with rfl | rfl | rfl | rfl
    · exact ⟨_, _, hb1⟩
    · exact ⟨_, _, hb2⟩
    · exact ⟨_, _, hb3⟩
    · exact ⟨_, _, hb4⟩
  · have hn1 := (List.nodup_append.1 hnd).2.1
    have hn2 := (List.nodup_append.1 hn1).2.1
    have hn3 := (List.nodup_append.1 hn2).2.1
    have n12 : a1 ≠ a2 := fun e => nodup_mem hn1 (x := .cell a1.block a1.off) (by simp [MemPlace.row]) (by rw [e]; simp [MemPlace.row])
    have n13 : a1 ≠ a3 := fun e => nodup_mem hn1 (x := .cell a1.block a1.off) (by simp [MemPlace.row]) (by rw [e]; simp [MemPlace.row])
    have n14 : a1 ≠ a4 := fun e => nodup_mem hn1 (x := .cell a1.block a1.off) (by simp [MemPlace.row]) (by rw [e]; simp [MemPlace.row])
    have n23 : a2 ≠ a3 := fun e => nodup_mem hn2 (x := .cell a2.block a2.off) (by simp [MemPlace.row]) (by rw [e]; simp [MemPlace.row])
    have n24 : a2 ≠ a4 := fun e => nodup_mem hn2 (x := .cell a2.block a2.off) (by simp [MemPlace.row]) (by rw [e]; simp [MemPlace.row])
    have n34 : a3 ≠ a4 := fun e => nodup_mem hn3 (x := .cell a3.block a3.off) (by simp [MemPlace.row]) (by rw [e]; simp [MemPlace.row])
    have hc : c = 1 ∨ c = 2 ∨ c = 3 ∨ c = 4 := by omega
    have hd : d = 1 ∨ d = 2 ∨ d = 3 ∨ d = 4 := by omega
    rcases hc with rfl | rfl | rfl | rfl <;> rcases hd with rfl | rfl | rfl | rfl <;> first | exact hne rfl | exact n12 he | exact n13 he | exact n14 he | exact n23 he | exact n24 he | exact n34 he | exact n12 he.symm | exact n13 he.symm | exact n14 he.symm | exact n23 he.symm | exact n24 he.symm | exact n34 he.symm
end

/- A row's joined facts, one by one. No condition. -/
section
open Go
def jf1 (P : Program) (f : FuncId) (fn : Func) (s : ChangeSpec) (c : OpenClaim) : Bool := c.wf (OpenSpec.ofChange s)
def jf2 (P : Program) (f : FuncId) (fn : Func) (s : ChangeSpec) (c : OpenClaim) : Bool := laidOutB P
def jf3 (P : Program) (f : FuncId) (fn : Func) (s : ChangeSpec) (c : OpenClaim) : Bool := mapsRowed P
def jf4 (P : Program) (f : FuncId) (fn : Func) (s : ChangeSpec) (c : OpenClaim) : Bool := fn.params.all (P.readableRec ·)
def jf5 (P : Program) (f : FuncId) (fn : Func) (s : ChangeSpec) (c : OpenClaim) : Bool := namedTie P c.named s.vars
def jf6 (P : Program) (f : FuncId) (fn : Func) (s : ChangeSpec) (c : OpenClaim) : Bool := (c.stops == [])
def jf7 (P : Program) (f : FuncId) (fn : Func) (s : ChangeSpec) (c : OpenClaim) : Bool := (P.stops == [])
def jf8 (P : Program) (f : FuncId) (fn : Func) (s : ChangeSpec) (c : OpenClaim) : Bool := (c.knobs == [])
def jf9 (P : Program) (f : FuncId) (fn : Func) (s : ChangeSpec) (c : OpenClaim) : Bool := (P.stopKnobs == [])
def jf10 (P : Program) (f : FuncId) (fn : Func) (s : ChangeSpec) (c : OpenClaim) : Bool := (c.inPlace == P.inPlace f)
def jf11 (P : Program) (f : FuncId) (fn : Func) (s : ChangeSpec) (c : OpenClaim) : Bool := (c.unfollowed == P.unfollowed f)
def jf12 (P : Program) (f : FuncId) (fn : Func) (s : ChangeSpec) (c : OpenClaim) : Bool := (c.recurses == P.recurses f)
def jf13 (P : Program) (f : FuncId) (fn : Func) (s : ChangeSpec) (c : OpenClaim) : Bool := (c.named == P.varsNamed f)
def jf14 (P : Program) (f : FuncId) (fn : Func) (s : ChangeSpec) (c : OpenClaim) : Bool := (c.maps == (fn.params.toList ++ s.plain.varTypes P).any (P.mapsRec ·))
def jf15 (P : Program) (f : FuncId) (fn : Func) (s : ChangeSpec) (c : OpenClaim) : Bool := (c.ifaces == (fn.params.toList ++ s.plain.varTypes P).any (P.ifacesRec ·))
def jf16 (P : Program) (f : FuncId) (fn : Func) (s : ChangeSpec) (c : OpenClaim) : Bool := (c.mapsOut == P.mapsAmong fn.resultTypes.toList)
def jf17 (P : Program) (f : FuncId) (fn : Func) (s : ChangeSpec) (c : OpenClaim) : Bool := (c.loops == (fn.params.toList ++ s.plain.varTypes P).any (P.loopsFrom ·))
def jf18 (P : Program) (f : FuncId) (fn : Func) (s : ChangeSpec) (c : OpenClaim) : Bool := (c.wideKeys == (fn.params.toList ++ s.plain.varTypes P ++ fn.resultTypes.toList).any (P.wideKeysFrom ·))
def jf19 (P : Program) (f : FuncId) (fn : Func) (s : ChangeSpec) (c : OpenClaim) : Bool := s.vars.all (P.varReadable ·)
def jf20 (P : Program) (f : FuncId) (fn : Func) (s : ChangeSpec) (c : OpenClaim) : Bool := fn.resultTypes.all (fun t => P.readableRec t && decide (t < P.types.size))
def jf21 (P : Program) (f : FuncId) (fn : Func) (s : ChangeSpec) (c : OpenClaim) : Bool := (c.ifacesOut == fn.resultTypes.toList.any (P.ifacesRec ·))
def jf22 (P : Program) (f : FuncId) (fn : Func) (s : ChangeSpec) (c : OpenClaim) : Bool := (c.loopsOut == fn.resultTypes.toList.any (P.loopsFrom ·))
def jf23 (P : Program) (f : FuncId) (fn : Func) (s : ChangeSpec) (c : OpenClaim) : Bool := (c.plainKeys == P.plainKeys)
def jf24 (P : Program) (f : FuncId) (fn : Func) (s : ChangeSpec) (c : OpenClaim) : Bool := c.shortTexts.isNone
def jf25 (P : Program) (f : FuncId) (fn : Func) (s : ChangeSpec) (c : OpenClaim) : Bool := P.stopsHeard
def jf26 (P : Program) (f : FuncId) (fn : Func) (s : ChangeSpec) (c : OpenClaim) : Bool := P.mayEnter
def jf27 (P : Program) (f : FuncId) (fn : Func) (s : ChangeSpec) (c : OpenClaim) : Bool := (c.lifted == P.liftsFinal)
def jf28 (P : Program) (f : FuncId) (fn : Func) (s : ChangeSpec) (c : OpenClaim) : Bool := (P.make == some c.make)
def jf29 (P : Program) (f : FuncId) (fn : Func) (s : ChangeSpec) (c : OpenClaim) : Bool := (c.kinds == (if c.domain.isEmpty then [] else fn.params.toList.map fun t => match P.underlying t with | some (.int k) => some k | _ => none))
def jf30 (P : Program) (f : FuncId) (fn : Func) (s : ChangeSpec) (c : OpenClaim) : Bool := (c.pinned == c.pinnedBy)
def jf31 (P : Program) (f : FuncId) (fn : Func) (s : ChangeSpec) (c : OpenClaim) : Bool := (c.veiled == (fn.params.toList ++ s.plain.varTypes P ++ fn.resultTypes.toList).any (P.veiledRec ·))
def jf32 (P : Program) (f : FuncId) (fn : Func) (s : ChangeSpec) (c : OpenClaim) : Bool := c.veiledFits P fn.params.toList (fn.params.toList ++ s.plain.varTypes P ++ fn.resultTypes.toList)
theorem joined_of {P : Program} {f : FuncId} {fn : Func} {s : ChangeSpec} {c : OpenClaim}
    (h1 : jf1 P f fn s c = true)
    (h2 : jf2 P f fn s c = true)
    (h3 : jf3 P f fn s c = true)
    (h4 : jf4 P f fn s c = true)
    (h5 : jf5 P f fn s c = true)
    (h6 : jf6 P f fn s c = true)
    (h7 : jf7 P f fn s c = true)
    (h8 : jf8 P f fn s c = true)
    (h9 : jf9 P f fn s c = true)
    (h10 : jf10 P f fn s c = true)
    (h11 : jf11 P f fn s c = true)
    (h12 : jf12 P f fn s c = true)
    (h13 : jf13 P f fn s c = true)
    (h14 : jf14 P f fn s c = true)
    (h15 : jf15 P f fn s c = true)
    (h16 : jf16 P f fn s c = true)
    (h17 : jf17 P f fn s c = true)
    (h18 : jf18 P f fn s c = true)
    (h19 : jf19 P f fn s c = true)
    (h20 : jf20 P f fn s c = true)
    (h21 : jf21 P f fn s c = true)
    (h22 : jf22 P f fn s c = true)
    (h23 : jf23 P f fn s c = true)
    (h24 : jf24 P f fn s c = true)
    (h25 : jf25 P f fn s c = true)
    (h26 : jf26 P f fn s c = true)
    (h27 : jf27 P f fn s c = true)
    (h28 : jf28 P f fn s c = true)
    (h29 : jf29 P f fn s c = true)
    (h30 : jf30 P f fn s c = true)
    (h31 : jf31 P f fn s c = true)
    (h32 : jf32 P f fn s c = true)
    : joinedFacts P f fn s c = true := by
  unfold joinedFacts
  simp only [Bool.and_eq_true]
  exact ⟨⟨⟨⟨⟨⟨⟨⟨⟨⟨⟨⟨⟨⟨⟨⟨⟨⟨⟨⟨⟨⟨⟨⟨⟨⟨⟨⟨⟨⟨⟨h1, h2⟩, h3⟩, h4⟩, h5⟩, h6⟩, h7⟩, h8⟩, h9⟩, h10⟩, h11⟩, h12⟩, h13⟩, h14⟩, h15⟩, h16⟩, h17⟩, h18⟩, h19⟩, h20⟩, h21⟩, h22⟩, h23⟩, h24⟩, h25⟩, h26⟩, h27⟩, h28⟩, h29⟩, h30⟩, h31⟩, h32⟩
end

end Go.Proofs.YtbplehaogncjoaaGreatDoor