/- Part 4 of what the proof rests on. No condition. -/
import Derived.Test.YtnbipejaidbihaaGreatDoorZl3
set_option linter.unusedVariables false
set_option linter.unusedSimpArgs false
set_option maxRecDepth 100000
set_option maxHeartbeats 4000000
namespace Go.Proofs.YtnbipejaidbihaaGreatDoor
/- Package root: forms. No condition. -/
section
open Go Sx Wd
set_option exponentiation.threshold 5000

def RC (w : World) (ad : Addr) (l : List Value) : Prop := ∀ j v, l[j]? = some v → w.cell? (ad.add j) = some v
theorem RC.keep0 {w w' : World} {ad : Addr} {l : List Value} (h : RC w ad l) (hc : Chg [] w w') : RC w' ad l := fun j v hv => hc.cell (h j v hv) (by simp)
theorem RC.lt {w : World} {g : Nat} {l : List Value} (h : RC w ⟨g, 0, none⟩ l) (hl : 0 < l.length) : g < w.heap.size := by
  have h0 := h 0 _ (List.getElem?_eq_getElem hl)
  rw [add_addr] at h0
  apply Nat.lt_of_not_le
  intro hle
  have : w.heap[g]? = none := Array.getElem?_eq_none hle
  simp [World.cell?, this] at h0
theorem RC.keepBK {w w' : World} {g b : Nat} {T : TypeId} {l cs : List Value} (h : RC w ⟨g, 0, none⟩ l) (hb : BK w b T cs) (hc : Chg [b] w w') (_ : ∀ c ∈ cs, isU32 c = false) (hne : g ≠ b := by omega) : RC w' ⟨g, 0, none⟩ l := fun j v hv => hc.cell (h j v hv) (by rw [add_addr]; simpa using hne)
theorem RC.of_BK {w : World} {b : Nat} {T : TypeId} {l : List Value} (h : BK w b T l) : RC w ⟨b, 0, none⟩ l := fun j v hv => by rw [add_addr, Nat.zero_add]; exact h.at_ hv
def ratC (dx dy : Dy) (rx ry : Value) : List Value := [.bool dx.neg, rx, .int .i64 dx.e, .bool dy.neg, ry, .int .i64 dy.e]
def FmR (w : World) (u : Value) (x y : Option Dy) (sg : Int) : Prop :=
  (sg < 0 ∧ u = .tuple [.slice none 0 0, .int .i64 1].toArray) ∨
  (0 ≤ sg ∧ (x = none ∨ y = none) ∧ u = .tuple [.slice none 0 0, .int .i64 2].toArray) ∨
  (0 ≤ sg ∧ ∃ dx dy, x = some dx ∧ y = some dy ∧ dy.m = 0 ∧ u = .tuple [.slice none 0 0, .int .i64 21].toArray) ∨
  (0 ≤ sg ∧ ∃ dx dy, x = some dx ∧ y = some dy ∧ dy.m ≠ 0 ∧ ∃ g c rx ry, u = .tuple [.slice (some ⟨g, 0, none⟩) 1 c, .int .i64 0].toArray ∧ RC w ⟨g, 0, none⟩ (ratC dx dy rx ry) ∧ NU w rx (wd dx.m) ∧ NU w ry (wd dy.m))
structure KF1 (sg : Int) (w0 : World) (i : Nat) (w : World) : Prop where
  hi : i ≤ 1
  s : i = 1 → 0 ≤ sg
  ch : Chg [] w0 w
structure KF2 (x y : Option Dy) (w0 : World) (g : Nat × Value) (w : World) : Prop where
  hi : g.1 ≤ 1
  z : g.1 = 0 → g.2 = .slice none 0 0
  o : g.1 = 1 → ∃ dx dy ad c rx ry, x = some dx ∧ y = some dy ∧ g.2 = .slice (some ⟨ad, 0, none⟩) 1 c ∧ RC w ⟨ad, 0, none⟩ (ratC dx dy rx ry) ∧ NU w rx (wd dx.m) ∧ NU w ry (wd dy.m)
  ch : Chg [] w0 w
structure KF3 (dx dy : Dy) (rx ry : Value) (ad : Nat) (w0 : World) (i : Nat) (w : World) : Prop where
  hi : i ≤ 1
  z : i = 1 → dy.m ≠ 0
  rc : RC w ⟨ad, 0, none⟩ (ratC dx dy rx ry)
  hx : NU w rx (wd dx.m)
  hy : NU w ry (wd dy.m)
  ch : Chg [] w0 w
theorem sgD_zero {neg : Bool} {n : Nat} : sgD neg n = 0 ↔ n = 0 := by
  unfold sgD
  by_cases h : n = 0
  · rw [if_pos h]; simp [h]
  · rw [if_neg h]; cases neg <;> simp [h]

theorem forms_spec (b : Nat) (nn nd : Bool) (vn vd : Value) (ln ld : List Nat) (en ed : Int) (w : World) (hB : BK w b 208 [.bool nn, vn, .int .i64 en, .bool nd, vd, .int .i64 ed]) (hn : NU w vn ln) (hd : NU w vd ld) (hg : GW w) (hen : -9223372036854775808 ≤ en ∧ en ≤ 9223372036854775807) (hed : -9223372036854775808 ≤ ed ∧ ed ≤ 9223372036854775807) : Ret Tryz.prog 282 [.slice (some ⟨b, 0, none⟩) 1 1] w fun u w' => FmR w' u (formD nn (val ln) en) (formD nd (val ld) ed) (sgD nd (val ld)) ∧ Chg [] w w' := by
 have hch := crf w;have hB0 := hB;have hn0 := hn;have hd0 := hd;have hon := hn.one;have hod := hd.one;have hg0 := hg;refine zE1 Tryz.func282 rfl ?_;refine Sr fun _ kh1 => za rfl (za rfl (zz (kh1 (zc fun _ kh3 => Sr fun _ kh4 => zm rfl (zn rfl (zm rfl (zz (kh4 (CW.block ?_)))))))));refine CW.loop (S := fun i : Nat => [(0, .slice (some ⟨b, 0, none⟩) 1 1), (15, .slice (some ⟨b, 0, none⟩) 1 1), (16, .int .i64 1), (17, .int .i64 (i : Int))]) (Inv := KF1 (sgD nd (val ld)) w) (mu := fun i => 1 - i) (0) ?_ ?_ ?_
 ·exact ⟨by decide, fun h => (by cases h), hch⟩
 ·exact SLp
 rintro i wr ⟨hi1, hs1, hch⟩;have hB := hB0.keep0 hch;have hn := hn0.keep0 hch;have hd := hd0.keep0 hch;refine Sr fun _ kh6 => zL rfl rfl (zz (kh6 (zc fun _ kh8 => ?_)));refine zy rfl ?_ ?_<;>intro hc1<;>try simp only [qs] at hc1
 ·have hi0 : i = 0 := by omega
  subst hi0;refine zkk (kh8 (zc fun _ kh9 => CW.block (Sr fun _ kh10 => ?_)));refine WL.ev (Ev.indexAddr rfl rfl (by omega) (by omega)) rfl ?_;rw [show 0 + ((0 : Nat) : Int).toNat * 6 = 0 from rfl];refine zg hB rfl ?_;refine WL.allocB (l := [.bool false, .slice none 0 0, .int .i64 0, .bool false, .slice none 0 0, .int .i64 0]) rfl rfl fun b5 wm5 hb5 hcm5 hge5 => ?_;have hgehch5 := Nat.le_trans hch.size hge5;have hch := hch.ta hcm5;have hd := hd.keep0 hcm5;have hneb5 : b ≠ b5 := by have := hB.lt; omega
  refine zss rfl rfl ao hb5 rfl fun ws2 hb5_ hcs2 => ?_;(try simp only [Sx.splice, qt] at hb5_);have hch := hch.s1 hcs2;have hd := hd.keepBK hb5 hcs2 an;have hb5 := hb5_;refine zz (kh10 (Sr fun _ kh12 => zf rfl ?_));refine WL.ev (Ev.loadB rfl rfl hb5 rfl rfl) rfl ?_;simp only [List.drop_succ_cons, List.drop_zero, List.take_succ_cons, List.take_zero];refine WL.call hasF93 rfl rfl (Sign_dspec nd vd ld ed _ hd) fun v w1 h' => ?_;obtain ⟨rfl, hC23⟩ := h';have hch := hch.ta hC23;refine zL rfl rfl (zz (kh12 ?_));refine zy rfl ?_ ?_<;>intro hc2<;>try simp only [qs] at hc2
  ·have hs2 : sgD nd (val ld) < 0 := hc2
   refine Sr fun _ kh14 => za rfl (za rfl (zz (kh14 ?_)));refine zr (zr2 rfl rfl rfl ?_);exact ⟨.inl ⟨hs2, rfl⟩, hch⟩
  have hs2 : 0 ≤ sgD nd (val ld) := by have := hc2; omega
  refine zkk (kh9 (zS fun _ kr16 => ?_));(first | refine zi rfl rfl ?_ | refine zo rfl rfl ?_);refine zm rfl (zz (kr16 ?_));refine ⟨rfl, 1, ?_, ?_, ?_⟩
  ·exact SLp
  ·exact ⟨by decide, fun _ => hs2, hch⟩
  decide
 have hi0 : i = 1 := by omega
 subst hi0;have hs1 := hs1 rfl;refine CW.exit ?_;refine kh3 (Sr fun _ kh17 => za rfl (zz (kh17 (zc fun _ kh19 => Sr fun _ kh20 => zm rfl (zn rfl (zm rfl (zz (kh20 (CW.block ?_)))))))));refine CW.loop (S := fun g : Nat × Value => [(0, .slice (some ⟨b, 0, none⟩) 1 1), (6, g.2), (26, .slice (some ⟨b, 0, none⟩) 1 1), (27, .int .i64 1), (28, .int .i64 (g.1 : Int))]) (Inv := KF2 (formD nn (val ln) en) (formD nd (val ld) ed) w) (mu := fun g => 1 - g.1) ((0, .slice none 0 0)) ?_ ?_ ?_
 ·exact ⟨by decide, fun _ => rfl, fun h => (by cases h), hch⟩
 ·exact SLp
 rintro ⟨i, vo⟩ wr ⟨hi1, hz, ho, hch⟩;dsimp only at hi1 hz ho hch;dsimp only;have hB := hB0.keep0 hch;have hn := hn0.keep0 hch;have hd := hd0.keep0 hch;refine Sr fun _ kh22 => zL rfl rfl (zz (kh22 (zc fun _ kh24 => ?_)));refine zy rfl ?_ ?_<;>intro hc3<;>try simp only [qs] at hc3
 ·have hi0 : i = 0 := by omega
  subst hi0;obtain rfl := hz rfl;refine zkk (kh24 (zc fun _ kh25 => CW.block (Sr fun _ kh26 => ?_)));refine WL.ev (Ev.indexAddr rfl rfl (by omega) (by omega)) rfl ?_;rw [show 0 + ((0 : Nat) : Int).toNat * 6 = 0 from rfl];refine zg hB rfl ?_;refine WL.allocB (l := [.bool false, .slice none 0 0, .int .i64 0, .bool false, .slice none 0 0, .int .i64 0]) rfl rfl fun b8 wm8 hb8 hcm8 hge8 => ?_;have hgehch8 := Nat.le_trans hch.size hge8;have hch := hch.ta hcm8;have hn := hn.keep0 hcm8;have hd := hd.keep0 hcm8;have hneb8 : b ≠ b8 := by have := hB.lt; omega
  have hB := hB.keep0 hcm8;refine zss rfl rfl ao hb8 rfl fun ws3 hb8_ hcs3 => ?_;(try simp only [Sx.splice, qt] at hb8_);have hch := hch.s1 hcs3;have hB := hB.kq hcs3;have hn := hn.keepBK hb8 hcs3 an;have hd := hd.keepBK hb8 hcs3 an;have hb8 := hb8_;refine zz (kh26 (Sr fun _ kh28 => zf rfl (zf rfl (zl hb8 rfl rfl (zf rfl (zf rfl (zl hb8 rfl rfl (zf rfl (zf rfl (zl hb8 rfl rfl ?_))))))))));refine WL.call hasF128 rfl rfl (Make_spec nn vn ln en _ hn (hg0.keep0 hch) hen) fun v w2 h' => ?_;obtain ⟨hD42, hC42⟩ := h';have hch := hch.ta hC42;have hB := hB.keep0 hC42;have hb8 := hb8.k0 hC42;have hd := hd.keep0 hC42;rcases hD42 with ⟨rx, dx, he42, rfl, hNx⟩ | ⟨he42, rfl⟩
  ·refine zm rfl (zx rfl rfl (zx rfl rfl ?_));refine zAh rfl rfl hch fun b9 wm9 hb9 hcm9 hge9 hgehch9 hch => ?_;have hd := hd.keep0 hcm9;have hNx := hNx.keep0 hcm9;have hneb9 : b ≠ b9 := by have := hB.lt; omega
   have hB := hB.keep0 hcm9;have hneb89 := zdd hb8.lt hge9;have hb8 := hb8.k0 hcm9;refine zss rfl rfl ao hb9 rfl fun ws4 hb9_ hcs4 => ?_;(try simp only [Sx.splice, qt] at hb9_);have hch := hch.s1 hcs4;have hB := hB.kq hcs4;have hb8 := hb8.kq hcs4;have hd := hd.keepBK hb9 hcs4 an;have hNx := hNx.keepBK hb9 hcs4 an;have hb9 := hb9_;refine za rfl (zz (kh28 (Sr fun _ kh30 => zf rfl (zf rfl (zl hb8 rfl rfl (zf rfl (zf rfl (zl hb8 rfl rfl (zf rfl (zf rfl (zl hb8 rfl rfl ?_)))))))))));refine WL.call hasF128 rfl rfl (Make_spec nd vd ld ed _ hd (hg0.keep0 hch) hed) fun v w3 h' => ?_;obtain ⟨hD55, hC55⟩ := h';have hch := hch.ta hC55;have hB := hB.keep0 hC55;have hb9 := hb9.k0 hC55;have hNx := hNx.keep0 hC55;rcases hD55 with ⟨ry, dy, he55, rfl, hNy⟩ | ⟨he55, rfl⟩
   ·refine zm rfl (zx rfl rfl (zx rfl rfl ?_));refine zAh rfl rfl hch fun b11 wm11 hb11 hcm11 hge11 hgehch11 hch => ?_;have hNx := hNx.keep0 hcm11;have hNy := hNy.keep0 hcm11;have hneb11 : b ≠ b11 := by have := hB.lt; omega
    have hneb911 := zdd hb9.lt hge11;have hb9 := hb9.k0 hcm11;refine zss rfl rfl ao hb11 rfl fun ws5 hb11_ hcs5 => ?_;(try simp only [Sx.splice, qt] at hb11_);have hch := hch.s1 hcs5;have hb9 := hb9.kq hcs5;have hNx := hNx.keepBK hb11 hcs5 an;have hNy := hNy.keepBK hb11 hcs5 an;have hb11 := hb11_;refine za rfl (zz (kh30 (zc fun _ kh32 => Sr fun _ kh33 => zm rfl (zN rfl rfl (zm rfl (zw rfl (zm rfl (zw rfl (zN rfl rfl (ze rfl rfl (zz (kh33 ?_))))))))))));refine CW.condF rfl ?_;refine zkk (kh32 ?_);refine zR fun _ kr35 => ?_;refine zm rfl (zg hb9 rfl (zg hb11 rfl ?_));refine WL.ev (Ev.build (vs := _) (cs := [_, _, _, _, _, _]) rfl rfl) rfl ?_;refine WL.buildSlice (m := 1) (cs := [.bool dx.neg, rx, .int .i64 dx.e, .bool dy.neg, ry, .int .i64 dy.e]) (by decide) (by decide) rfl (by kernel_rfl) rfl fun b68 w68 hn68 => ?_;have hcm68 := hn68.chg;have hb68 : BK w68 b68 _ [.bool dx.neg, rx, .int .i64 dx.e, .bool dy.neg, ry, .int .i64 dy.e] := hn68.at_;have hch := hch.trans hcm68;have hNx := hNx.keep0 hcm68;have hNy := hNy.keep0 hcm68;have hrc68 := RC.of_BK hb68;refine WL.append (news := [.bool dx.neg, rx, .int .i64 dx.e, .bool dy.neg, ry, .int .i64 dy.e]) (xs := []) (m := 0) (by rfl) (by decide) rfl rfl ⟨rfl, .inl ⟨rfl, rfl⟩⟩ rfl hrc68 (by intro v hv; simp only [List.mem_cons, List.not_mem_nil, or_false] at hv; rcases hv with rfl | rfl | rfl | rfl | rfl | rfl <;> first | rfl | exact NU.one (by assumption)) (by decide) (by decide) rfl fun v69 w69 ho69 hc69 hl69 => ?_;have hc69 : Chg [] w68 w69 := by simpa [Value.ownBlock] using hc69
    have hch := hch.trans hc69;have hNx := hNx.keep0 hc69;have hNy := hNy.keep0 hc69;rcases own_cases ho69 with ⟨_, h0, _⟩ | ⟨g69, cap69, rfl, _, _, hcells⟩
    · cases h0
    have hrc : RC w69 ⟨g69, 0, none⟩ (ratC dx dy rx ry) := fun j v hv => by rw [add_addr, Nat.zero_add]; exact hcells j v hv
    refine za rfl ?_;refine WL.nil (kr35 _ _ _ (kh25 ?_));refine zS fun _ kr36 => ?_;(first | refine zi rfl rfl ?_ | refine zo rfl rfl ?_);refine zm rfl (zz (kr36 ?_));refine ⟨rfl, (1, .slice (some ⟨g69, 0, none⟩) 1 cap69), ?_, ?_, ?_⟩
    ·exact SLp
    ·exact ⟨Nat.le_refl 1, fun h => (by cases h), fun _ => ⟨dx, dy, g69, cap69, rx, ry, he42, he55, rfl, hrc, hNx, hNy⟩, hch⟩
    show 1 - 1 < 1 - 0; decide
   refine zm rfl (zx rfl rfl (zx rfl rfl ?_));refine zAh rfl rfl hch fun b11 wm11 hb11 hcm11 hge11 hgehch11 hch => ?_;have hneb11 : b ≠ b11 := by have := hB.lt; omega
   refine zss rfl rfl ao hb11 rfl fun ws6 hb11_ hcs6 => ?_;have hch := hch.s1 hcs6;refine za rfl (zz (kh30 (zc fun _ kh37 => Sr fun _ kh38 => zm rfl (zN rfl rfl (zm rfl (zw rfl (zm rfl (zw rfl (zN rfl rfl (ze rfl rfl (zz (kh38 ?_))))))))))));refine CW.condT rfl ?_;refine Sr fun _ kh40 => za rfl (za rfl (zz (kh40 ?_)));refine zr (zr2 rfl rfl rfl ?_);exact ⟨.inr (.inl ⟨hs1, by first | exact .inl he42 | exact .inr he55, rfl⟩), hch⟩
  refine zm rfl (zx rfl rfl (zx rfl rfl ?_));refine zAh rfl rfl hch fun b9 wm9 hb9 hcm9 hge9 hgehch9 hch => ?_;have hd := hd.keep0 hcm9;have hneb9 : b ≠ b9 := by have := hB.lt; omega
  have hB := hB.keep0 hcm9;have hneb89 := zdd hb8.lt hge9;have hb8 := hb8.k0 hcm9;refine zss rfl rfl ao hb9 rfl fun ws7 hb9_ hcs7 => ?_;have hch := hch.s1 hcs7;have hB := hB.kq hcs7;have hb8 := hb8.kq hcs7;have hd := hd.keepBK hb9 hcs7 an;refine za rfl (zz (kh28 (Sr fun _ kh42 => zf rfl (zf rfl (zl hb8 rfl rfl (zf rfl (zf rfl (zl hb8 rfl rfl (zf rfl (zf rfl (zl hb8 rfl rfl ?_)))))))))));refine WL.call hasF128 rfl rfl (Make_spec nd vd ld ed _ hd (hg0.keep0 hch) hed) fun v w4 h' => ?_;obtain ⟨hD55, hC55⟩ := h';have hch := hch.ta hC55;have hB := hB.keep0 hC55;rcases hD55 with ⟨ry, dy, he55, rfl, hNy⟩ | ⟨he55, rfl⟩
  ·refine zm rfl (zx rfl rfl (zx rfl rfl ?_));refine zAh rfl rfl hch fun b11 wm11 hb11 hcm11 hge11 hgehch11 hch => ?_;have hneb11 : b ≠ b11 := by have := hB.lt; omega
   refine zss rfl rfl ao hb11 rfl fun ws8 hb11_ hcs8 => ?_;have hch := hch.s1 hcs8;refine za rfl (zz (kh42 (zc fun _ kh44 => Sr fun _ kh45 => zm rfl (zN rfl rfl (zm rfl (zv rfl (zv rfl (zt rfl rfl (zz (kh45 ?_))))))))));refine CW.condT rfl ?_;refine Sr fun _ kh47 => za rfl (za rfl (zz (kh47 ?_)));refine zr (zr2 rfl rfl rfl ?_);exact ⟨.inr (.inl ⟨hs1, by first | exact .inl he42 | exact .inr he55, rfl⟩), hch⟩
  refine zm rfl (zx rfl rfl (zx rfl rfl ?_));refine zAh rfl rfl hch fun b11 wm11 hb11 hcm11 hge11 hgehch11 hch => ?_;have hneb11 : b ≠ b11 := by have := hB.lt; omega
  refine zss rfl rfl ao hb11 rfl fun ws9 hb11_ hcs9 => ?_;have hch := hch.s1 hcs9;refine za rfl (zz (kh42 (zc fun _ kh49 => Sr fun _ kh50 => zm rfl (zN rfl rfl (zm rfl (zv rfl (zv rfl (zt rfl rfl (zz (kh50 ?_))))))))));refine CW.condT rfl ?_;refine Sr fun _ kh52 => za rfl (za rfl (zz (kh52 ?_)));refine zr (zr2 rfl rfl rfl ?_);exact ⟨.inr (.inl ⟨hs1, by first | exact .inl he42 | exact .inr he55, rfl⟩), hch⟩
 have hi0 : i = 1 := by omega
 subst hi0;obtain ⟨dx, dy, ad, c, rx, ry, hex, hey, rfl, hrc, hNx, hNy⟩ := ho rfl;refine CW.exit ?_;refine kh19 (zc fun _ kh54 => Sr fun _ kh55 => zm rfl (zn rfl (zm rfl (zz (kh55 (CW.block ?_))))));refine CW.loop (S := fun i : Nat => [(6, .slice (some ⟨ad, 0, none⟩) 1 c), (71, .slice (some ⟨ad, 0, none⟩) 1 c), (72, .int .i64 1), (73, .int .i64 (i : Int))]) (Inv := KF3 dx dy rx ry ad w) (mu := fun i => 1 - i) (0) ?_ ?_ ?_
 ·exact ⟨by decide, fun h => (by cases h), hrc, hNx, hNy, hch⟩
 ·exact SLp
 rintro i wr ⟨hi1, hz3, hrc, hNx, hNy, hch⟩;have hrl := hrc.lt (by simp [ratC]);refine Sr fun _ kh57 => zL rfl rfl (zz (kh57 (zc fun _ kh59 => ?_)));refine zy rfl ?_ ?_<;>intro hc4<;>try simp only [qs] at hc4
 ·have hi0 : i = 0 := by omega
  subst hi0;refine zkk (kh59 (zc fun _ kh60 => CW.block (Sr fun _ kh61 => ?_)));refine WL.ev (Ev.indexAddr rfl rfl (by omega) (by omega)) rfl ?_;rw [show 0 + ((0 : Nat) : Int).toNat * 6 = 0 from rfl];refine WL.ev (Ev.loadAgg (cs := ratC dx dy rx ry) rfl rfl rfl hrc) rfl ?_;unfold ratC;refine WL.allocB (l := [.bool false, .slice none 0 0, .int .i64 0, .bool false, .slice none 0 0, .int .i64 0]) rfl rfl fun b14 wm14 hb14 hcm14 hge14 => ?_;have hgehch14 := Nat.le_trans hch.size hge14;have hch := hch.ta hcm14;have hrc := hrc.keep0 hcm14;have hNx := hNx.keep0 hcm14;have hNy := hNy.keep0 hcm14;refine zss rfl rfl ao hb14 rfl fun ws10 hb14_ hcs10 => ?_;(try simp only [Sx.splice, qt] at hb14_);have hch := hch.s1 hcs10;have hrc := hrc.keepBK hb14 hcs10 an;have hNx := hNx.keepBK hb14 hcs10 an;have hNy := hNy.keepBK hb14 hcs10 an;have hb14 := hb14_;refine zz (kh61 (Sr fun _ kh63 => zf rfl ?_));refine WL.ev (Ev.loadB rfl rfl hb14 rfl rfl) rfl ?_;simp only [List.drop_succ_cons, List.drop_zero, List.take_succ_cons, List.take_zero];refine WL.call hasF93 rfl rfl (Sign_dspec dy.neg ry (wd dy.m) dy.e _ hNy) fun v w5 h' => ?_;obtain ⟨rfl, hC79⟩ := h';rw [val_wd];have hch := hch.ta hC79;have hrc := hrc.keep0 hC79;have hNx := hNx.keep0 hC79;have hNy := hNy.keep0 hC79;refine zq rfl rfl (zz (kh63 ?_));refine zy rfl ?_ ?_<;>intro hc5<;>try simp only [qs] at hc5
  ·have hy0 : dy.m = 0 := sgD_zero.1 hc5
   refine Sr fun _ kh65 => za rfl (za rfl (zz (kh65 ?_)));refine zr (zr2 rfl rfl rfl ?_);exact ⟨.inr (.inr (.inl ⟨hs1, dx, dy, hex, hey, hy0, rfl⟩)), hch⟩
  have hy0 : dy.m ≠ 0 := fun e => hc5 (sgD_zero.2 e);refine zkk (kh60 (zS fun _ kr67 => ?_));(first | refine zi rfl rfl ?_ | refine zo rfl rfl ?_);refine zm rfl (zz (kr67 ?_));refine ⟨rfl, 1, ?_, ?_, ?_⟩
  ·exact SLp
  ·exact ⟨by decide, fun _ => hy0, hrc, hNx, hNy, hch⟩
  decide
 have hi0 : i = 1 := by omega
 subst hi0;have hy0 := hz3 rfl;refine CW.exit ?_;refine kh54 (Sr fun _ kh68 => zm rfl (za rfl (za rfl (zz (kh68 ?_)))));refine zr (zr2 rfl rfl rfl ?_);exact ⟨.inr (.inr (.inr ⟨hs1, dx, dy, hex, hey, hy0, ad, c, rx, ry, rfl, hrc, hNx, hNy⟩)), hch⟩

end

/- Package root: rounded, Quot. No condition. -/
section
open Go Sx Wd
set_option exponentiation.threshold 5000

theorem formD_val {neg : Bool} {n : Nat} {e : Int} {d : Dy} (h : formD neg n e = some d) (h0 : n ≠ 0) : ∃ t : Nat, n = d.m * 2 ^ t ∧ d.e = e + t ∧ d.neg = neg := by
  unfold formD at h
  rw [if_neg h0] at h
  split at h
  · cases h
  · cases h; exact ⟨tz n, (tz_spec h0).2, rfl, rfl⟩
theorem dy_congr {m : Nat} {e e' : Int} {t : Nat} (he : e' = e + t) : dyA m e' * dyB e = dyA (m * 2 ^ t) e * dyB e' := by
  unfold dyA dyB
  rw [Nat.mul_assoc, Nat.mul_assoc, Nat.mul_assoc, ← Nat.pow_add, ← Nat.pow_add, ← Nat.pow_add]
  congr 2
  omega
def QuotP (nn nd : Bool) (ln ld : Nat) (en ed mode : Int) (bits : Nat) (e : Int) : Prop :=
  (¬ (0 ≤ mode ∧ mode ≤ 4) ∧ bits = 0 ∧ e = 1) ∨ ((0 ≤ mode ∧ mode ≤ 4) ∧
    ((sgD nd ld < 0 ∧ bits = 0 ∧ e = 1) ∨ (0 ≤ sgD nd ld ∧ (formD nn ln en = none ∨ formD nd ld ed = none) ∧ bits = 0 ∧ e = 2) ∨
     (0 ≤ sgD nd ld ∧ ∃ x y, formD nn ln en = some x ∧ formD nd ld ed = some y ∧ ((y.m = 0 ∧ bits = 0 ∧ e = 21) ∨
       (y.m ≠ 0 ∧ ∃ r, IsNear (dyA x.m (x.e - y.e)) (y.m * dyB (x.e - y.e)) x.neg mode r ∧ r ≤ 9218868437227405312 ∧ bits = (if x.neg then r + 9223372036854775808 else r) ∧ e = 0)))))
theorem aboutD_ok {neg : Bool} {m : Nat} {cut : Bool} {e : Int} (h : m < 2 ^ 82) : (aboutD neg m cut e).ok := by
  obtain ⟨d, hd⟩ := about_form (neg := neg) (cut := cut) (e := e) h
  have : aboutD neg m cut e = d := by unfold aboutD; rw [hd]; rfl
  rw [this]; exact formD_ok hd
theorem quot_round {x y : Dy} (hx : x.ok) (hy : y.ok) (hy0 : y.m ≠ 0) {size a : Nat} {mode : Int} {bits : Nat} {e : Int} (hm : 0 ≤ mode ∧ mode ≤ 4)
    (hD : DigI (x.m * 2 ^ (max 0 (-((bl x.m : Int) - (bl y.m : Int)))).toNat) (y.m * 2 ^ (max 0 ((bl x.m : Int) - (bl y.m : Int))).toNat) 82 size a)
    (hR : RoundR (formD (aboutD x.neg size (decide (a ≠ 0)) ((bl x.m : Int) - (bl y.m : Int) - 81 + x.e - y.e)).neg (aboutD x.neg size (decide (a ≠ 0)) ((bl x.m : Int) - (bl y.m : Int) - 81 + x.e - y.e)).m (aboutD x.neg size (decide (a ≠ 0)) ((bl x.m : Int) - (bl y.m : Int) - 81 + x.e - y.e)).e) mode bits e) :
    ∃ r, IsNear (dyA x.m (x.e - y.e)) (y.m * dyB (x.e - y.e)) x.neg mode r ∧ r ≤ 9218868437227405312 ∧ bits = (if x.neg then r + 9223372036854775808 else r) ∧ e = 0 := by
  obtain ⟨d, hd⟩ := about_form (neg := x.neg) (cut := decide (a ≠ 0)) (e := (bl x.m : Int) - (bl y.m : Int) - 81 + x.e - y.e) hD.w
  have hdd : aboutD x.neg size (decide (a ≠ 0)) ((bl x.m : Int) - (bl y.m : Int) - 81 + x.e - y.e) = d := by unfold aboutD; rw [hd]; rfl
  rw [hdd, formD_self (formD_ok hd)] at hR
  rcases hR with ⟨h, _⟩ | ⟨_, ⟨h, _⟩ | ⟨d2, r, h, hN, hr, hb, he⟩⟩
  · exact absurd hm h
  · cases h
  cases h
  by_cases h0 : x.m = 0
  · -- nought
    have hz := hx.z h0
    have hs : size = 0 ∧ a = 0 := by
      obtain ⟨h3, _⟩ := hD.s (by decide)
      rw [h0, Nat.zero_mul, Nat.zero_mul] at h3
      have hB : 0 < y.m * 2 ^ (max 0 ((bl 0 : Int) - (bl y.m : Int))).toNat := Nat.mul_pos (by omega) (Nat.two_pow_pos _)
      have h4 : size * (y.m * 2 ^ (max 0 ((bl 0 : Int) - (bl y.m : Int))).toNat) = 0 := by omega
      rcases Nat.mul_eq_zero.1 h4 with q | q
      · exact ⟨q, by omega⟩
      · omega
    have hm0 : aboutM size (decide (a ≠ 0)) = 0 := by unfold aboutM; rw [hs.1, hs.2]; rfl
    rw [hm0, formD_zero] at hd
    cases hd
    have e1 : dyA Dy.zero.m Dy.zero.e = 0 := by unfold dyA Dy.zero; simp
    rw [e1] at hN
    have hr0 := hN.unique (dyB_pos _) (near_zero (dyB_pos _) _ _)
    subst hr0
    have hxn : x.neg = false := by rw [hz]; rfl
    refine ⟨0, ?_, by decide, ?_, he⟩
    · rw [h0, show dyA 0 (x.e - y.e) = 0 by unfold dyA; simp]
      exact near_zero (Nat.mul_pos (by omega) (dyB_pos _)) _ _
    · rw [hb, hxn]; rfl
  · have hM0 : aboutM size (decide (a ≠ 0)) ≠ 0 := by
      have hl := (digits_low h0 hy0 rfl).2
      have := dig_size hD (by decide) hl
      unfold aboutM
      omega
    obtain ⟨t, h1, h2, h3⟩ := formD_val hd hM0
    rw [h3] at hN hb
    have hN2 := hN.congr (B' := dyB (aboutE ((bl x.m : Int) - (bl y.m : Int) - 81 + x.e - y.e))) (dyB_pos _) (dyB_pos _) (dy_congr h2)
    rw [← h1] at hN2
    refine ⟨r, near_quot (a := a) h0 hy0 rfl hm hD (e := aboutE ((bl x.m : Int) - (bl y.m : Int) - 81 + x.e - y.e)) (by unfold aboutE; congr 2; omega) ?_, hr, hb, he⟩
    have e5 : aboutM size (decide (a ≠ 0)) = 2 * size + if a = 0 then 0 else 1 := by
      unfold aboutM
      by_cases q : a = 0
      · simp [q]
      · simp [q]
    rw [e5] at hN2
    exact hN2

theorem rounded_spec (nn nd : Bool) (vn vd : Value) (ln ld : List Nat) (en ed mode : Int) (w : World) (hn : NU w vn ln) (hd : NU w vd ld) (hg : GW w) (hen : -9223372036854775808 ≤ en ∧ en ≤ 9223372036854775807) (hed : -9223372036854775808 ≤ ed ∧ ed ≤ 9223372036854775807) : Ret Tryz.prog 200 [.agg [.bool nn, vn, .int .i64 en, .bool nd, vd, .int .i64 ed].toArray, .int .i64 mode, .bool false, .func (.func 95) #[] #[]] w fun u w' => (∃ bits e, u = .tuple [.float .f64 bits, .int .i64 e].toArray ∧ QuotP nn nd (val ln) (val ld) en ed mode bits e) ∧ Chg [] w w' := by
 have hch := crf w;have hon := hn.one;have hod := hd.one;have hg0 := hg;refine zE4 Tryz.func200 rfl ?_;refine Sr fun _ kh1 => ?_;refine zBh rfl rfl rfl hch fun b4 wm4 hb4 hcm4 hge4 hgehch4 hch => ?_;have hn := hn.keep0 hcm4;have hd := hd.keep0 hcm4;refine za rfl (za rfl (zz (kh1 (zc fun _ kh3 => ?_))));refine CW.seqM 17 (decide (¬ (0 ≤ mode ∧ mode ≤ 4))) ?_ ?_
 ·refine zS fun _ kr4 => zm rfl (zL rfl rfl (zm rfl ?_));refine zb ?_ ?_<;>intro hg1<;>try simp only [qs] at hg1
  ·refine zv rfl (zv rfl (zt rfl rfl (zz (kr4 ?_))));refine ⟨rfl, rfl, Subs.consB rfl ?_ ?_⟩
   ·first | (simp; omega) | (refine decide_eq_decide.2 ?_; omega)
   exact SMg
  refine zw rfl (zm rfl (zw rfl (zG rfl rfl (ze rfl rfl (zz (kr4 ?_))))));refine ⟨rfl, rfl, Subs.consB rfl ?_ ?_⟩
  ·first | (simp; omega) | (refine decide_eq_decide.2 ?_; omega)
  exact SMg
 refine zy rfl ?_ ?_<;>intro hc2<;>try simp only [qs] at hc2
 ·have hmode : ¬ (0 ≤ mode ∧ mode ≤ 4) := hc2
  refine Sr fun _ kh5 => za rfl (za rfl (zz (kh5 ?_)));refine zr (zr2 rfl rfl rfl ?_);refine ⟨⟨_, _, rfl, .inl ⟨hmode, rfl, rfl⟩⟩, hch⟩
 have hmode : 0 ≤ mode ∧ mode ≤ 4 := by have := hc2; omega
 refine zkk (kh3 (Sr fun _ kh7 => zg hb4 rfl ?_));refine WL.buildSlice (m := 1) (cs := [.bool nn, vn, .int .i64 en, .bool nd, vd, .int .i64 ed]) (by decide) (by decide) rfl (by kernel_rfl) rfl fun b20 w20 hn20 => ?_;have hcm20 := hn20.chg;have hb20 : BK w20 b20 208 [.bool nn, vn, .int .i64 en, .bool nd, vd, .int .i64 ed] := hn20.at_;have hch := hch.trans hcm20;have hn := hn.keep0 hcm20;have hd := hd.keep0 hcm20;refine WL.call hasF282 rfl rfl (forms_spec b20 nn nd vn vd ln ld en ed _ hb20 hn hd (hg0.keep0 hch) hen hed) fun v w1 h' => ?_;obtain ⟨hF, hC21⟩ := h';have hch := hch.ta hC21;rcases hF with ⟨hsg, rfl⟩ | ⟨hsg, hno, rfl⟩ | ⟨hsg, dx, dy, hex, hey, hy0, rfl⟩ | ⟨hsg, dx, dy, hex, hey, hy0, gg, cc, rx, ry, rfl, hrc, hNx, hNy⟩
 ·refine zm rfl (zx rfl rfl (zx rfl rfl (za rfl (za rfl (zz (kh7 (zc fun _ kh9 => CW.block (Sr fun _ kh10 => zm rfl (zN rfl rfl (za rfl (zz (kh10 ?_))))))))))));refine CW.condT rfl ?_;refine Sr fun _ kh12 => zm rfl (za rfl (za rfl (zz (kh12 ?_))));refine zr (zr2 rfl rfl rfl ?_);refine ⟨⟨_, _, rfl, .inr ⟨hmode, .inl ⟨hsg, rfl, rfl⟩⟩⟩, hch⟩
 ·refine zm rfl (zx rfl rfl (zx rfl rfl (za rfl (za rfl (zz (kh7 (zc fun _ kh14 => CW.block (Sr fun _ kh15 => zm rfl (zN rfl rfl (za rfl (zz (kh15 ?_))))))))))));refine CW.condT rfl ?_;refine Sr fun _ kh17 => zm rfl (za rfl (za rfl (zz (kh17 ?_))));refine zr (zr2 rfl rfl rfl ?_);refine ⟨⟨_, _, rfl, .inr ⟨hmode, .inr (.inl ⟨hsg, hno, rfl, rfl⟩)⟩⟩, hch⟩
 ·refine zm rfl (zx rfl rfl (zx rfl rfl (za rfl (za rfl (zz (kh7 (zc fun _ kh19 => CW.block (Sr fun _ kh20 => zm rfl (zN rfl rfl (za rfl (zz (kh20 ?_))))))))))));refine CW.condT rfl ?_;refine Sr fun _ kh22 => zm rfl (za rfl (za rfl (zz (kh22 ?_))));refine zr (zr2 rfl rfl rfl ?_);refine ⟨⟨_, _, rfl, .inr ⟨hmode, .inr (.inr ⟨hsg, dx, dy, hex, hey, .inl ⟨hy0, rfl, rfl⟩⟩)⟩⟩, hch⟩
 have hokx := formD_ok hex;have hoky := formD_ok hey;refine zm rfl (zx rfl rfl (zx rfl rfl (za rfl (za rfl (zz (kh7 (zc fun _ kh24 => CW.block (Sr fun _ kh25 => zm rfl (zN rfl rfl (za rfl (zz (kh25 ?_))))))))))));refine CW.condF rfl ?_;refine Sr fun _ kh27 => zm rfl (zm rfl (zv rfl (zv rfl (zv rfl (zv rfl (zv rfl (ze rfl rfl (za rfl (zz (kh27 ?_))))))))));refine CW.condF rfl ?_;refine Sr fun _ kh29 => zm rfl (za rfl (zz (kh29 ?_)));refine CW.condF rfl ?_;refine zkk (kh24 (Sr fun _ kh31 => zm rfl (zm rfl ?_)));refine WL.ev (Ev.indexAddr rfl rfl (by omega) (by omega)) rfl ?_;rw [show 0 + (0 : Int).toNat * 6 = 0 from rfl];refine WL.ev (Ev.loadAgg (cs := ratC dx dy rx ry) rfl rfl rfl hrc) rfl ?_;unfold ratC;refine WL.call hasF284 rfl rfl (quotient_spec dx.neg dy.neg rx ry dx.m dy.m dx.e dy.e _ hNx hNy hokx.len hoky.len hy0 hokx.e hoky.e (hg0.keep0 hch)) fun v w2 h' => ?_;obtain ⟨⟨size, a, ⟨rq, rfl, hNq⟩, hDg⟩, hC52⟩ := h';have hch := hch.ta hC52;refine zm rfl ?_;refine WL.callV (cap := []) hasF95 rfl rfl rfl (by rw [List.append_nil]; exact Round_dspec _ _ _ _ mode _ hNq (hg0.keep0 hch) (by have := (aboutD_ok (neg := dx.neg) (cut := decide (a ≠ 0)) (e := (bl dx.m : Int) - (bl dy.m : Int) - 81 + dx.e - dy.e) hDg.w).e; omega)) fun v54 w54 h54 => ?_;obtain ⟨⟨bits, ee, rfl, hRR⟩, hC54⟩ := h54;have hch := hch.trans hC54;rw [val_wd] at hRR;refine zx rfl rfl (zx rfl rfl (za rfl (za rfl (zz (kh31 ?_)))));refine zr (zr2 rfl rfl rfl ?_);obtain ⟨r, q1, q2, q3, q4⟩ := quot_round hokx hoky hy0 hmode hDg hRR;refine ⟨⟨_, _, rfl, .inr ⟨hmode, .inr (.inr ⟨hsg, dx, dy, hex, hey, .inr ⟨hy0, r, q1, q2, q3, q4⟩⟩)⟩⟩, hch⟩

theorem Quot_spec (nn nd : Bool) (vn vd : Value) (ln ld : List Nat) (en ed mode : Int) (w : World) (hn : NU w vn ln) (hd : NU w vd ld) (hg : GW w) (hen : -9223372036854775808 ≤ en ∧ en ≤ 9223372036854775807) (hed : -9223372036854775808 ≤ ed ∧ ed ≤ 9223372036854775807) : Ret Tryz.prog 110 [.agg [.bool nn, vn, .int .i64 en, .bool nd, vd, .int .i64 ed].toArray, .int .i64 mode] w fun u w' => (∃ bits e, u = .tuple [.float .f64 bits, .int .i64 e].toArray ∧ QuotP nn nd (val ln) (val ld) en ed mode bits e) ∧ Chg [] w w' := by
 have hch := crf w;have hon := hn.one;have hod := hd.one;have hg0 := hg;refine zE2 Tryz.func110 rfl ?_;refine Sr fun _ kh1 => ?_;refine zBh rfl rfl rfl hch fun b2 wm2 hb2 hcm2 hge2 hgehch2 hch => ?_;have hn := hn.keep0 hcm2;have hd := hd.keep0 hcm2;refine za rfl (za rfl (zz (kh1 (Sr fun _ kh3 => zg hb2 rfl (zm rfl ?_)))));refine WL.call hasF200 rfl rfl (rounded_spec nn nd vn vd ln ld en ed mode _ hn hd (hg0.keep0 hch) hen hed) fun v w1 h' => ?_;obtain ⟨⟨bits, e, rfl, hQ⟩, hC8⟩ := h';have hch := hch.ta hC8;refine zx rfl rfl (zx rfl rfl (za rfl (za rfl (zz (kh3 ?_)))));refine zr (zr2 rfl rfl rfl ?_);exact ⟨⟨_, _, rfl, hQ⟩, hch⟩

end

/- What numbers are, as whole numbers of 2^-2148, and their sums. No condition. -/
section
open Go Sx Wd
set_option exponentiation.threshold 9000

def fvN (x : Nat) : Nat := if (splitP x).cls = 1 ∨ (splitP x).cls = 2 then (splitP x).frac * 2 ^ ((splitP x).exp + 2148).toNat else 0
def fvI (x : Nat) : Int := if (splitP x).neg = true then -(fvN x : Int) else (fvN x : Int)
theorem b64 (e : Nat) : 18446744073709551616 ^ (e / 64) * 2 ^ (e % 64) = 2 ^ e := by
  rw [show (18446744073709551616 : Nat) = 2 ^ 64 from rfl, ← Nat.pow_mul, ← Nat.pow_add]
  congr 1; omega
theorem thv_one (x : Nat) : thv (oneP x) = fvI x := by
  unfold thv oneP fvI fvN
  by_cases h : (splitP x).cls = 1 ∨ (splitP x).cls = 2
  · obtain ⟨h1, h2, h3, h4⟩ := splitP_fin h
    rw [if_pos h, if_pos h]
    dsimp only
    rw [if_pos h, laidW_val (by omega) (by omega)]
    have e : (0 * 18446744073709551616 + (splitP x).frac) * 2 ^ (((splitP x).exp + 2148).toNat % 64) * 18446744073709551616 ^ (((splitP x).exp + 2148).toNat / 64) = (splitP x).frac * 2 ^ ((splitP x).exp + 2148).toNat := by
      rw [← b64 ((splitP x).exp + 2148).toNat, Nat.zero_mul, Nat.zero_add]; ac_rfl
    rw [e]
  · simp [h]
theorem fvN_lt (x : Nat) : fvN x < 2 ^ 3172 := by
  unfold fvN
  split
  · rename_i h
    obtain ⟨h1, h2, h3, h4⟩ := splitP_fin h
    have h5 : 2 ^ ((splitP x).exp + 2148).toNat ≤ 2 ^ 3119 := Nat.pow_le_pow_right (by decide) (by omega)
    have h6 : (splitP x).frac * 2 ^ ((splitP x).exp + 2148).toNat < 9007199254740992 * 2 ^ 3119 := Nat.lt_of_lt_of_le (Nat.mul_lt_mul_of_pos_right h4 (Nat.two_pow_pos _)) (Nat.mul_le_mul_left _ h5)
    rw [show (9007199254740992 : Nat) = 2 ^ 53 from rfl, ← Nat.pow_add] at h6
    exact h6
  · exact Nat.two_pow_pos _
theorem thv_prod {x y : Nat} (hx : (splitP x).cls ≤ 2) (hy : (splitP y).cls ≤ 2) : thv (prodP x y) * (2 ^ 2148 : Nat) = fvI x * fvI y := by
  unfold prodP
  rw [if_neg (by omega), if_neg (by omega)]
  by_cases h : (splitP x).cls = 0 ∨ (splitP y).cls = 0
  · rw [if_pos h]
    have e : fvN x = 0 ∨ fvN y = 0 := by
      unfold fvN
      rcases h with h | h
      · left; rw [if_neg (by omega)]
      · right; rw [if_neg (by omega)]
    have e1 : fvI x * fvI y = 0 := by
      unfold fvI
      rcases e with e | e
      · rw [e]; simp
      · rw [e]; simp
    rw [e1]
    unfold thv
    simp
  · rw [if_neg h]
    have hcx : (splitP x).cls = 1 ∨ (splitP x).cls = 2 := by omega
    have hcy : (splitP y).cls = 1 ∨ (splitP y).cls = 2 := by omega
    obtain ⟨h1, h2, h3, h4⟩ := splitP_fin hcx
    obtain ⟨k1, k2, k3, k4⟩ := splitP_fin hcy
    unfold thv
    dsimp only
    rw [if_pos (.inr rfl), laidW_val (Nat.mod_lt _ (by decide)) (Nat.mod_lt _ (by decide))]
    have e0 : (splitP x).frac * (splitP y).frac / 18446744073709551616 * 18446744073709551616 + (splitP x).frac * (splitP y).frac % 18446744073709551616 = (splitP x).frac * (splitP y).frac := Nat.div_add_mod' ..
    rw [e0]
    have e : (splitP x).frac * (splitP y).frac * 2 ^ (((splitP x).exp + (splitP y).exp + 2148).toNat % 64) * 18446744073709551616 ^ (((splitP x).exp + (splitP y).exp + 2148).toNat / 64) * 2 ^ 2148 = fvN x * fvN y := by
      unfold fvN
      rw [if_pos hcx, if_pos hcy]
      have e2 := b64 ((splitP x).exp + (splitP y).exp + 2148).toNat
      have e3 : 2 ^ ((splitP x).exp + (splitP y).exp + 2148).toNat * 2 ^ 2148 = 2 ^ ((splitP x).exp + 2148).toNat * 2 ^ ((splitP y).exp + 2148).toNat := by
        rw [← Nat.pow_add, ← Nat.pow_add]; congr 1; omega
      calc _ = (splitP x).frac * (splitP y).frac * ((18446744073709551616 ^ (((splitP x).exp + (splitP y).exp + 2148).toNat / 64) * 2 ^ (((splitP x).exp + (splitP y).exp + 2148).toNat % 64)) * 2 ^ 2148) := by ac_rfl
        _ = (splitP x).frac * (splitP y).frac * (2 ^ ((splitP x).exp + 2148).toNat * 2 ^ ((splitP y).exp + 2148).toNat) := by rw [e2, e3]
        _ = _ := by ac_rfl
    generalize (splitP x).frac * (splitP y).frac * 2 ^ (((splitP x).exp + (splitP y).exp + 2148).toNat % 64) * 18446744073709551616 ^ (((splitP x).exp + (splitP y).exp + 2148).toNat / 64) = p at e
    have ei : (p : Int) * (2 ^ 2148 : Nat) = (fvN x : Int) * (fvN y : Int) := by rw [← Int.natCast_mul, e, Int.natCast_mul]
    unfold fvI
    cases (splitP x).neg <;> cases (splitP y).neg <;> simp only [bne_self_eq_false, Bool.true_bne, Bool.false_bne, Bool.not_false, Bool.not_true, if_true, if_false, Bool.false_eq_true, Int.neg_mul, Int.mul_neg, Int.neg_neg] <;> rw [ei]
theorem thv_prod_lt {x y : Nat} (hx : (splitP x).cls ≤ 2) (hy : (splitP y).cls ≤ 2) : (thv (prodP x y)).natAbs < 2 ^ 4196 := by
  have h := thv_prod hx hy
  have h1 := fvN_lt x
  have h2 := fvN_lt y
  have h3 : (fvI x * fvI y).natAbs = fvN x * fvN y := by
    rw [Int.natAbs_mul]
    unfold fvI
    split <;> split <;> simp
  have h4 : fvN x * fvN y < 2 ^ 3172 * 2 ^ 3172 := Nat.mul_lt_mul_of_lt_of_lt h1 h2
  rw [← Nat.pow_add] at h4
  rw [← h3, ← h, Int.natAbs_mul, Int.natAbs_natCast] at h4
  apply Nat.lt_of_mul_lt_mul_right (a := 2 ^ 2148)
  rw [← Nat.pow_add]; exact h4
def sumI (l : List Nat) : Int := (l.map fvI).sum
theorem sum_snoc (l : List Int) (x : Int) : (l ++ [x]).sum = l.sum + x := by
  induction l with
  | nil => simp
  | cons a l ih => simp only [List.cons_append, List.sum_cons, ih]; omega
theorem sumI_step {l : List Nat} {i : Nat} (h : i < l.length) : sumI (l.take (i + 1)) = sumI (l.take i) + fvI (l.getD i 0) := by
  unfold sumI
  rw [take_step h, List.map_append, List.map_cons, List.map_nil, sum_snoc]
theorem fvI_abs (x : Nat) : (fvI x).natAbs = fvN x := by unfold fvI; split <;> simp
theorem sumI_le : ∀ (l : List Nat), (sumI l).natAbs ≤ l.length * 2 ^ 3172
  | [] => by simp [sumI]
  | x :: l => by
    have h1 := sumI_le l
    have h2 := fvN_lt x
    have h3 := fvI_abs x
    have e : sumI (x :: l) = fvI x + sumI l := by simp [sumI]
    rw [e, List.length_cons, Nat.add_mul, Nat.one_mul]
    generalize 2 ^ 3172 = B at *
    generalize l.length * B = C at *
    omega
theorem BB_pow : 16384 * BB = 2 ^ 4238 := by
  unfold BB
  rw [show (18446744073709551616 : Nat) = 2 ^ 64 from rfl, ← Nat.pow_mul, show (16384 : Nat) = 2 ^ 14 from rfl, ← Nat.pow_add]
theorem sumI_in {l : List Nat} (h : l.length ≤ 1099511627776) : -((16384 * BB : Nat) : Int) < sumI l ∧ sumI l < (16384 * BB : Nat) := by
  have h1 := sumI_le l
  have h2 : l.length * 2 ^ 3172 < 2 ^ 41 * 2 ^ 3172 := Nat.mul_lt_mul_of_pos_right (by omega) (Nat.two_pow_pos _)
  rw [← Nat.pow_add] at h2
  have h3 : 2 ^ (41 + 3172) ≤ 16384 * BB := by rw [BB_pow]; exact Nat.pow_le_pow_right (by decide) (by decide)
  generalize 16384 * BB = M at *
  generalize 2 ^ (41 + 3172) = M2 at *
  omega
theorem cnt1_le {s : SP} {n : Nat} (h : s.le n) (c : Nat) (neg : Bool) : (cnt1 s c neg).le (n + 1) := by
  obtain ⟨a, b, c2, d, e, f⟩ := h
  unfold cnt1
  repeat' split
  all_goals (refine ⟨?_, ?_, ?_, ?_, ?_, ?_⟩ <;> dsimp only <;> omega)
end

/- Package mean: clean, right, told, all. No condition. -/
section
open Go Sx Wd
set_option exponentiation.threshold 5000

theorem clean_spec (b6 b7 x : Nat) (e : Int) (w : World) (h6 : BK w b6 31 [.float .f64 x]) (h7 : BK w b7 47 [.int .i64 e]) (hne : b6 ≠ b7) : RetD Tryz.prog 103 [.pointer (some ⟨b6, 0, none⟩), .pointer (some ⟨b7, 0, none⟩)] w fun u w' => BK w' b6 31 [.float .f64 (if e = 0 then x else 0)] ∧ BK w' b7 47 [.int .i64 e] ∧ Chg [b6] w w' := by
  have hch : Chg [b6] w w := Chg.refl _ _
  refine RetD.enter Tryz.func103 rfl rfl ?_
  simp only [args0, Nat.zero_add, Nat.reduceAdd]
  refine Sq fun _ kh1 _ kr2 => ?_
  refine Mv rfl rfl ?_
  refine WL.ev (Ev.nilPtr rfl) rfl ?_
  refine WL.ev (Ev.load rfl rfl (h7.at_ rfl)) rfl ?_
  refine WL.ev (Ev.neq rfl rfl) rfl ?_
  refine WL.nil (kr2 _ _ _ (kh1 _ _ _ ?_))
  refine zy rfl (fun hc1 => ?_) fun hc1 => ?_
  ·
    (try simp only [qs] at hc1)
    have he0 : e ≠ 0 := hc1
    refine zR fun _ kr3 => ?_
    refine Mv rfl rfl ?_
    refine WL.ev (Ev.nilPtr rfl) rfl ?_
    refine WL.storeC rfl rfl o1 h6 (by simp) rfl fun ws1 h6_ hcs1 => ?_
    (try simp only [Sx.splice, qt] at h6_)
    have hch := hch.s1 hcs1
    have h7 := h7.kq hcs1
    have h6 := h6_
    refine WL.nil (kr3 _ _ _ ?_)
    refine bodyA.norm0 rfl ?_
    refine ⟨?_, h7, hch⟩
    rw [if_neg he0]; exact h6
  ·
    (try simp only [qs] at hc1)
    have he0 : e = 0 := by have := hc1; omega
    refine zkk ?_
    refine bodyA.norm0 rfl ?_
    refine ⟨?_, h7, hch⟩
    rw [if_pos he0]; exact h6

theorem clean_door {fn : Func} {n : Nat} {s : Sl} {w : World} {R : Value → World → Prop} {t6 t7 b6 b7 x : Nat} {e : Int} (hr : fn.results = #[.cell t6 31, .cell t7 47]) (l6 : Sx.look s t6 = some (.pointer (some ⟨b6, 0, none⟩))) (l7 : Sx.look s t7 = some (.pointer (some ⟨b7, 0, none⟩)))
    (h6 : BK w b6 31 [.float .f64 x]) (h7 : BK w b7 47 [.int .i64 e]) (hne : b6 ≠ b7) (h : ∀ w', Chg [b6] w w' → R (.tuple [.float .f64 (if e = 0 then x else 0), .int .i64 e].toArray) w') :
    bodyD Tryz.prog fn n 103 R .ret [⟨.fn (.func 103) #[], [.pointer (some ⟨b6, 0, none⟩), .pointer (some ⟨b7, 0, none⟩)].toArray⟩] s w :=
  bodyD.retR2 hr rfl ((clean_spec b6 b7 x e w h6 h7 hne).mono fun _ w' ⟨q6, q7, hc⟩ => ⟨_, _, RVal.cell l6 (q6.var1 rfl rfl), RVal.cell l7 (q7.var1 rfl rfl), h w' hc⟩)

theorem right_spec (mode : Int) (w : World) : Ret Tryz.prog 104 [.int .i64 mode] w fun u w' => u = .bool (decide (0 ≤ mode ∧ mode ≤ 4)) ∧ w = w' := by
 refine zE1 Tryz.func104 rfl ?_;refine Sr fun _ kh1 => za rfl (zz (kh1 (Sr fun _ kh3 => zm rfl ?_)));refine WL.ev (Ev.geq rfl rfl) rfl ?_;refine zm rfl ?_;refine zb ?_ ?_<;>intro hg1<;>try simp only [qs] at hg1
 ·have h1 : 0 ≤ mode := hg1
  refine zw rfl (zm rfl (zw rfl (zQ rfl rfl (zt rfl rfl (za rfl (zz (kh3 ?_)))))));refine zr (zr1 rfl rfl ?_);refine ⟨congrArg Value.bool (decide_eq_decide.2 (by omega)), rfl⟩
 have h1 : ¬ 0 ≤ mode := by have := hg1; omega
 refine zv rfl (zv rfl (ze rfl rfl (za rfl (zz (kh3 ?_)))));refine zr (zr1 rfl rfl ?_);refine ⟨?_, rfl⟩;rw [decide_eq_false (by omega)]

def toldR (d : Dy) (n : Nat) (s : SP) (mode : Int) (bits : Nat) (e : Int) : Prop :=
  (d.m = 0 ∧ bits = noughtP s mode ∧ e = 0) ∨ (d.m ≠ 0 ∧ QuotP d.neg (intD n).neg d.m (intD n).m d.e (intD n).e mode bits e)
theorem intD_ok {n : Int} (h : n.natAbs < 18446744073709551616) : (intD n).ok := formD_ok (intD_eq h)
theorem ok_e {d : Dy} (h : d.ok) : -9223372036854775808 ≤ d.e ∧ d.e ≤ 9223372036854775807 := by have := h.e; omega

theorem told_spec (d : Dy) (r : Value) (n : Nat) (s : SP) (mode : Int) (w : World) (hr : NU w r (wd d.m)) (hok : d.ok) (hn : n ≤ 1099511627776) (hs : s.le 1000000000000000) (hg : GW w) : Ret Tryz.prog 106 [.agg [.bool d.neg, r, .int .i64 d.e].toArray, .int .i64 (n : Int), .agg [.int .i64 (s.na : Int), .int .i64 (s.up : Int), .int .i64 (s.dn : Int), .int .i64 (s.mi : Int), .int .i64 (s.pl : Int), .int .i64 (s.al : Int)].toArray, .int .i64 mode] w fun u w' => (∃ bits e, u = .tuple [.float .f64 bits, .int .i64 e].toArray ∧ toldR d n s mode bits e) ∧ Chg [] w w' := by
 have hch := crf w;have hor := hr.one;have hg0 := hg;refine zE4 Tryz.func106 rfl ?_;refine Sr fun _ kh1 => ?_;refine zBh rfl rfl rfl hch fun b4 wm4 hb4 hcm4 hge4 hgehch4 hch => ?_;have hr := hr.keep0 hcm4;refine zBh rfl rfl rfl hch fun b6 wm6 hb6 hcm6 hge6 hgehch6 hch => ?_;have hr := hr.keep0 hcm6;have hneb46 := zdd hb4.lt hge6;have hb4 := hb4.k0 hcm6;refine za rfl (za rfl (zz (kh1 (zc fun _ kh3 => Sr fun _ kh4 => zg hb4 rfl ?_))));refine WL.call hasF93 rfl rfl (Sign_dspec d.neg r (wd d.m) d.e _ hr) fun v w1 h' => ?_;obtain ⟨rfl, hC11⟩ := h';rw [val_wd];have hch := hch.ta hC11;have hb4 := hb4.k0 hC11;have hb6 := hb6.k0 hC11;have hr := hr.keep0 hC11;refine zq rfl rfl (zz (kh4 ?_));refine zy rfl ?_ ?_<;>intro hc1<;>try simp only [qs] at hc1
 ·have h0 : d.m = 0 := sgD_zero.1 hc1
  refine Sr fun _ kh6 => zg hb6 rfl (zm rfl ?_);refine WL.call hasF94 rfl rfl (Nought_spec s mode _ hs) fun v w2 h' => ?_;obtain ⟨rfl, hC15⟩ := h';have hch := hch.ta hC15;refine za rfl (za rfl (zz (kh6 ?_)));refine zr (zr2 rfl rfl rfl ?_);exact ⟨⟨_, _, rfl, .inl ⟨h0, rfl, rfl⟩⟩, hch⟩
 have h0 : d.m ≠ 0 := fun e => hc1 (sgD_zero.2 e);refine zkk (kh3 (zc fun _ kh8 => ?_));refine CW.regionHC 10 rfl hmix fun kR9 kr9 hS hdr => ?_;have hch := hch.ta hdr;have hb4 := hb4.k0 hdr;have hr := hr.keep0 hdr;have hb4_r := hb4;refine wh 0 rfl hS (fun _ hw' => Ev.loadA rfl rfl (hb4_r.keep0 hw') rfl) (wh 1 rfl hS (eM rfl) (wh 4 rfl hS (eM rfl) ?_));refine WH.oneCall 2 rfl (by kernel_rfl) hasF179 rfl rfl (Int_spec (n : Int) _ (hg0.keep0 hch) (by omega)) fun v w3 h' => ?_;obtain ⟨⟨rn, rfl, hN18⟩, hC18⟩ := h';have hch := hch.ta hC18;have hr := hr.keep0 hC18;have hS := hS.trans hC18;refine ⟨hS, ?_⟩;refine wh 3 rfl hS (fun _ _ => Ev.build (vs := _) (cs := [_, _, _, _, _, _]) rfl rfl) ?_;refine WH.oneCall 5 rfl (by kernel_rfl) hasF110 rfl rfl (Quot_spec d.neg (intD n).neg r rn (wd d.m) (wd (intD n).m) d.e (intD n).e mode _ hr hN18 (hg0.keep0 hch) (ok_e hok) (ok_e (intD_ok (by omega)))) fun v w4 h' => ?_;obtain ⟨⟨bits, e, rfl, hQ⟩, hC21⟩ := h';rw [val_wd, val_wd] at hQ;have hch := hch.ta hC21;have hS := hS.trans hC21;refine ⟨hS, ?_⟩;refine wh 6 rfl hS (eX rfl rfl) (wh 7 rfl hS (eX rfl rfl) (wh 8 rfl hS (eA rfl) (wh 9 rfl hS (eA rfl) ?_)));refine WH.done (by kernel_rfl) (kr9 _ _ _ ?_);refine kh8 ?_;refine zr (zr2 rfl rfl rfl ?_);exact ⟨⟨_, _, rfl, .inr ⟨h0, hQ⟩⟩, hch⟩

structure KAll (l : List Nat) (b : Nat) (w0 : World) (g : Nat × List Nat × SP) (w : World) : Prop where
  hi : g.1 ≤ l.length
  hB : TB w b 251 g.2.1 g.2.2.cells
  hr : Rep g.2.1 (sumI (l.take g.1))
  hs : g.2.2.le g.1
  ch : Chg [] w0 w

theorem all_spec (v : Value) (l : List Nat) (w : World) (hv : NF w v l) (hl : l.length ≤ 65536) : Ret Tryz.prog 107 [v] w fun u w' => (∃ b C, ∃ s : SP, u = .pointer (some ⟨b, 0, none⟩) ∧ TB w' b 251 C s.cells ∧ Rep C (sumI l) ∧ s.le 65536) ∧ Chg [] w w' := by
 obtain ⟨⟨al, cl, rfl, hcap, hrl⟩, hWl, hll⟩ := hv;have hch := crf w;refine zE1 Tryz.func107 rfl ?_;refine Sr fun _ kh1 => za rfl (zz (kh1 (Sr fun _ kh3 => ?_)));refine WL.call hasF100 rfl rfl (New_spec _) fun v w1 h' => ?_;obtain ⟨b, rfl, hB6, hge6, hC6⟩ := h';have hch := hch.trans hC6;have hbge : w.heap.size ≤ b := hge6;refine za rfl (zz (kh3 (zc fun _ kh5 => Sr fun _ kh6 => zm rfl (zn rfl (zm rfl (zz (kh6 (CW.block ?_))))))));refine CW.loop (S := fun g : Nat × List Nat × SP => [(3, .pointer (some ⟨b, 0, none⟩)), (7, .slice al l.length cl), (8, .int .i64 (l.length : Int)), (9, .int .i64 (g.1 : Int))]) (Inv := KAll l b w) (mu := fun g => l.length - g.1) ((0, List.replicate 67 0, SP.zero)) ?_ ?_ ?_
 ·exact ⟨Nat.zero_le _, hB6, by rw [List.take_zero]; exact Rep.zero, ⟨by decide, by decide, by decide, by decide, by decide, by decide⟩, hch⟩
 ·exact SLp
 rintro ⟨i, C, s⟩ wr ⟨hi, hB, hr, hs, hch⟩;dsimp only at hi hB hr hs hch;dsimp only;have hx := D_getD hWl i;refine Sr fun _ kh8 => zL rfl rfl (zz (kh8 (zc fun _ kh10 => ?_)));refine zy rfl ?_ ?_<;>intro hc1<;>try simp only [qs] at hc1
 ·have hst := sumI_step (l := l) (i := i) (by omega);have hin := sumI_in (l := l.take (i + 1)) (by rw [List.length_take]; omega);rw [hst, ← thv_one] at hin
  refine zkk (kh10 (zc fun _ kh11 => CW.block (Sr fun _ kh12 => ?_)));refine WL.ev (Ev.ixR (i) rfl rfl (hrl.keep0 hch) (by omega) (by omega) (by simp; omega)) rfl ?_;refine WL.ev (Ev.load rfl rfl ((hrl.keep0 hch).f64 (by first | omega | (simp; omega)))) rfl ?_;refine za rfl (zz (kh12 ?_));refine zR fun _ kr14 => ?_;refine zm rfl (zm rfl ?_);refine WL.call hasF101 rfl rfl (acAdd_spec b C (l.getD i 0) s (sumI (l.take i)) _ hB hr hx (hs.mono (by omega)) hin.1 hin.2) fun v w2 h' => ?_;obtain ⟨rfl, C2, hB2, hr2, hC15⟩ := h';rw [thv_one, ← hst] at hr2;have hch := hch.step hC15 (fun y hy => by simp only [List.mem_singleton] at hy; subst hy; exact .inr hbge);refine WL.nil (kr14 _ _ _ (kh11 ?_));refine zS fun _ kr15 => ?_;(first | refine zi rfl rfl ?_ | refine zo rfl rfl ?_);refine zm rfl (zz (kr15 ?_));refine ⟨rfl, (i + 1, C2, cnt1 s (splitP (l.getD i 0)).cls (splitP (l.getD i 0)).neg), ?_, ?_, ?_⟩
  ·exact SLp
  ·exact ⟨by show i + 1 ≤ l.length; omega, hB2, hr2, cnt1_le hs _ _, hch⟩
  show l.length - (i + 1) < l.length - i; omega
 have hiX : i = l.length := by omega
 subst hiX;rw [List.take_length] at hr;refine CW.exit ?_;refine kh5 (Sr fun _ kh16 => zm rfl (za rfl (zz (kh16 ?_))));refine zr (zr1 rfl rfl ?_);exact ⟨⟨b, C, s, rfl, hB, hr, hs.mono hl⟩, hch⟩

end

/- Package mean: Mean. No condition. -/
section
open Go Sx Wd
set_option exponentiation.threshold 5000

def isF64 : Value → Bool
  | .float .f64 _ => true
  | _ => false
theorem NF.one {w : World} {v : Value} {l : List Nat} (h : NF w v l) : v.oneCell' = true := by
  obtain ⟨⟨a, c, rfl, _⟩, _⟩ := h; rfl
theorem NF.keepBK {w w' : World} {v : Value} {l : List Nat} {b : Nat} {T : TypeId} {cs : List Value} (h : NF w v l) (hb : BK w b T cs) (hc : Chg [b] w w') (hn : ∀ c ∈ cs, isF64 c = false) : NF w' v l := by
  obtain ⟨⟨a, c, h1, h2, h3⟩, h4, h5⟩ := h
  refine ⟨⟨a, c, h1, h2, fun i u hu => ?_⟩, h4, h5⟩
  obtain ⟨ad, e, hcell⟩ := h3 i u hu
  refine ⟨ad, e, hc.cell hcell fun hm => ?_⟩
  simp only [List.mem_singleton] at hm
  have hx : isF64 u = true := by
    rw [List.getElem?_map] at hu
    cases hq : l[i]? with
    | none => rw [hq] at hu; cases hu
    | some y => rw [hq] at hu; cases hu; rfl
  have hlk := hcell
  cases had : ad.add i with
  | mk b' o' sp =>
    rw [had] at hlk hm
    simp only at hm
    subst hm
    cases sp with
    | none =>
      rw [cell_at hb] at hlk
      have := hn u (List.mem_of_getElem? hlk)
      rw [hx] at this; cases this
    | some q =>
      have : w.cell? ⟨b', o', some q⟩ = none := by simp [World.cell?, show w.heap[b']? = _ from hb]
      rw [this] at hlk; cases hlk
theorem QuotP.err {nn nd : Bool} {ln ld : Nat} {en ed mode : Int} {bits : Nat} {e : Int} (h : QuotP nn nd ln ld en ed mode bits e) : (if e = 0 then bits else 0) = bits := by
  rcases h with ⟨_, rfl, rfl⟩ | ⟨_, ⟨_, rfl, rfl⟩ | ⟨_, _, rfl, rfl⟩ | ⟨_, x, y, _, _, ⟨_, rfl, rfl⟩ | ⟨_, r, _, _, _, rfl⟩⟩⟩ <;> simp
theorem toldR.err {d : Dy} {n : Nat} {s : SP} {mode : Int} {bits : Nat} {e : Int} (h : toldR d n s mode bits e) : (if e = 0 then bits else 0) = bits := by
  rcases h with ⟨_, _, rfl⟩ | ⟨_, h⟩
  · simp
  · exact h.err
def meanR (l : List Nat) (mode pn pi : Int) (bits : Nat) (e : Int) : Prop :=
  (¬ (0 ≤ mode ∧ mode ≤ 4) ∧ bits = 0 ∧ e = 1) ∨ ((0 ≤ mode ∧ mode ≤ 4) ∧
    ((siftE l pn pi ≠ 0 ∧ bits = 0 ∧ e = siftE l pn pi) ∨ (siftE l pn pi = 0 ∧
      ((verdP (cntP l) pn pi = some bits ∧ e = 0) ∨ (verdP (cntP l) pn pi = none ∧
        ((filP l = [] ∧ bits = 0 ∧ e = 3) ∨ (filP l ≠ [] ∧ toldR (sumD (sumI (filP l))) (filP l).length (cntP l) mode bits e)))))))
theorem filP_le (l : List Nat) : (filP l).length ≤ l.length := List.length_filter_le _ _
theorem siftE_len {l : List Nat} {pn pi : Int} (h : siftE l pn pi = 0) : l.length ≤ 65536 ∧ mayQ pn pi := by
  unfold siftE at h
  split at h
  · cases h
  · split at h
    · cases h
    · rename_i h1 h2; exact ⟨by omega, Classical.not_not.1 h1⟩
theorem sumD_ok {S : Int} (h1 : -((16384 * BB : Nat) : Int) < S) (h2 : S < (16384 * BB : Nat)) : (sumD S).ok := by
  have := sumD_eq h1 h2 (decide (S < 0))
  unfold sumD; rw [this]; exact formD_ok this

theorem Mean_spec (v : Value) (l : List Nat) (mode pn pi : Int) (w : World) (hv : NF w v l) (hg : GW w) : Ret Tryz.prog 31 [v, .int .i64 mode, .agg [.int .i64 pn, .int .i64 pi].toArray] w fun u w' => (∃ bits e, u = .tuple [.float .f64 bits, .int .i64 e].toArray ∧ meanR l mode pn pi bits e) ∧ Chg [] w w' := by
 have hch := crf w;have hv0 := hv;have hg0 := hg;have hov := hv.one;refine Ret.enterD 103 hasF103 Tryz.func31 rfl rfl ?_;simp only [args0, Nat.zero_add, Nat.reduceAdd];refine Sr fun _ kh1 => ?_;refine zBh rfl rfl rfl hch fun b5 wm5 hb5 hcm5 hge5 hgehch5 hch => ?_;refine WL.allocB (l := [.float .f64 0]) rfl rfl fun b6 wm6 hb6 hcm6 hge6 => ?_;have hgehch6 := Nat.le_trans hch.size hge6;have hch := hch.ta hcm6;have hneb56 := zdd hb5.lt hge6;have hb5 := hb5.k0 hcm6;refine WL.allocB (l := [.int .i64 0]) rfl rfl fun b7 wm7 hb7 hcm7 hge7 => ?_;have hgehch7 := Nat.le_trans hch.size hge7;have hch := hch.ta hcm7;have hneb57 := zdd hb5.lt hge7;have hb5 := hb5.k0 hcm7;have hneb67 := zdd hb6.lt hge7;have hb6 := hb6.k0 hcm7;refine zz (kh1 (Sr fun _ kh3 => ?_));refine WL.defer rfl ?_;refine zz (kh3 (zc fun _ kh5 => Sr fun _ kh6 => zm rfl ?_));refine WL.call hasF104 rfl rfl (right_spec mode _) fun v w1 h' => ?_;obtain ⟨rfl, rfl⟩ := h';refine zT rfl (zz (kh6 ?_));refine zy rfl ?_ ?_<;>intro hc1<;>try simp only [qs] at hc1
 ·have hmode : ¬ (0 ≤ mode ∧ mode ≤ 4) := by simpa using hc1
  refine Sr fun _ kh8 => ?_;refine WL.storeC rfl rfl o1 hb6 (by simp) rfl fun ws2 hb6_ hcs2 => ?_;(try simp only [Sx.splice, qt] at hb6_);have hch := hch.s1 hcs2;have hb7 := hb7.kq hcs2;have hb6 := hb6_;refine WL.storeC rfl rfl o1 hb7 (by simp) rfl fun ws3 hb7_ hcs3 => ?_;(try simp only [Sx.splice, qt] at hb7_);have hch := hch.s1 hcs3;have hb6 := hb6.kq hcs3;have hb7 := hb7_;refine zz (kh8 ?_);refine zr ?_;refine clean_door rfl rfl rfl hb6 hb7 hneb67 fun w9 hc9 => ?_;have hch := hch.step hc9 (fun y hy => by simp only [List.mem_singleton] at hy; subst hy; exact .inr (by omega));exact ⟨⟨_, _, rfl, .inl ⟨hmode, rfl, rfl⟩⟩, hch⟩
 have hmode : 0 ≤ mode ∧ mode ≤ 4 := by simpa using hc1
 refine zkk (kh5 (Sr fun _ kh10 => zm rfl (zg hb5 rfl ?_)));refine WL.call hasF105 rfl rfl (Sift_spec v l pn pi _ (hv0.keep0 hch)) fun v w2 h' => ?_;have hsz18 := hch.size;rcases h' with ⟨hse, rfl, hC18⟩ | ⟨hse, v2, hNf, rfl, hC18⟩
 ·have hch := hch.trans hC18;have hb6 := hb6.k0 hC18;have hb7 := hb7.k0 hC18;unfold SP.cells;refine zm rfl (zx rfl rfl (zx rfl rfl (zx rfl rfl ?_)));refine WL.allocB (l := [.int .i64 0, .int .i64 0, .int .i64 0, .int .i64 0, .int .i64 0, .int .i64 0]) rfl rfl fun b9 wm9 hb9 hcm9 hge9 => ?_;have hgehch9 := Nat.le_trans hch.size hge9;have hch := hch.ta hcm9;have hneb69 := zdd hb6.lt hge9;have hb6 := hb6.k0 hcm9;have hneb79 := zdd hb7.lt hge9;have hb7 := hb7.k0 hcm9;refine za rfl ?_;refine zss rfl rfl ao hb9 rfl fun ws4 hb9_ hcs4 => ?_;have hch := hch.s1 hcs4;have hb6 := hb6.kq hcs4;have hb7 := hb7.kq hcs4;refine WL.storeC rfl rfl o1 hb7 (by simp) rfl fun ws5 hb7_ hcs5 => ?_;(try simp only [Sx.splice, qt] at hb7_);have hch := hch.s1 hcs5;have hb6 := hb6.kq hcs5;have hb7 := hb7_;refine zz (kh10 (zc fun _ kh12 => Sr fun _ kh13 => zl hb7 rfl rfl (zN rfl rfl (zz (kh13 ?_)))));refine zy rfl ?_ ?_<;>intro hc2<;>try simp only [qs] at hc2
  ·refine Sr fun _ kh15 => zl hb7 rfl rfl ?_
   refine WL.storeC rfl rfl o1 hb6 (by simp) rfl fun ws6 hb6_ hcs6 => ?_;(try simp only [Sx.splice, qt] at hb6_);have hch := hch.s1 hcs6;have hb7 := hb7.kq hcs6;have hb6 := hb6_;refine WL.storeC rfl rfl o1 hb7 (by simp) rfl fun ws7 hb7_ hcs7 => ?_;(try simp only [Sx.splice, qt] at hb7_);have hch := hch.s1 hcs7;have hb6 := hb6.kq hcs7;have hb7 := hb7_;refine zz (kh15 ?_);refine zr ?_;refine clean_door rfl rfl rfl hb6 hb7 hneb67 fun w9 hc9 => ?_;have hch := hch.step hc9 (fun y hy => by simp only [List.mem_singleton] at hy; subst hy; exact .inr (by omega));refine ⟨⟨_, _, rfl, .inr ⟨hmode, .inl ⟨hse, ?_, rfl⟩⟩⟩, hch⟩;simp
  exact absurd hc2 hse
 have hch := hch.trans hC18;have hb5 := hb5.k0 hC18;have hb6 := hb6.k0 hC18;have hb7 := hb7.k0 hC18;unfold SP.cells;obtain ⟨hl65, hmay⟩ := siftE_len hse;have hfl := filP_le l;have hof := hNf.one;refine zm rfl (zx rfl rfl (zx rfl rfl (zx rfl rfl ?_)));refine WL.allocB (l := [.int .i64 0, .int .i64 0, .int .i64 0, .int .i64 0, .int .i64 0, .int .i64 0]) rfl rfl fun b9 wm9 hb9 hcm9 hge9 => ?_;have hgehch9 := Nat.le_trans hch.size hge9;have hch := hch.ta hcm9;have hNf := hNf.keep0 hcm9;have hneb59 := zdd hb5.lt hge9;have hb5 := hb5.k0 hcm9;have hneb69 := zdd hb6.lt hge9;have hb6 := hb6.k0 hcm9;have hneb79 := zdd hb7.lt hge9;have hb7 := hb7.k0 hcm9;refine za rfl ?_;refine zss rfl rfl ao hb9 rfl fun ws8 hb9_ hcs8 => ?_;(try simp only [Sx.splice, qt] at hb9_);have hch := hch.s1 hcs8;have hb5 := hb5.kq hcs8;have hb6 := hb6.kq hcs8;have hb7 := hb7.kq hcs8;have hNf := hNf.keepBK hb9 hcs8 an;have hb9 := hb9_;refine WL.storeC rfl rfl o1 hb7 (by simp) rfl fun ws9 hb7_ hcs9 => ?_;(try simp only [Sx.splice, qt] at hb7_);have hch := hch.s1 hcs9;have hb5 := hb5.kq hcs9;have hb6 := hb6.kq hcs9;have hb9 := hb9.kq hcs9;have hNf := hNf.keepBK hb7 hcs9 an;have hb7 := hb7_;refine zz (kh10 (zc fun _ kh17 => Sr fun _ kh18 => zl hb7 rfl rfl (zN rfl rfl (zz (kh18 ?_)))));refine CW.condF rfl ?_;refine zkk (kh17 (zc fun _ kh20 => Sr fun _ kh21 => zg hb9 rfl (zg hb5 rfl ?_)));refine WL.call hasF92 rfl rfl (Verdict_spec (cntP l) pn pi _ ((cnt_le l).mono (by omega))) fun v w3 h' => ?_;obtain ⟨rfl, hC28⟩ := h';have hch := hch.ta hC28;have hb6 := hb6.k0 hC28;have hb7 := hb7.k0 hC28;have hb9 := hb9.k0 hC28;have hNf := hNf.keep0 hC28;refine zm rfl (zx rfl rfl (zx rfl rfl (za rfl (za rfl (zz (kh21 (Sr fun _ kh23 => zm rfl (zz (kh23 ?_)))))))));refine zy rfl ?_ ?_<;>intro hc3<;>try simp only [qs] at hc3
 ·obtain ⟨vb, hvb⟩ := Option.isSome_iff_exists.1 hc3
  refine Sr fun _ kh25 => zm rfl ?_;refine WL.storeC rfl rfl o1 hb6 (by simp) rfl fun ws10 hb6_ hcs10 => ?_;(try simp only [Sx.splice, qt] at hb6_);have hch := hch.s1 hcs10;have hb7 := hb7.kq hcs10;have hb6 := hb6_;refine WL.storeC rfl rfl o1 hb7 (by simp) rfl fun ws11 hb7_ hcs11 => ?_;(try simp only [Sx.splice, qt] at hb7_);have hch := hch.s1 hcs11;have hb6 := hb6.kq hcs11;have hb7 := hb7_;refine zz (kh25 ?_);refine zr ?_;refine clean_door rfl rfl rfl hb6 hb7 hneb67 fun w9 hc9 => ?_;have hch := hch.step hc9 (fun y hy => by simp only [List.mem_singleton] at hy; subst hy; exact .inr (by omega));refine ⟨⟨_, _, rfl, .inr ⟨hmode, .inr ⟨hse, .inl ⟨?_, rfl⟩⟩⟩⟩, hch⟩;rw [hvb]; rfl
 have hvn : verdP (cntP l) pn pi = none := by cases q : verdP (cntP l) pn pi with | none => rfl | some z => rw [q] at hc3; cases hc3
 refine zkk (kh20 (zc fun _ kh27 => Sr fun _ kh28 => zm rfl ?_));obtain ⟨ap, cp, rfl, hcapp, hrp⟩ := hNf.ex;refine zn rfl (zq rfl rfl (zz (kh28 ?_)));refine zy rfl ?_ ?_<;>intro hc4<;>try simp only [qs] at hc4
 ·have hnil : filP l = [] := List.length_eq_zero_iff.1 (by omega);refine Sr fun _ kh30 => ?_
  refine WL.storeC rfl rfl o1 hb6 (by simp) rfl fun ws12 hb6_ hcs12 => ?_;(try simp only [Sx.splice, qt] at hb6_);have hch := hch.s1 hcs12;have hb7 := hb7.kq hcs12;have hb6 := hb6_;refine WL.storeC rfl rfl o1 hb7 (by simp) rfl fun ws13 hb7_ hcs13 => ?_;(try simp only [Sx.splice, qt] at hb7_);have hch := hch.s1 hcs13;have hb6 := hb6.kq hcs13;have hb7 := hb7_;refine zz (kh30 ?_);refine zr ?_;refine clean_door rfl rfl rfl hb6 hb7 hneb67 fun w9 hc9 => ?_;have hch := hch.step hc9 (fun y hy => by simp only [List.mem_singleton] at hy; subst hy; exact .inr (by omega));exact ⟨⟨_, _, rfl, .inr ⟨hmode, .inr ⟨hse, .inr ⟨hvn, .inl ⟨hnil, rfl, rfl⟩⟩⟩⟩⟩, hch⟩
 have hnn : filP l ≠ [] := fun e => by rw [e] at hc4; exact hc4 rfl
 have hin := sumI_in (l := filP l) (by omega);have hok := sumD_ok hin.1 hin.2;refine zkk (kh27 (zc fun _ kh32 => ?_));refine CW.regionKC 10 12 rfl hmix fun kR33 kr33 hS hdr => ?_;have hch := hch.ta hdr;have hb6 := hb6.k0 hdr;have hb7 := hb7.k0 hdr;have hb9 := hb9.k0 hdr;have hNf := hNf.keep0 hdr;have hb9_r := hb9;refine wk 0 rfl hS (eM rfl) (wk 3 rfl hS (eM rfl) (wk 4 rfl hS (fun _ _ => Ev.len rfl) (wk 5 rfl hS (fun _ hw' => Ev.loadA rfl rfl (hb9_r.keep0 hw') rfl) (wk 6 rfl hS (eM rfl) ?_))));refine WK.oneCall 1 rfl (by kernel_rfl) hasF107 rfl rfl (all_spec _ (filP l) _ hNf (by omega)) fun v w4 h' => ?_;obtain ⟨⟨ba, C, sa, rfl, hBa, hRa, hsa⟩, hC37⟩ := h';have hch := hch.ta hC37;have hb6 := hb6.k0 hC37;have hb7 := hb7.k0 hC37;have hS := hS.trans hC37;refine ⟨hS, ?_⟩;refine WK.oneCall 2 rfl (by kernel_rfl) hasF108 rfl rfl (Exact_spec ba C (sumI (filP l)) _ hBa hRa (hg0.keep0 hch) hin.1 hin.2) fun v w5 h' => ?_;obtain ⟨⟨rx, rfl, hNx⟩, hC38⟩ := h';have hch := hch.ta hC38;have hb6 := hb6.k0 hC38;have hb7 := hb7.k0 hC38;have hS := hS.trans hC38;refine ⟨hS, ?_⟩;refine WK.oneCall 7 rfl (by kernel_rfl) hasF106 rfl rfl (told_spec (sumD (sumI (filP l))) rx (filP l).length (cntP l) mode _ hNx hok (by omega) ((cnt_le l).mono (by omega)) (hg0.keep0 hch)) fun v w6 h' => ?_;obtain ⟨⟨bits, e, rfl, hT⟩, hC43⟩ := h';have hch := hch.ta hC43;have hb6 := hb6.k0 hC43;have hb7 := hb7.k0 hC43;have hS := hS.trans hC43;refine ⟨hS, ?_⟩;refine wk 8 rfl hS (eX rfl rfl) (wk 9 rfl hS (eX rfl rfl) ?_);refine WK.storeC 10 rfl (by kernel_rfl) (by kernel_rfl) rfl rfl o1 hb6 (by simp) rfl fun ws14 hb6_ hcs14 => ?_;(try simp only [Sx.splice, qt] at hb6_);have hch := hch.s1 hcs14;have hb7 := hb7.kq hcs14;have hb6 := hb6_;refine WK.storeC 11 rfl (by kernel_rfl) (by kernel_rfl) rfl rfl o1 hb7 (by simp) rfl fun ws15 hb7_ hcs15 => ?_;(try simp only [Sx.splice, qt] at hb7_);have hch := hch.s1 hcs15;have hb6 := hb6.kq hcs15;have hb7 := hb7_;refine WK.done (by kernel_rfl) (kr33 _ _ _ ?_);refine kh32 ?_;refine zr ?_;refine clean_door rfl rfl rfl hb6 hb7 hneb67 fun w9 hc9 => ?_;have hch := hch.step hc9 (fun y hy => by simp only [List.mem_singleton] at hy; subst hy; exact .inr (by omega));refine ⟨⟨_, _, rfl, .inr ⟨hmode, .inr ⟨hse, .inr ⟨hvn, .inr ⟨hnn, ?_⟩⟩⟩⟩⟩, hch⟩;rw [hT.err]; exact hT

end

/- Reference of layer 6. No condition. -/
section
open Go Sx Wd

theorem kindP_bits {x : Nat} (hx : x < 18446744073709551616) : kindP x = if 9218868437227405312 < x % 9223372036854775808 then 5 else if x % 9223372036854775808 = 9218868437227405312 ∧ x / 9223372036854775808 = 1 then 4 else if x % 9223372036854775808 = 9218868437227405312 then 3 else if x % 9223372036854775808 = 0 ∧ x / 9223372036854775808 = 1 then 1 else if x % 9223372036854775808 = 0 then 2 else 0 := by
  have e1 : x / 4503599627370496 % 2048 = 2047 ↔ 9218868437227405312 ≤ x % 9223372036854775808 := by omega
  have e2 : (x / 4503599627370496 % 2048 = 2047 ∧ x % 4503599627370496 ≠ 0) ↔ 9218868437227405312 < x % 9223372036854775808 := by omega
  have e3 : x / 9223372036854775808 % 2 = 1 ↔ x / 9223372036854775808 = 1 := by omega
  have e4 : (¬ 0 < x / 4503599627370496 % 2048 ∧ ¬ 0 < x % 4503599627370496) ↔ x % 9223372036854775808 = 0 := by omega
  by_cases h1 : 9218868437227405312 < x % 9223372036854775808
  · have L : kindP x = 5 := by unfold kindP splitP; rw [if_pos (e2.2 h1)]; rfl
    rw [L, if_pos h1]
  · have n1 : ¬ (x / 4503599627370496 % 2048 = 2047 ∧ x % 4503599627370496 ≠ 0) := fun q => h1 (e2.1 q)
    by_cases h2 : x % 9223372036854775808 = 9218868437227405312
    · have p2 := e1.2 (by omega)
      by_cases h3 : x / 9223372036854775808 = 1
      · have L : kindP x = 4 := by
          unfold kindP splitP; rw [if_neg n1, if_pos p2]; simp [e3.2 h3]
        rw [L, if_neg h1, if_pos ⟨h2, h3⟩]
      · have L : kindP x = 3 := by
          have h5 : ¬ x / 9223372036854775808 % 2 = 1 := fun q => h3 (e3.1 q)
          unfold kindP splitP; rw [if_neg n1, if_pos p2]; simp [h5]
        rw [L, if_neg h1, if_neg (fun q => h3 q.2), if_pos h2]
    · have n2 : ¬ x / 4503599627370496 % 2048 = 2047 := fun q => h2 (by have := e1.1 q; omega)
      by_cases h4 : x % 9223372036854775808 = 0
      · have h5 := e4.2 h4
        by_cases h3 : x / 9223372036854775808 = 1
        · have L : kindP x = 1 := by
            unfold kindP splitP; rw [if_neg n1, if_neg n2, if_neg h5.1, if_neg h5.2]; simp [e3.2 h3]
          rw [L, if_neg h1, if_neg (fun q => h2 q.1), if_neg h2, if_pos ⟨h4, h3⟩]
        · have L : kindP x = 2 := by
            have h6 : ¬ x / 9223372036854775808 % 2 = 1 := fun q => h3 (e3.1 q)
            unfold kindP splitP; rw [if_neg n1, if_neg n2, if_neg h5.1, if_neg h5.2]; simp [h6]
          rw [L, if_neg h1, if_neg (fun q => h2 q.1), if_neg h2, if_neg (fun q => h3 q.2), if_pos h4]
      · have L : kindP x = 0 := by
          unfold kindP splitP; rw [if_neg n1, if_neg n2]
          by_cases h6 : 0 < x / 4503599627370496 % 2048
          · rw [if_pos h6]; rfl
          · rw [if_neg h6, if_pos (Classical.byContradiction fun q => h4 (e4.1 ⟨h6, q⟩))]; rfl
        rw [L, if_neg h1, if_neg (fun q => h2 q.1), if_neg h2, if_neg (fun q => h4 q.1), if_neg h4]

def refE (s : SP) (pn pi : Int) : Int := if 0 < s.na ∧ pn = 2 then 60 else if 0 < s.up + s.dn ∧ pi = 2 then 61 else 0

end

/- Drawn regions with two operations that may come up in either order. No condition. -/
namespace Sx
open Go

def WHat (P : Program) (ops : Array Oper) (K : KK) (S : World → Prop) (fuel : Nat) (listed : Array Bool) (n : Nat) (D : List Deferred) (s : Sl) (w : World) (i : Nat) : Prop :=
  ∀ a, Fr n D s a → wpOp P ops (post n K) i (fun a' w' => S w' ∧ wpAnyH P .any ops (post n K) S fuel (listed.setIfInBounds i true) a' w') a w
section
variable {P : Program} {A : AQ} {n : Nat} {D : List Deferred} {s : Sl} {w : World} {ops : Array Oper} {K : KK} {S : World → Prop} {fuel : Nat} {listed : Array Bool}
variable {op : Op} {ty : TypeId} {pos : String} {af : Array Edge} {d : Nat} {v : Value}
theorem WH.all2 (i j : Nat) (hr : Region.ready .any ops listed = [i, j]) (h1 : WHat P ops K S fuel listed n D s w i) (h2 : WHat P ops K S fuel listed n D s w j) : WH P ops K S (fuel + 1) listed n D s w := fun a ha =>
  wpAnyH_all hr (by simp) fun k hk => by
    rcases (by simpa using hk : k = i ∨ k = j) with rfl | rfl
    · exact h1 a ha
    · exact h2 a ha
theorem WHat.call (i : Nat) {f : FuncId} {xs : List Operand} {at_ : Array TypeId} {vs : List Value} {R : Value → World → Prop} (hi : ops[i]? = some ⟨some d, .call ⟨.value (.func f), xs.toArray, at_⟩, ty, pos, af, none⟩) (hF : HasF P f) (hx : opnds s xs = some vs) (hd : Nat.blt d n = true) (h : Ret P f vs w R)
  (k : ∀ v w', R v w' → S w' ∧ WH P ops K S fuel (listed.setIfInBounds i true) n D ((d, v) :: s) w') : WHat P ops K S fuel listed n D s w i := fun a ha => by
 unfold wpOp;simp only [hi];rw [if_pos (by simp [Region.wanted])];refine .inl ?_;unfold Oper.wp;rw [exec_call hF rfl hx fun x u hx => ha.eval hx];exact Calls.mono h fun e w' ⟨v, he, hR⟩ => by subst he; exact ⟨(k v w' hR).1, (k v w' hR).2 _ (ha.put hd v)⟩
theorem WHat.one (i : Nat) {w' : World} (hi : ops[i]? = some ⟨some d, op, ty, pos, af, none⟩) (he : Ev P s op ty w v w') (hS : S w') (hd : Nat.blt d n = true)
    (k : WH P ops K S fuel (listed.setIfInBounds i true) n D ((d, v) :: s) w') : WHat P ops K S fuel listed n D s w i := fun a ha => by
  unfold wpOp
  simp only [hi]
  rw [if_pos (by simp [Region.wanted])]
  refine .inl ?_
  unfold Oper.wp
  rw [he a.eval (some d) pos af none fun x u hx => ha.eval hx]
  exact ⟨hS, k _ (ha.put hd v)⟩
theorem WHat.buildSlice (i : Nat) {w0 : World} {t e : TypeId} {de : TypeDesc} {sz by_ es be : Nat} {z ze : Value} {ps : List (Nat × Operand)} {vs : List (Nat × Value)} {cs : List Value} {m : Nat} [hT : HasT P t (.slice e) sz by_ z] [hE : HasT P e de es be ze]
    (hi : ops[i]? = some ⟨some d, .buildSlice t m ps.toArray, ty, pos, af, none⟩) (hS : Chg [] w0 w)
    (hm : m * es ≤ 2 ^ 24) (hp : 0 < m * es) (hx : opndP s ps = some vs) (hf : Instr.fill (fun i => some (i * es, es)) ((Array.range (m * es)).map (ze.cells[· % ze.cells.size]!)) vs = some cs.toArray) (hd : Nat.blt d n = true)
    (k : ∀ b w', New w b (.cells cs.toArray e) w' → Chg [] w0 w' → WH P ops K (Chg [] w0) fuel (listed.setIfInBounds i true) n D ((d, .slice (some ⟨b, 0, none⟩) m m) :: s) w') : WHat P ops K (Chg [] w0) fuel listed n D s w i := by
  obtain ⟨b, w', he, hn⟩ := ev_buildSlice (P := P) (ty := ty) (w := w) (t := t) (hT := hT) (hE := hE) hm hp hx hf
  exact WHat.one i hi he (hS.trans hn.chg) hd (k b w' hn (hS.trans hn.chg))
theorem WH.buildSliceC (i : Nat) {w0 : World} {t e : TypeId} {de : TypeDesc} {sz by_ es be : Nat} {z ze : Value} {ps : List (Nat × Operand)} {vs : List (Nat × Value)} {cs : List Value} {m : Nat} [hT : HasT P t (.slice e) sz by_ z] [hE : HasT P e de es be ze]
    (hi : ops[i]? = some ⟨some d, .buildSlice t m ps.toArray, ty, pos, af, none⟩) (hr : Region.ready .any ops listed = [i]) (hS : Chg [] w0 w)
    (hm : m * es ≤ 2 ^ 24) (hp : 0 < m * es) (hx : opndP s ps = some vs) (hf : Instr.fill (fun i => some (i * es, es)) ((Array.range (m * es)).map (ze.cells[· % ze.cells.size]!)) vs = some cs.toArray) (hd : Nat.blt d n = true)
    (k : ∀ b w', New w b (.cells cs.toArray e) w' → Chg [] w0 w' → WH P ops K (Chg [] w0) fuel (listed.setIfInBounds i true) n D ((d, .slice (some ⟨b, 0, none⟩) m m) :: s) w') : WH P ops K (Chg [] w0) (fuel + 1) listed n D s w := by
  obtain ⟨b, w', he, hn⟩ := ev_buildSlice (P := P) (ty := ty) (w := w) (t := t) (hT := hT) (hE := hE) hm hp hx hf
  exact WH.one i hi hr he (hS.trans hn.chg) hd (k b w' hn (hS.trans hn.chg))
theorem WHat.allocC (i : Nat) {w0 : World} {t : TypeId} {ds : TypeDesc} {sz by_ : Nat} {z : Value} {l : List Value} [hT : HasT P t ds sz by_ z] (hi : ops[i]? = some ⟨some d, .alloc t, ty, pos, af, none⟩) (hS : Chg [] w0 w) (hl : z.cells = l.toArray) (hd : Nat.blt d n = true)
    (k : ∀ b w', BK w' b t l → Chg [] w w' → w.heap.size ≤ b → Chg [] w0 w' → WH P ops K (Chg [] w0) fuel (listed.setIfInBounds i true) n D ((d, .pointer (some ⟨b, 0, none⟩)) :: s) w') : WHat P ops K (Chg [] w0) fuel listed n D s w i := by
  have hn := new_alloc w (.cells l.toArray t)
  refine WHat.one i (v := .pointer (some ⟨w.heap.size, 0, none⟩)) (w' := w.alloc (.cells l.toArray t)) hi (fun ρ d' pos af g hρ => ?_) (hS.trans hn.chg) hd (k _ _ hn.at_ hn.chg hn.ge (hS.trans hn.chg))
  simp [execOp, Instr.alloc, hT.zero, newVar, newRow, hl]
theorem WH.allocC (i : Nat) {w0 : World} {t : TypeId} {ds : TypeDesc} {sz by_ : Nat} {z : Value} {l : List Value} [hT : HasT P t ds sz by_ z] (hi : ops[i]? = some ⟨some d, .alloc t, ty, pos, af, none⟩) (hr : Region.ready .any ops listed = [i]) (hS : Chg [] w0 w) (hl : z.cells = l.toArray) (hd : Nat.blt d n = true)
    (k : ∀ b w', BK w' b t l → Chg [] w w' → w.heap.size ≤ b → Chg [] w0 w' → WH P ops K (Chg [] w0) fuel (listed.setIfInBounds i true) n D ((d, .pointer (some ⟨b, 0, none⟩)) :: s) w') : WH P ops K (Chg [] w0) (fuel + 1) listed n D s w := fun a ha =>
  wpAnyH_all hr (by simp) fun j hj => by
    obtain rfl : j = i := by simpa using hj
    exact WHat.allocC j hi hS hl hd k a ha
theorem WH.storeBN (i : Nat) {w0 : World} {t : TypeId} {ds : TypeDesc} {sz by_ : Nat} {z0 : Value} {b o : Nat} {l l' vs : List Value} {T : TypeId} {x y : Operand} [hT : HasT P t ds sz by_ z0] (hi : ops[i]? = some ⟨none, .store t x y, ty, pos, af, none⟩) (hr : Region.ready .any ops listed = [i]) (hS : Chg [] w0 w) (hge : w0.heap.size ≤ b)
    (hx : opnd s x = some (.pointer (some ⟨b, o, none⟩))) (hy : opnd s y = some (.agg vs.toArray)) (hs : vs.length = sz) (h1 : ∀ v ∈ vs, v.oneCell' = true)
    (hb : BK w b T l) (ho : o + vs.length ≤ l.length) (he : splice l o vs = l') (k : ∀ w', BK w' b T l' → Chg [b] w w' → Chg [] w0 w' → WH P ops K (Chg [] w0) fuel (listed.setIfInBounds i true) n D s w') : WH P ops K (Chg [] w0) (fuel + 1) listed n D s w := by
  subst he
  obtain ⟨w', he, hu⟩ := evS_storeAgg (P := P) (ty := ty) (t := t) (hT := hT) hx hy hs h1 hb ho
  have hS' : Chg [] w0 w' := hS.step hu.chg fun y hy => .inr (by simp only [List.mem_singleton] at hy; omega)
  exact WH.oneS i hi hr he hS' (k w' hu.at_ hu.chg hS')
end
end Sx

/- What the reference of layer 2 computes, in plain numbers. No condition. -/
section
open Go Sx Wd

structure PlusI (la lb : List Nat) (i : Nat) (L : List Nat) (c : Nat) : Prop where
  le : i ≤ max la.length lb.length ∨ i = max la.length lb.length + 1 ∧ c = 0
  len : L.length = i
  w : W L
  c1 : c ≤ 1
  v : val L + 2 ^ (32 * i) * c = val (la.take i) + val (lb.take i)
structure MinusI (la lb : List Nat) (i : Nat) (L : List Nat) (c : Nat) : Prop where
  le : i ≤ la.length
  len : L.length = i
  w : W L
  c1 : c ≤ 1
  v : val L + val (lb.take i) = val (la.take i) + 2 ^ (32 * i) * c
structure PartI (la : List Nat) (b k : Nat) (Q : List Nat) (r : Nat) : Prop where
  le : k ≤ la.length
  len : Q.length = la.length
  w : W Q
  z : ∀ j, j < k → Q.getD j 0 = 0
  rl : r < b
  v : val (la.drop k) = val (Q.drop k) * b + r
def Fh (w0 : World) (v : Value) : Prop := ∀ ad m c, v = .slice (some ad) m c → w0.heap.size ≤ ad.block
def Av (b : Nat) (v : Value) : Prop := ∀ ad m c, v = .slice (some ad) m c → ad.block ≠ b
end

/- Reference of layer 2: size, Norm, Of, at, Bit, Len, Low. No condition. -/
section
open Go Sx Wd

end

/- Reference of layer 2: Cmp, Plus, Minus, Times. No condition. -/
section
open Go Sx Wd

end

/- Reference of layer 2: digit, Parts, Moved. No condition. -/
section
open Go Sx Wd

end

/- Reference of layer 3: forms. No condition. -/
section
open Go Sx Wd

end

/- Reference of layer 3: Number, Bits, Of, Int, Neg, Sign. No condition. -/
section
open Go Sx Wd

end

/- Reference of layer 3: Add, Mul, Against. No condition. -/
section
open Go Sx Wd

theorem mulD_form {x y : Dy} (hx : x.ok) (hy : y.ok) : formD (x.neg != y.neg) (x.m * y.m) (x.e + y.e) = mulD x y := by
  unfold mulD
  split
  · rename_i h
    have h0 : x.m * y.m ≠ 0 := fun e => by rw [e, wd_zero] at h; simp at h
    have h1 : x.m ≠ 0 := fun e => h0 (by rw [e, Nat.zero_mul])
    have h2 : y.m ≠ 0 := fun e => h0 (by rw [e, Nat.mul_zero])
    have ho : x.m * y.m % 2 = 1 := by rw [Nat.mul_mod, hx.odd h1, hy.odd h2]
    have ht := tz_odd ho
    exact formD_none h0 (by rw [ht, Nat.pow_zero, Nat.div_one]; omega)
  · rfl
end

/- Reference of layer 3: Against. No condition. -/
section
open Go Sx Wd

end

/- Sums of forms as whole numbers of the lowest unit. No condition. -/
section
open Go Sx Wd

theorem tz_scale {m : Nat} (h : m ≠ 0) (k : Nat) : tz (m * 2 ^ k) = tz m + k := by
  obtain ⟨h1, h2⟩ := tz_spec h
  refine tz_unique (m := m / 2 ^ tz m) ?_ h1
  rw [Nat.pow_add, ← Nat.mul_assoc, ← h2]
theorem formD_scale {neg : Bool} {m k : Nat} {e f : Int} (he : f = e - (k : Int)) : formD neg (m * 2 ^ k) f = formD neg m e := by
  by_cases h0 : m = 0
  · subst h0; rw [Nat.zero_mul, formD_zero, formD_zero]
  · have hk := Nat.two_pow_pos k
    have hn : m * 2 ^ k ≠ 0 := Nat.mul_ne_zero h0 (by omega)
    have ht := tz_scale h0 k
    have hd : m * 2 ^ k / 2 ^ tz (m * 2 ^ k) = m / 2 ^ tz m := by
      rw [ht, Nat.pow_add, Nat.mul_comm (2 ^ tz m), ← Nat.div_div_eq_div_mul, Nat.mul_div_cancel _ hk]
    unfold formD
    rw [if_neg hn, if_neg h0, hd, ht, he]
    have e1 : (1048576 - ((tz m + k : Nat) : Int) < e - (k : Int) ∨ e - (k : Int) < -1048576 - ((tz m + k : Nat) : Int) ∨ 8192 < (wd (m / 2 ^ tz m)).length) ↔ (1048576 - (tz m : Int) < e ∨ e < -1048576 - (tz m : Int) ∨ 8192 < (wd (m / 2 ^ tz m)).length) := by omega
    by_cases h : 1048576 - (tz m : Int) < e ∨ e < -1048576 - (tz m : Int) ∨ 8192 < (wd (m / 2 ^ tz m)).length
    · rw [if_pos (e1.2 h), if_pos h]
    · rw [if_neg (fun q => h (e1.1 q)), if_neg h, show e - (k : Int) + ((tz m + k : Nat) : Int) = e + (tz m : Int) by omega]
def InB (S : Int) : Prop := -((16384 * BB : Nat) : Int) < S ∧ S < (16384 * BB : Nat)
theorem InB.lt {S : Int} (h : InB S) : S.natAbs < 2 ^ 4238 := by
  obtain ⟨h1, h2⟩ := h
  rw [← BB_pow]; omega
theorem sumD_some {S : Int} (h : InB S) {neg : Bool} (hn : S ≠ 0 → neg = decide (S < 0)) : formD neg S.natAbs (-2148) = some (sumD S) := by
  obtain ⟨h1, h2⟩ := h
  have e := sumD_eq h1 h2 (decide (S < 0))
  unfold sumD
  rw [e, sumD_eq h1 h2 neg, Option.getD_some]
  by_cases h0 : S = 0
  · rw [if_pos h0, if_pos h0]
  · rw [if_neg h0, if_neg h0, hn h0]
theorem rsumD_zero : sumD 0 = Dy.zero := rfl
theorem sumD_val {S : Int} (h : InB S) (h0 : S ≠ 0) : sumD S = ⟨decide (S < 0), S.natAbs / 2 ^ tz S.natAbs, -2148 + tz S.natAbs⟩ := by
  obtain ⟨h1, h2⟩ := h
  unfold sumD
  rw [sumD_eq h1 h2, if_neg h0, Option.getD_some]
theorem rsumD_ok {S : Int} (h : InB S) : (sumD S).ok := formD_ok (sumD_some h (neg := decide (S < 0)) (fun _ => rfl))
theorem rsumD_m0 {S : Int} (h : InB S) : (sumD S).m = 0 ↔ S = 0 := by
  constructor
  · intro hm
    apply Classical.byContradiction
    intro h0
    rw [sumD_val h h0] at hm
    have := (tz_spec (n := S.natAbs) (by omega)).1
    dsimp only at hm
    rw [hm] at this; simp at this
  · intro h0; rw [h0]; rfl
theorem scaled_len {p c n : Nat} (h : n = p * 2 ^ c) (hn : n < 2 ^ 4238) : (wd p).length ≤ 8192 := by
  have h1 : p ≤ n := by rw [h]; exact Nat.le_mul_of_pos_right _ (Nat.two_pow_pos _)
  exact wd_len_gen (Nat.lt_of_le_of_lt h1 hn) (by decide)
theorem addD_sum {S T : Int} (hS : InB S) (hT : InB T) (hST : InB (S + T)) : addD (sumD S) (sumD T) = some (sumD (S + T)) := by
  by_cases h0 : S = 0
  · subst h0
    rw [rsumD_zero, Int.zero_add]
    unfold addD; rw [if_pos (show Dy.zero.m = 0 from rfl)]
  by_cases h1 : T = 0
  · subst h1
    rw [rsumD_zero, Int.add_zero]
    unfold addD; rw [if_neg (fun q => h0 ((rsumD_m0 hS).1 q)), if_pos (show Dy.zero.m = 0 from rfl)]
  obtain ⟨-, ha⟩ := tz_spec (n := S.natAbs) (by omega)
  obtain ⟨-, hb⟩ := tz_spec (n := T.natAbs) (by omega)
  have hx := sumD_val hS h0
  have hy := sumD_val hT h1
  have hxm : (sumD S).m ≠ 0 := fun q => h0 ((rsumD_m0 hS).1 q)
  have hym : (sumD T).m ≠ 0 := fun q => h1 ((rsumD_m0 hT).1 q)
  have hsl := hS.lt
  have htl := hT.lt
  generalize tz S.natAbs = a at *
  generalize tz T.natAbs = b at *
  generalize hX : S.natAbs / 2 ^ a = X at *
  generalize hY : T.natAbs / 2 ^ b = Y at *
  obtain ⟨c, hc⟩ : ∃ c, c = min a b := ⟨_, rfl⟩
  have he : min (sumD S).e (sumD T).e = -2148 + (c : Int) := by rw [hx, hy]; dsimp only; omega
  have hpe : ((sumD S).e - (-2148 + (c : Int))).toNat = a - c := by rw [hx]; dsimp only; omega
  have hqe : ((sumD T).e - (-2148 + (c : Int))).toNat = b - c := by rw [hy]; dsimp only; omega
  have hp : S.natAbs = X * 2 ^ (a - c) * 2 ^ c := by rw [Nat.mul_assoc, ← Nat.pow_add, show a - c + c = a by omega]; exact ha
  have hq : T.natAbs = Y * 2 ^ (b - c) * 2 ^ c := by rw [Nat.mul_assoc, ← Nat.pow_add, show b - c + c = b by omega]; exact hb
  rw [addD_eq hxm hym rfl rfl, he, hpe, hqe]
  rw [show (sumD S).m = X by rw [hx], show (sumD T).m = Y by rw [hy], show (sumD S).neg = decide (S < 0) by rw [hx], show (sumD T).neg = decide (T < 0) by rw [hy]]
  generalize X * 2 ^ (a - c) = p at *
  generalize Y * 2 ^ (b - c) = q at *
  have lp := scaled_len hp hsl
  have lq := scaled_len hq htl
  rw [if_neg (by omega)]
  have hc2 := Nat.two_pow_pos c
  by_cases hs : decide (S < 0) = decide (T < 0)
  · rw [if_pos hs, ← formD_scale (k := c) (f := -2148) (by omega), Nat.add_mul, ← hp, ← hq]
    have hiff : S < 0 ↔ T < 0 := by simpa using hs
    have e : S.natAbs + T.natAbs = (S + T).natAbs := by omega
    rw [e]
    exact sumD_some hST fun _ => decide_eq_decide.2 (by omega)
  · have hiff : ¬ (S < 0 ↔ T < 0) := fun q => hs (decide_eq_decide.2 q)
    rw [if_neg hs]
    by_cases hlt : p < q
    · have hl2 : S.natAbs < T.natAbs := by rw [hp, hq]; exact Nat.mul_lt_mul_of_pos_right hlt hc2
      rw [if_pos hlt, ← formD_scale (k := c) (f := -2148) (by omega), Nat.sub_mul, ← hp, ← hq, show T.natAbs - S.natAbs = (S + T).natAbs by omega]
      exact sumD_some hST fun _ => decide_eq_decide.2 (by omega)
    · have hl2 : T.natAbs ≤ S.natAbs := by rw [hp, hq]; exact Nat.mul_le_mul_right _ (by omega)
      rw [if_neg hlt, ← formD_scale (k := c) (f := -2148) (by omega), Nat.sub_mul, ← hp, ← hq, show S.natAbs - T.natAbs = (S + T).natAbs by omega]
      exact sumD_some hST fun hne => decide_eq_decide.2 (by omega)
theorem kind_cls {x : Nat} : kindP x ≤ 2 ↔ (splitP x).cls ≤ 2 := by
  unfold kindP splitP
  by_cases a : x / 4503599627370496 % 2048 = 2047 ∧ x % 4503599627370496 ≠ 0
  · rw [if_pos a]; simp
  · rw [if_neg a]
    by_cases b : x / 4503599627370496 % 2048 = 2047
    · rw [if_pos b]; by_cases d : x / 9223372036854775808 % 2 = 1 <;> simp [d]
    · rw [if_neg b]
      by_cases d : 0 < x / 4503599627370496 % 2048
      · rw [if_pos d]; simp
      · rw [if_neg d]
        by_cases f : 0 < x % 4503599627370496
        · rw [if_pos f]; simp
        · rw [if_neg f]; by_cases g : x / 9223372036854775808 % 2 = 1 <;> simp [g]
theorem fvI_in (x : Nat) : InB (fvI x) := by
  have h := sumI_in (l := [x]) (by simp)
  have : sumI [x] = fvI x := by simp [sumI]
  rw [this] at h; exact h
theorem rfvI_abs (x : Nat) : (fvI x).natAbs = fvN x := by unfold fvI; split <;> omega
theorem fvI_zero {x : Nat} (h : ¬ ((splitP x).cls = 1 ∨ (splitP x).cls = 2)) : fvI x = 0 := by
  unfold fvI fvN; rw [if_neg h]; split <;> rfl
end

/- Numbers as the machine's: a number less itself; which are finite. No condition. -/
section
open Go Sx Wd

theorem cls_le2 (x : Nat) : (splitP x).cls ≤ 2 ↔ x % 9223372036854775808 < 9218868437227405312 := by
  have e : x % 9223372036854775808 < 9218868437227405312 ↔ x / 4503599627370496 % 2048 ≠ 2047 := by omega
  rw [e]
  unfold splitP
  split
  · rename_i h; simp; exact h.1
  · split
    · rename_i h1 h; simp; exact h
    · split
      · rename_i h2 h1 h; simp; exact h1
      · split
        · rename_i h2 h1 h; simp; exact h2
        · rename_i h2 h1 h; simp; exact h2
section
variable {P : Program} {n : Nat} {D : List Deferred} {s : Sl} {w : World} {ops : Array Oper} {K : KK} {rest : List Oper} {ty : TypeId} {pos : String} {af : Array Edge} {d : Nat} {x y : Operand}
end
end

/- Package mean: finite. No condition. -/
section
open Go Sx Wd
set_option exponentiation.threshold 5000

def finL (l : List Nat) : Prop := ∀ x ∈ l, (splitP x).cls ≤ 2
instance (l : List Nat) : Decidable (finL l) := by unfold finL; exact inferInstance
end

/- Package mean: Weighted. No condition. -/
section
open Go Sx Wd
set_option exponentiation.threshold 5000

theorem sumD_zero : sumD 0 = Dy.zero := rfl
theorem sumD_form {S : Int} (h1 : -((16384 * BB : Nat) : Int) < S) (h2 : S < (16384 * BB : Nat)) (h0 : S ≠ 0) : sumD S = ⟨decide (S < 0), S.natAbs / 2 ^ tz S.natAbs, -2148 + tz S.natAbs⟩ := by
  unfold sumD
  rw [sumD_eq h1 h2, if_neg h0]; rfl
theorem sumD_m0 {S : Int} (h1 : -((16384 * BB : Nat) : Int) < S) (h2 : S < (16384 * BB : Nat)) : (sumD S).m = 0 ↔ S = 0 := by
  constructor
  · intro h
    apply Classical.byContradiction
    intro h0
    rw [sumD_form h1 h2 h0] at h
    have := (tz_spec (n := S.natAbs) (by omega)).1
    simp only at h
    rw [h] at this; cases this
  · intro h; rw [h]; rfl
theorem sumD_sg {S : Int} (h1 : -((16384 * BB : Nat) : Int) < S) (h2 : S < (16384 * BB : Nat)) : sgD (sumD S).neg (sumD S).m = if S < 0 then -1 else if S = 0 then 0 else 1 := by
  by_cases h0 : S = 0
  · subst h0; rfl
  · have hm : (sumD S).m ≠ 0 := fun e => h0 ((sumD_m0 h1 h2).1 e)
    unfold sgD
    rw [if_neg hm, sumD_form h1 h2 h0]
    by_cases h : S < 0
    · simp [h]
    · simp [h, h0]
end

/- Products and signs of forms, as whole numbers of the lowest unit. No condition. -/
section
open Go Sx Wd
set_option exponentiation.threshold 5000

theorem sumD_up {S : Int} (h : InB S) (h0 : S ≠ 0) : ∃ a : Nat, S.natAbs = (sumD S).m * 2 ^ a ∧ (sumD S).e = -2148 + (a : Int) ∧ (sumD S).neg = decide (S < 0) := by
  obtain ⟨-, ha⟩ := tz_spec (n := S.natAbs) (by omega)
  have hx := sumD_val h h0
  exact ⟨tz S.natAbs, by rw [hx]; exact ha, by rw [hx], by rw [hx]⟩
theorem thv_in {x y : Nat} (hx : (splitP x).cls ≤ 2) (hy : (splitP y).cls ≤ 2) : InB (thv (prodP x y)) := by
  have h := thv_prod_lt hx hy
  have h2 : 2 ^ 4196 < 16384 * BB := by rw [BB_pow]; exact Nat.pow_lt_pow_right (by decide) (by decide)
  unfold InB
  generalize 16384 * BB = M at *
  generalize 2 ^ 4196 = N at *
  omega
theorem mulD_sum {x y : Nat} (hx : (splitP x).cls ≤ 2) (hy : (splitP y).cls ≤ 2) : mulD (sumD (fvI x)) (sumD (fvI y)) = some (sumD (thv (prodP x y))) := by
  have hp := thv_prod hx hy
  have hZ := thv_in hx hy
  have hX := fvI_in x
  have hY := fvI_in y
  generalize thv (prodP x y) = Z at *
  generalize fvI x = S at *
  generalize fvI y = T at *
  have hokX := rsumD_ok hX
  have hokY := rsumD_ok hY
  rw [← mulD_form hokX hokY]
  have hq : (2 : Nat) ^ 2148 ≠ 0 := Nat.ne_of_gt (Nat.two_pow_pos _)
  by_cases h0 : S = 0
  · subst h0
    have : Z = 0 := by
      rw [Int.zero_mul] at hp
      rcases Int.mul_eq_zero.1 hp with q | q
      · exact q
      · exact absurd (by exact_mod_cast q) hq
    subst this
    rw [show (sumD 0).m = 0 from rfl, Nat.zero_mul, formD_zero]; rfl
  by_cases h1 : T = 0
  · subst h1
    have : Z = 0 := by
      rw [Int.mul_zero] at hp
      rcases Int.mul_eq_zero.1 hp with q | q
      · exact q
      · exact absurd (by exact_mod_cast q) hq
    subst this
    rw [show (sumD 0).m = 0 from rfl, Nat.mul_zero, formD_zero]; rfl
  obtain ⟨a, a1, a2, a3⟩ := sumD_up hX h0
  obtain ⟨b, b1, b2, b3⟩ := sumD_up hY h1
  have hXm : (sumD S).m ≠ 0 := fun q => h0 ((rsumD_m0 hX).1 q)
  have hYm : (sumD T).m ≠ 0 := fun q => h1 ((rsumD_m0 hY).1 q)
  have hodd : ((sumD S).m * (sumD T).m) % 2 = 1 := by rw [Nat.mul_mod, hokX.odd hXm, hokY.odd hYm]
  have hZ0 : Z ≠ 0 := fun q => by
    rw [q, Int.zero_mul] at hp
    rcases Int.mul_eq_zero.1 hp.symm with q | q
    · exact h0 q
    · exact h1 q
  have habs : Z.natAbs * 2 ^ 2148 = (sumD S).m * (sumD T).m * 2 ^ (a + b) := by
    have := congrArg Int.natAbs hp
    rw [Int.natAbs_mul, Int.natAbs_mul, Int.natAbs_natCast] at this
    rw [this, a1, b1, Nat.pow_add]
    simp only [Nat.mul_comm, Nat.mul_left_comm, Nat.mul_assoc]
  have ht1 := tz_scale (m := Z.natAbs) (by omega) 2148
  rw [habs, tz_mul _ _ hodd] at ht1
  obtain ⟨k, hk⟩ : ∃ k, k = tz Z.natAbs := ⟨_, rfl⟩
  rw [← hk] at ht1
  have hval : Z.natAbs = (sumD S).m * (sumD T).m * 2 ^ k := by
    rw [ht1, Nat.pow_add, ← Nat.mul_assoc] at habs
    exact Nat.eq_of_mul_eq_mul_right (Nat.two_pow_pos _) habs
  rw [← formD_scale (k := k) (f := -2148) (by omega), ← hval, a3, b3]
  refine sumD_some hZ fun _ => ?_
  have hs : (Z < 0) ↔ ¬ (S < 0 ↔ T < 0) := by
    have hpos : (0 : Int) < ((2 ^ 2148 : Nat) : Int) := by exact_mod_cast Nat.two_pow_pos _
    constructor
    · intro hz hiff
      have hneg : Z * ((2 ^ 2148 : Nat) : Int) < 0 := Int.mul_neg_of_neg_of_pos hz hpos
      rw [hp] at hneg
      by_cases hsn : S < 0
      · have := Int.mul_pos_of_neg_of_neg hsn (hiff.1 hsn); omega
      · have := Int.mul_nonneg (show 0 ≤ S by omega) (show 0 ≤ T by have := fun q => hsn (hiff.2 q); omega); omega
    · intro hn
      apply Classical.byContradiction
      intro hz
      have hge : 0 ≤ Z * ((2 ^ 2148 : Nat) : Int) := Int.mul_nonneg (by omega) (by omega)
      rw [hp] at hge
      by_cases hsn : S < 0
      · have htp : 0 < T := by
          have : ¬ T < 0 := fun q => hn ⟨fun _ => q, fun _ => hsn⟩
          omega
        have := Int.mul_neg_of_neg_of_pos hsn htp; omega
      · have htn : T < 0 := Classical.byContradiction fun q => hn ⟨fun z => absurd z hsn, fun z => absurd z q⟩
        have := Int.mul_neg_of_pos_of_neg (show 0 < S by omega) htn; omega
  by_cases hsn : S < 0 <;> by_cases htn : T < 0
  · rw [decide_eq_true hsn, decide_eq_true htn, decide_eq_false (fun q => hs.1 q ⟨fun _ => htn, fun _ => hsn⟩)]; rfl
  · rw [decide_eq_true hsn, decide_eq_false htn, decide_eq_true (hs.2 fun q => htn (q.1 hsn))]; rfl
  · rw [decide_eq_false hsn, decide_eq_true htn, decide_eq_true (hs.2 fun q => hsn (q.2 htn))]; rfl
  · rw [decide_eq_false hsn, decide_eq_false htn, decide_eq_false (fun q => hs.1 q ⟨fun z => absurd z hsn, fun z => absurd z htn⟩)]; rfl
end

/- Package mean: Middle, Of. No condition. -/
section
open Go Sx Wd
set_option exponentiation.threshold 5000

theorem NF.of_row {w : World} {a : Option Addr} {l : List Nat} {k c : Nat} (h : RW w a (l.map f64v)) (hw : ∀ x ∈ l, x < 18446744073709551616) (hl : l.length ≤ 70368744177664) (hk : k = l.length) (hc : k ≤ c) : NF w (.slice a k c) l := by
  subst hk
  exact ⟨⟨a, c, rfl, hc, h⟩, hw, hl⟩
def ofR (neg : Bool) (m : Nat) (ex n mode : Int) (bits : Nat) (e : Int) : Prop :=
  (¬ ((0 ≤ mode ∧ mode ≤ 4) ∧ 1 ≤ n ∧ n ≤ 1099511627776) ∧ bits = 0 ∧ e = 1) ∨ (((0 ≤ mode ∧ mode ≤ 4) ∧ 1 ≤ n ∧ n ≤ 1099511627776) ∧
    ((formD neg m ex = none ∧ bits = 0 ∧ e = 2) ∨ ∃ d, formD neg m ex = some d ∧ toldR d n.toNat SP.zero mode bits e))

theorem mOf_spec (na : Bool) (va : Value) (la : List Nat) (ea n mode : Int) (w : World) (ha : NU w va la) (hg : GW w) (hea : -9223372036854775808 ≤ ea ∧ ea ≤ 9223372036854775807) : Ret Tryz.prog 96 [.agg [.bool na, va, .int .i64 ea].toArray, .int .i64 n, .int .i64 mode] w fun u w' => (∃ bits e, u = .tuple [.float .f64 bits, .int .i64 e].toArray ∧ ofR na (val la) ea n mode bits e) ∧ Chg [] w w' := by
 have hch := crf w;have hg0 := hg;have hoa := ha.one;have ha0 := ha;refine Ret.enterD 103 hasF103 Tryz.func96 rfl rfl ?_;simp only [args0, Nat.zero_add, Nat.reduceAdd];refine Sr fun _ kh1 => ?_;refine zBh rfl rfl rfl hch fun b3 wm3 hb3 hcm3 hge3 hgehch3 hch => ?_;have ha := ha.keep0 hcm3;refine WL.allocB (l := [.float .f64 0]) rfl rfl fun b6 wm6 hb6 hcm6 hge6 => ?_;have hgehch6 := Nat.le_trans hch.size hge6;have hch := hch.ta hcm6;have ha := ha.keep0 hcm6;have hneb36 := zdd hb3.lt hge6;have hb3 := hb3.k0 hcm6;refine WL.allocB (l := [.int .i64 0]) rfl rfl fun b7 wm7 hb7 hcm7 hge7 => ?_;have hgehch7 := Nat.le_trans hch.size hge7;have hch := hch.ta hcm7;have ha := ha.keep0 hcm7;have hneb37 := zdd hb3.lt hge7;have hb3 := hb3.k0 hcm7;have hneb67 := zdd hb6.lt hge7;have hb6 := hb6.k0 hcm7;refine zz (kh1 (Sr fun _ kh3 => ?_));refine WL.defer rfl ?_;refine zz (kh3 (zc fun _ kh5 => ?_));refine CW.seqM 18 (decide (¬ ((0 ≤ mode ∧ mode ≤ 4) ∧ 1 ≤ n ∧ n ≤ 1099511627776))) ?_ ?_
 ·refine zS fun _ kr6 => zm rfl ?_;refine WL.call hasF104 rfl rfl (right_spec mode _) fun v w1 h' => ?_;obtain ⟨rfl, rfl⟩ := h';refine zT rfl (zm rfl ?_);refine zb ?_ ?_<;>intro hg1<;>try simp only [qs] at hg1
  ·have hq : ¬ (0 ≤ mode ∧ mode ≤ 4) := by simpa using hg1
   refine zv rfl (zv rfl (zt rfl rfl (zm rfl (zv rfl (zv rfl (zt rfl rfl (zz (kr6 ?_))))))));refine ⟨rfl, rfl, Subs.consB rfl ?_ ?_⟩
   ·first | (simp; omega) | (refine decide_eq_decide.2 ?_; omega)
   exact SMg
  have hq : 0 ≤ mode ∧ mode ≤ 4 := by simpa using hg1
  refine zw rfl (zm rfl (zw rfl (zL rfl rfl (ze rfl rfl (zm rfl ?_)))));refine zb ?_ ?_<;>intro hg2<;>try simp only [qs] at hg2
  ·refine zv rfl (zv rfl (zt rfl rfl (zz (kr6 ?_))));refine ⟨rfl, rfl, Subs.consB rfl ?_ ?_⟩
   ·first | (simp; omega) | (refine decide_eq_decide.2 ?_; omega)
   exact SMg
  refine zw rfl (zm rfl (zw rfl (zG rfl rfl (ze rfl rfl (zz (kr6 ?_))))));refine ⟨rfl, rfl, Subs.consB rfl ?_ ?_⟩
  ·first | (simp; omega) | (refine decide_eq_decide.2 ?_; omega)
  exact SMg
 refine zy rfl ?_ ?_<;>intro hc3<;>try simp only [qs] at hc3
 ·have hbad : ¬ ((0 ≤ mode ∧ mode ≤ 4) ∧ 1 ≤ n ∧ n ≤ 1099511627776) := hc3
  refine Sr fun _ kh7 => ?_;refine WL.storeC rfl rfl o1 hb6 (by simp) rfl fun ws43 hb6_ hcs43 => ?_;(try simp only [Sx.splice, qt] at hb6_);have hch := hch.s1 hcs43;have hb7 := hb7.kq hcs43;have hb6 := hb6_;refine WL.storeC rfl rfl o1 hb7 (by simp) rfl fun ws44 hb7_ hcs44 => ?_;(try simp only [Sx.splice, qt] at hb7_);have hch := hch.s1 hcs44;have hb6 := hb6.kq hcs44;have hb7 := hb7_;refine zz (kh7 ?_);refine zr ?_;refine clean_door rfl rfl rfl hb6 hb7 hneb67 fun w9 hc9 => ?_;have hch := hch.step hc9 (fun y hy => by simp only [List.mem_singleton] at hy; subst hy; exact .inr (by omega));exact ⟨⟨_, _, rfl, .inl ⟨hbad, rfl, rfl⟩⟩, hch⟩
 have hgood : (0 ≤ mode ∧ mode ≤ 4) ∧ 1 ≤ n ∧ n ≤ 1099511627776 := by have := hc3; omega
 refine zkk (kh5 (Sr fun _ kh9 => zf rfl (zl hb3 rfl rfl (zf rfl (zl hb3 rfl rfl (zf rfl (zl hb3 rfl rfl ?_)))))));refine WL.call hasF128 rfl rfl (Make_spec na va la ea _ ha (hg0.keep0 hch) hea) fun v w2 h' => ?_;obtain ⟨hD26, hC26⟩ := h';have hch := hch.ta hC26;have hb3 := hb3.k0 hC26;have hb6 := hb6.k0 hC26;have hb7 := hb7.k0 hC26;rcases hD26 with ⟨r, d, hd, rfl, hNr⟩ | ⟨hd, rfl⟩
 ·have hok := formD_ok hd;refine zm rfl (zx rfl rfl (zx rfl rfl ?_));refine zss rfl rfl ao hb3 rfl fun ws45 hb3_ hcs45 => ?_;(try simp only [Sx.splice, qt] at hb3_);have hch := hch.s1 hcs45;have hb6 := hb6.kq hcs45;have hb7 := hb7.kq hcs45;have hNr := hNr.keepBK hb3 hcs45 an;have hb3 := hb3_;refine WL.storeC rfl rfl o1 hb7 (by simp) rfl fun ws46 hb7_ hcs46 => ?_;(try simp only [Sx.splice, qt] at hb7_);have hch := hch.s1 hcs46;have hb3 := hb3.kq hcs46;have hb6 := hb6.kq hcs46;have hNr := hNr.keepBK hb7 hcs46 an;have hb7 := hb7_;refine zz (kh9 (zc fun _ kh11 => Sr fun _ kh12 => zl hb7 rfl rfl (zN rfl rfl (zz (kh12 ?_)))));refine CW.condF rfl ?_;refine zkk (kh11 (Sr fun _ kh14 => zg hb3 rfl (zm rfl ?_)));rw [show n = ((n.toNat : Nat) : Int) by omega];refine WL.ev (Ev.build (vs := _) (cs := [_, _, _, _, _, _]) rfl rfl) rfl ?_;refine zm rfl ?_;refine WL.call hasF106 rfl rfl (told_spec d r n.toNat SP.zero mode _ hNr hok (by omega) ⟨by decide, by decide, by decide, by decide, by decide, by decide⟩ (hg0.keep0 hch)) fun v w3 h' => ?_;obtain ⟨⟨bits, e, rfl, hT⟩, hC36⟩ := h';have hch := hch.ta hC36;have hb6 := hb6.k0 hC36;have hb7 := hb7.k0 hC36;refine zx rfl rfl (zx rfl rfl ?_);refine WL.storeC rfl rfl o1 hb6 (by simp) rfl fun ws47 hb6_ hcs47 => ?_;(try simp only [Sx.splice, qt] at hb6_);have hch := hch.s1 hcs47;have hb7 := hb7.kq hcs47;have hb6 := hb6_;refine WL.storeC rfl rfl o1 hb7 (by simp) rfl fun ws48 hb7_ hcs48 => ?_;(try simp only [Sx.splice, qt] at hb7_);have hch := hch.s1 hcs48;have hb6 := hb6.kq hcs48;have hb7 := hb7_;refine zz (kh14 ?_);refine zr ?_;refine clean_door rfl rfl rfl hb6 hb7 hneb67 fun w9 hc9 => ?_;have hch := hch.step hc9 (fun y hy => by simp only [List.mem_singleton] at hy; subst hy; exact .inr (by omega));refine ⟨⟨_, _, rfl, .inr ⟨hgood, .inr ⟨d, hd, ?_⟩⟩⟩, hch⟩;rw [hT.err]; exact hT
 refine zm rfl (zx rfl rfl (zx rfl rfl ?_));refine zss rfl rfl ao hb3 rfl fun ws49 hb3_ hcs49 => ?_;have hch := hch.s1 hcs49;have hb6 := hb6.kq hcs49;have hb7 := hb7.kq hcs49;refine WL.storeC rfl rfl o1 hb7 (by simp) rfl fun ws50 hb7_ hcs50 => ?_;(try simp only [Sx.splice, qt] at hb7_);have hch := hch.s1 hcs50;have hb6 := hb6.kq hcs50;have hb7 := hb7_;refine zz (kh9 (zc fun _ kh16 => Sr fun _ kh17 => zl hb7 rfl rfl (zN rfl rfl (zz (kh17 ?_)))));refine CW.condT rfl ?_;refine Sr fun _ kh19 => zl hb7 rfl rfl ?_;refine WL.storeC rfl rfl o1 hb6 (by simp) rfl fun ws51 hb6_ hcs51 => ?_;(try simp only [Sx.splice, qt] at hb6_);have hch := hch.s1 hcs51;have hb7 := hb7.kq hcs51;have hb6 := hb6_;refine WL.storeC rfl rfl o1 hb7 (by simp) rfl fun ws52 hb7_ hcs52 => ?_;(try simp only [Sx.splice, qt] at hb7_);have hch := hch.s1 hcs52;have hb6 := hb6.kq hcs52;have hb7 := hb7_;refine zz (kh19 ?_);refine zr ?_;refine clean_door rfl rfl rfl hb6 hb7 hneb67 fun w9 hc9 => ?_;have hch := hch.step hc9 (fun y hy => by simp only [List.mem_singleton] at hy; subst hy; exact .inr (by omega));exact ⟨⟨_, _, rfl, .inr ⟨hgood, .inl ⟨hd, rfl, rfl⟩⟩⟩, hch⟩

end

/- Means as plain numbers: what told and Weighted come to; the values that the statements ask. No condition. -/
section
open Go Sx Wd
set_option exponentiation.threshold 9000

theorem intD_form {n : Nat} (h0 : n ≠ 0) (hn : n < 18446744073709551616) : ∃ t : Nat, n = (intD (n : Int)).m * 2 ^ t ∧ (intD (n : Int)).e = t ∧ (intD (n : Int)).neg = false := by
  have h := intD_eq (n := (n : Int)) (by omega)
  rw [show decide ((n : Int) < 0) = false from decide_eq_false (by omega), Int.natAbs_natCast] at h
  obtain ⟨t, h1, h2, h3⟩ := formD_val h h0
  exact ⟨t, h1, by omega, h3⟩
def MeanQ (S : Int) (n : Nat) (mode : Int) (bits : Nat) : Prop :=
  ∃ r, IsNear S.natAbs (n * 2 ^ 1073) (decide (S < 0)) mode r ∧ r ≤ 9218868437227405312 ∧ bits = (if S < 0 then r + 9223372036854775808 else r)
theorem near_is {A B : Nat} {neg : Bool} {mode : Int} {r : Nat} (hr : r < 9218868437227405312) (hB : 0 < B) (h : 2 * nz r * B = A) : IsNear A B neg mode r :=
  ⟨r, hr, Nat.le_of_eq h, .inl (by have := nz_lt_succ r; rw [← h]; exact Nat.mul_lt_mul_of_pos_right (by omega) hB), by rw [if_pos h]⟩
end

/- The order of finite numbers, by their values; the least and the greatest of two. No condition. -/
section
open Go Sx Wd
set_option exponentiation.threshold 9000
set_option maxRecDepth 4000

theorem signed_val (s : Bool) (m k : Nat) : Ieee.signed s m k = if s then -((m * 2 ^ k : Nat) : Int) else ((m * 2 ^ k : Nat) : Int) := by
  unfold Ieee.signed
  rw [Nat.shiftLeft_eq]
theorem splitP_small {x : Nat} (h1 : x % 9223372036854775808 < 4503599627370496) : splitP x = if 0 < x % 4503599627370496 then ⟨decide (x / 9223372036854775808 % 2 = 1), 1, -1074, x % 4503599627370496⟩ else ⟨decide (x / 9223372036854775808 % 2 = 1), 0, -1074, 0⟩ := by
  have e : x / 4503599627370496 % 2048 = 0 := by omega
  unfold splitP
  rw [e, if_neg (fun hh => absurd hh.1 (by decide)), if_neg (by decide), if_neg (by decide)]
theorem splitP_norm {x : Nat} (h1 : ¬ x % 9223372036854775808 < 4503599627370496) (h2 : x % 9223372036854775808 < 9218868437227405312) : splitP x = ⟨decide (x / 9223372036854775808 % 2 = 1), 2, -1074 + ((x / 4503599627370496 % 2048 : Nat) : Int) - 1, x % 4503599627370496 + 4503599627370496⟩ := by
  have e : x / 4503599627370496 % 2048 ≠ 2047 := by omega
  have e2 : 0 < x / 4503599627370496 % 2048 := by omega
  unfold splitP
  rw [if_neg (fun hh => e hh.1), if_neg e, if_pos e2]
theorem read_fin {x : Nat} (h : (splitP x).cls ≤ 2) : ∃ (m p : Nat), Ieee.double.read x = .number (x / 9223372036854775808 % 2 == 1) m ((p : Int) - 1074) ∧ fvN x = m * 2 ^ (p + 1074) ∧ nz (x % 9223372036854775808) = m * 2 ^ p ∧ (splitP x).neg = decide (x / 9223372036854775808 % 2 = 1) := by
  have hr := (cls_le2 x).1 h
  have hlp : Ieee.double.leastPlace = -1074 := by decide
  unfold Ieee.Format.read
  simp only [Fl.double_sign, Fl.double_inf, Fl.double_bin, hlp]
  by_cases h1 : x % 9223372036854775808 < 4503599627370496
  · rw [if_pos h1]
    have hs := splitP_small h1
    refine ⟨x % 9223372036854775808, 0, rfl, ?_, ?_, ?_⟩
    · unfold fvN
      rw [hs]
      by_cases h2 : 0 < x % 4503599627370496
      · rw [if_pos h2]
        dsimp only
        rw [if_pos (.inl rfl), show x % 9223372036854775808 = x % 4503599627370496 by omega]
        rfl
      · rw [if_neg h2]
        dsimp only
        rw [if_neg (by decide), show x % 9223372036854775808 = 0 by omega, Nat.zero_mul]
    · unfold nz; rw [if_pos h1]; simp
    · rw [hs]; split <;> rfl
  · rw [if_neg h1, if_pos hr]
    have hs := splitP_norm h1 hr
    refine ⟨4503599627370496 + x % 9223372036854775808 % 4503599627370496, x % 9223372036854775808 / 4503599627370496 - 1, ?_, ?_, ?_, ?_⟩
    · rw [show (-1074 : Int) + ((x % 9223372036854775808 / 4503599627370496 - 1 : Nat) : Int) = ((x % 9223372036854775808 / 4503599627370496 - 1 : Nat) : Int) - 1074 by omega]
    · unfold fvN
      rw [hs]
      dsimp only
      rw [if_pos (.inr rfl), show x % 4503599627370496 + 4503599627370496 = 4503599627370496 + x % 9223372036854775808 % 4503599627370496 by omega, show (-1074 + ((x / 4503599627370496 % 2048 : Nat) : Int) - 1 + 2148).toNat = x % 9223372036854775808 / 4503599627370496 - 1 + 1074 by omega]
    · unfold nz; rw [if_neg h1]
    · rw [hs]
theorem fvN_nz {x : Nat} (h : (splitP x).cls ≤ 2) : fvN x = nz (x % 9223372036854775808) * 2 ^ 1074 := by
  obtain ⟨m, p, _, h2, h3, _⟩ := read_fin h
  rw [h2, h3, Nat.pow_add, Nat.mul_assoc]
theorem fvI_nz {x : Nat} (h : (splitP x).cls ≤ 2) (hx : x < 18446744073709551616) : fvI x = if 9223372036854775808 ≤ x then -((nz (x % 9223372036854775808) * 2 ^ 1074 : Nat) : Int) else ((nz (x % 9223372036854775808) * 2 ^ 1074 : Nat) : Int) := by
  obtain ⟨m, p, _, _, _, h4⟩ := read_fin h
  unfold fvI
  rw [h4, fvN_nz h]
  by_cases q : 9223372036854775808 ≤ x
  · rw [if_pos (by simp; omega), if_pos q]
  · rw [if_neg (by simp; omega), if_neg q]
theorem cmp_scale {a b c : Int} (hc : 0 < c) : compare (a * c) (b * c) = compare a b := by
  show compareOfLessAndEq (a * c) (b * c) = compareOfLessAndEq a b
  unfold compareOfLessAndEq
  have h1 : a * c < b * c ↔ a < b := Int.mul_lt_mul_right hc
  have h2 : a * c = b * c ↔ a = b := ⟨fun h => Int.eq_of_mul_eq_mul_right (by omega) h, fun h => by rw [h]⟩
  by_cases q : a < b
  · rw [if_pos q, if_pos (h1.2 q)]
  · rw [if_neg q, if_neg (fun hh => q (h1.1 hh))]
    by_cases q2 : a = b
    · rw [if_pos q2, if_pos (h2.2 q2)]
    · rw [if_neg q2, if_neg (fun hh => q2 (h2.1 hh))]
theorem order_fin {x y : Nat} (hx : (splitP x).cls ≤ 2) (hy : (splitP y).cls ≤ 2) : FloatKind.f64.format.order x y = some (compare (fvI x) (fvI y)) := by
  obtain ⟨m, p, h1, h2, _, h4⟩ := read_fin hx
  obtain ⟨n, q, k1, k2, _, k4⟩ := read_fin hy
  show (Ieee.double.read x).order (Ieee.double.read y) = _
  rw [h1, k1]
  unfold Ieee.Datum.order
  dsimp only
  obtain ⟨b, hb⟩ : ∃ b : Nat, b = min p q := ⟨_, rfl⟩
  have e1 : ((p : Int) - 1074 - min ((p : Int) - 1074) ((q : Int) - 1074)).toNat = p - b := by omega
  have e2 : ((q : Int) - 1074 - min ((p : Int) - 1074) ((q : Int) - 1074)).toNat = q - b := by omega
  rw [e1, e2]
  have hc : (0 : Int) < ((2 ^ (b + 1074) : Nat) : Int) := by have := Nat.two_pow_pos (b + 1074); omega
  rw [← cmp_scale (a := Ieee.signed _ m _) (b := Ieee.signed _ n _) hc]
  have key : ∀ (s : Bool) (m p : Nat), b ≤ p → Ieee.signed s m (p - b) * ((2 ^ (b + 1074) : Nat) : Int) = if s = true then -((m * 2 ^ (p + 1074) : Nat) : Int) else ((m * 2 ^ (p + 1074) : Nat) : Int) := by
    intro s m p hbp
    have e : m * 2 ^ (p + 1074) = m * 2 ^ (p - b) * 2 ^ (b + 1074) := by
      rw [Nat.mul_assoc, ← Nat.pow_add]; congr 2; omega
    rw [signed_val, e]
    cases s
    · simp only [Bool.false_eq_true, if_false]; rw [← Int.natCast_mul]
    · simp only [if_true]; rw [Int.neg_mul, ← Int.natCast_mul]
  rw [key _ _ _ (by omega), key _ _ _ (by omega)]
  unfold fvI
  rw [h2, k2, h4, k4]
  have e5 : ∀ z : Nat, ((z / 9223372036854775808 % 2 == 1) = true) ↔ (decide (z / 9223372036854775808 % 2 = 1) = true) := fun z => by simp
  simp only [e5]
theorem icmp (a b : Int) : compare a b = if a < b then .lt else if a = b then .eq else .gt := rfl
theorem icmp_gt (a b : Int) : compare a b = .gt ↔ b < a := by
  rw [icmp]
  by_cases q : a < b
  · rw [if_pos q]; constructor
    · intro h; cases h
    · intro h; omega
  · rw [if_neg q]
    by_cases q2 : a = b
    · rw [if_pos q2]; constructor
      · intro h; cases h
      · intro h; omega
    · rw [if_neg q2]; constructor
      · intro h; omega
      · intro h; rfl
theorem fcmp_gt (a b : Int) : (some (compare a b) == some Ordering.gt) = decide (b < a) := by
  rw [Bool.eq_iff_iff]; simp [icmp_gt]
section
variable {P : Program} {s : Sl} {w : World} {ty : TypeId} {x y : Operand} {t t' : TypeId} {a b : Nat}
end
end

/- Means of finite numbers: from the least to the greatest; of like numbers; signs turned. No condition. -/
section
open Go Sx Wd
set_option exponentiation.threshold 9000

theorem fin_mod {x : Nat} (h : (splitP x).cls ≤ 2) : x % 9223372036854775808 < 9218868437227405312 := (cls_le2 x).1 h
theorem fin_of {r : Nat} (h : r < 9218868437227405312) : (splitP r).cls ≤ 2 ∧ (splitP (r + 9223372036854775808)).cls ≤ 2 := ⟨(cls_le2 r).2 (by omega), (cls_le2 _).2 (by omega)⟩
theorem fv_pos {r : Nat} (h : r < 9218868437227405312) : fvI r = (nz r * 2 ^ 1074 : Nat) := by
  rw [fvI_nz (fin_of h).1 (by omega), if_neg (by omega), Nat.mod_eq_of_lt (by omega)]
theorem nz_zero {k : Nat} : nz k = 0 ↔ k = 0 := by
  constructor
  · intro h
    apply Classical.byContradiction
    intro h0
    have := nz_mono (show 0 < k by omega)
    omega
  · intro h; rw [h]; decide
end

/- The nearest number to a value; forms of sums, put against one another. No condition. -/
section
open Go Sx Wd
set_option exponentiation.threshold 9000

/-! ### Forms of sums -/
theorem mulD_int {S : Int} {n : Nat} (h : InB S) (hn : n ≠ 0) (hn2 : n < 18446744073709551616) (hP : InB (S * (n : Int))) : mulD (sumD S) (intD (n : Int)) = some (sumD (S * (n : Int))) := by
  have hok := rsumD_ok h
  have hok2 := intD_ok (n := (n : Int)) (by omega)
  rw [← mulD_form hok hok2]
  obtain ⟨t, q1, q2, q3⟩ := intD_form hn hn2
  by_cases h0 : S = 0
  · subst h0
    rw [show (sumD 0).m = 0 from rfl, Nat.zero_mul, formD_zero, Int.zero_mul]; rfl
  · obtain ⟨a, h1, h2, h3⟩ := sumD_up h h0
    have hS : S * (n : Int) ≠ 0 := by
      intro q
      rcases Int.mul_eq_zero.1 q with q | q
      · exact h0 q
      · omega
    have hv : (S * (n : Int)).natAbs = (sumD S).m * (intD (n : Int)).m * 2 ^ (a + t) := by
      rw [Int.natAbs_mul, Int.natAbs_natCast, h1, Nat.pow_add]
      calc (sumD S).m * 2 ^ a * n = (sumD S).m * 2 ^ a * ((intD (n : Int)).m * 2 ^ t) := by rw [← q1]
        _ = _ := by simp only [Nat.mul_comm, Nat.mul_left_comm, Nat.mul_assoc]
    rw [← formD_scale (k := a + t) (f := -2148) (by omega), ← hv, h3, q3]
    refine sumD_some hP fun _ => ?_
    have : (S * (n : Int) < 0) ↔ S < 0 := by
      constructor
      · intro q
        apply Int.lt_of_not_ge; intro q2
        have := Int.mul_nonneg q2 (show (0 : Int) ≤ n by omega)
        omega
      · intro q; exact Int.mul_neg_of_neg_of_pos q (by omega)
    rw [Bool.bne_false]
    exact decide_eq_decide.2 this.symm
theorem splitP_exp {x : Nat} (h : (splitP x).cls = 1 ∨ (splitP x).cls = 2) : -1074 ≤ (splitP x).exp := by
  unfold splitP at h ⊢
  by_cases a : x / 4503599627370496 % 2048 = 2047 ∧ x % 4503599627370496 ≠ 0
  · rw [if_pos a] at h; simp at h
  · rw [if_neg a] at h ⊢
    by_cases b : x / 4503599627370496 % 2048 = 2047
    · rw [if_pos b] at h; simp at h
    · rw [if_neg b] at h ⊢
      by_cases d : 0 < x / 4503599627370496 % 2048
      · rw [if_pos d] at h ⊢; dsimp only; omega
      · rw [if_neg d] at h ⊢
        by_cases f : 0 < x % 4503599627370496
        · rw [if_pos f]; simp
        · rw [if_neg f]; simp
theorem fin_form {x : Nat} (h : (splitP x).cls = 1 ∨ (splitP x).cls = 2) : formD (splitP x).neg (splitP x).frac (splitP x).exp = some (sumD (fvI x)) := by
  have he := splitP_exp h
  rw [← formD_scale (k := ((splitP x).exp + 2148).toNat) (f := -2148) (by omega)]
  have e1 : fvN x = (splitP x).frac * 2 ^ ((splitP x).exp + 2148).toNat := by unfold fvN; rw [if_pos h]
  rw [← e1, ← rfvI_abs]
  refine sumD_some (fvI_in x) fun hn => ?_
  unfold fvI at hn ⊢
  cases hg : (splitP x).neg
  · rw [if_neg (by decide)]; exact (decide_eq_false (by omega)).symm
  · rw [hg, if_pos rfl] at hn
    rw [if_pos rfl]; exact (decide_eq_true (by omega)).symm
theorem bl_sgn {x y : Nat} : (bl x < bl y → sgn x y = -1) ∧ (bl y < bl x → sgn x y = 1) := by
  constructor
  · intro h
    have h1 := bl_lt x
    have h2 := lt_bl.1 (show bl y - 1 < bl y by omega)
    have h3 := Nat.pow_le_pow_right (n := 2) (by decide) (show bl x ≤ bl y - 1 by omega)
    unfold sgn; rw [if_pos (by omega)]
  · intro h
    have h1 := bl_lt y
    have h2 := lt_bl.1 (show bl x - 1 < bl x by omega)
    have h3 := Nat.pow_le_pow_right (n := 2) (by decide) (show bl y ≤ bl x - 1 by omega)
    unfold sgn; rw [if_neg (by omega), if_pos (by omega)]
theorem sgn_swap (a b : Nat) : -sgn a b = sgn b a := by
  unfold sgn
  split <;> split <;> (try split) <;> omega
def cmpV (m : Nat) (e : Int) (n : Nat) (f : Int) : Int := sgn (m * 2 ^ (e - min e f).toNat) (n * 2 ^ (f - min e f).toNat)
def cmpD (na : Bool) (m : Nat) (e : Int) (nb : Bool) (n : Nat) (f : Int) : Int :=
  if sgD na m < sgD nb n then -1 else if sgD nb n < sgD na m then 1 else if sgD na m = 0 then 0 else sgD na m * cmpV m e n f
theorem cmpV_sum {S T : Int} (hS : InB S) (hT : InB T) (h0 : S ≠ 0) (h1 : T ≠ 0) : cmpV (sumD S).m (sumD S).e (sumD T).m (sumD T).e = sgn S.natAbs T.natAbs := by
  obtain ⟨a, a1, a2, _⟩ := sumD_up hS h0
  obtain ⟨b, b1, b2, _⟩ := sumD_up hT h1
  unfold cmpV
  obtain ⟨c, hc⟩ : ∃ c, c = min a b := ⟨_, rfl⟩
  have he : min (sumD S).e (sumD T).e = -2148 + (c : Int) := by omega
  rw [he, show ((sumD S).e - (-2148 + (c : Int))).toNat = a - c by omega, show ((sumD T).e - (-2148 + (c : Int))).toNat = b - c by omega]
  have hp : S.natAbs = (sumD S).m * 2 ^ (a - c) * 2 ^ c := by rw [Nat.mul_assoc, ← Nat.pow_add, show a - c + c = a by omega]; exact a1
  have hq : T.natAbs = (sumD T).m * 2 ^ (b - c) * 2 ^ c := by rw [Nat.mul_assoc, ← Nat.pow_add, show b - c + c = b by omega]; exact b1
  rw [hp, hq]
  generalize (sumD S).m * 2 ^ (a - c) = p
  generalize (sumD T).m * 2 ^ (b - c) = q
  have hc2 := Nat.two_pow_pos c
  unfold sgn
  have k1 : p * 2 ^ c < q * 2 ^ c ↔ p < q := ⟨fun h => Nat.lt_of_mul_lt_mul_right h, fun h => Nat.mul_lt_mul_of_pos_right h hc2⟩
  have k2 : q * 2 ^ c < p * 2 ^ c ↔ q < p := ⟨fun h => Nat.lt_of_mul_lt_mul_right h, fun h => Nat.mul_lt_mul_of_pos_right h hc2⟩
  simp only [k1, k2]
theorem cmpD_sum {S T : Int} (hS : InB S) (hT : InB T) : cmpD (sumD S).neg (sumD S).m (sumD S).e (sumD T).neg (sumD T).m (sumD T).e = if S < T then -1 else if T < S then 1 else 0 := by
  have s1 := sumD_sg hS.1 hS.2
  have s2 := sumD_sg hT.1 hT.2
  unfold cmpD
  rw [s1, s2]
  by_cases h0 : S = 0
  · subst h0
    by_cases h1 : T = 0
    · subst h1; rfl
    · by_cases h2 : T < 0
      · simp [h2]; omega
      · simp [h1, h2]; omega
  · by_cases h1 : T = 0
    · subst h1
      by_cases h2 : S < 0
      · simp [h2]
      · simp [h0, h2]; omega
    · have hv := cmpV_sum hS hT h0 h1
      rw [hv]
      unfold sgn
      by_cases h2 : S < 0 <;> by_cases h3 : T < 0
      · simp only [h2, h3, if_true]
        simp only [show ¬ ((-1 : Int) < -1) by omega, show ¬ ((-1 : Int) = 0) by omega, if_false]
        by_cases q1 : S < T
        · rw [if_pos q1, if_neg (by omega), if_pos (by omega)]; decide
        · rw [if_neg q1]
          by_cases q2 : T < S
          · rw [if_pos q2, if_pos (by omega)]; decide
          · rw [if_neg q2, if_neg (by omega), if_neg (by omega)]; decide
      · simp only [h2, h3, h1, if_true, if_false]
        rw [if_pos (by decide), if_pos (by omega)]
      · simp only [h2, h3, h0, if_true, if_false]
        rw [if_neg (by decide), if_pos (by decide), if_neg (by omega), if_pos (by omega)]
      · simp only [h2, h3, h0, h1, if_false]
        simp only [show ¬ ((1 : Int) < 1) by omega, show ¬ ((1 : Int) = 0) by omega, if_false]
        by_cases q1 : S < T
        · rw [if_pos q1, if_pos (by omega)]; decide
        · rw [if_neg q1]
          by_cases q2 : T < S
          · rw [if_pos q2, if_neg (by omega), if_pos (by omega)]; decide
          · rw [if_neg q2, if_neg (by omega), if_neg (by omega)]; decide
end

/- Package dyad: size, Cmp. No condition. -/
section
open Go Sx Wd Fl

theorem bl_W {l : List Nat} {k : Nat} (h : W l) (hk : l.length ≤ k) : bl (val l) ≤ 32 * k :=
  bl_le.2 (Nat.lt_of_lt_of_le (val_lt h) (Nat.pow_le_pow_right (by decide) (by omega)))
theorem wrap_sub {a b : Int} {d : Nat} (h : (d : Int) = a - b) (hd : d < 18446744073709551616) : IntKind.u64.wrap (IntKind.u64.wrap a - IntKind.u64.wrap b) = (d : Int) := by
  simp only [IntKind.wrap_u64]
  omega

theorem sizeGe_spec (na nb : Bool) (va vb : Value) (la lb : List Nat) (ea eb : Int) (w : World) (ha : NU w va la) (hb : NU w vb lb) (hla : la.length ≤ 1000000) (hlb : lb.length ≤ 1000000) (hea : -1000000000000 ≤ ea ∧ ea ≤ 1000000000000) (heb : -1000000000000 ≤ eb ∧ eb ≤ 1000000000000) (hz : val la ≠ 0) (hge : eb ≤ ea) (d : Nat) (hd : (d : Int) = ea - eb) : Ret Tryz.prog 265 [.agg [.bool na, va, .int .i64 ea].toArray, .agg [.bool nb, vb, .int .i64 eb].toArray] w fun u w' => u = .int .i64 (sgn (val la * 2 ^ d) (val lb)) ∧ Chg [] w w' := by
 have ha0 := ha;have hb0 := hb;have hoa := ha.one;have hob := hb.one;have hch := crf w;have hba := bl_W ha.hw hla;have hbb := bl_W hb.hw hlb;have hlw := wd_length_val_le ha.hw;refine zE2 Tryz.func265 rfl ?_;refine Sr fun _ kh1 => ?_;refine zBh rfl rfl rfl hch fun b2 wm2 hb2 hcm2 hge2 hgehch2 hch => ?_;refine zBh rfl rfl rfl hch fun b3 wm3 hb3 hcm3 hge3 hgehch3 hch => ?_;have hneb23 := zdd hb2.lt hge3;have hb2 := hb2.k0 hcm3;refine za rfl (zz (kh1 (zc fun _ kh3 => Sr fun _ kh4 => zf rfl (zl hb2 rfl rfl (zf rfl (zl hb3 rfl rfl (zL rfl rfl ?_)))))));rw [decide_eq_false (show ¬ ea < eb by omega)];refine zz (kh4 ?_);refine CW.condF rfl ?_;refine zkk (kh3 (Sr fun _ kh6 => zf rfl (zl hb2 rfl rfl ?_)));refine WL.ev (Ev.conv rfl rfl) rfl ?_;refine zf rfl (zl hb3 rfl rfl ?_);refine WL.ev (Ev.conv rfl rfl) rfl ?_;refine WL.ev (Ev.sub rfl rfl) rfl ?_;rw [wrap_sub hd (by omega)];refine za rfl (zz (kh6 (zc fun _ kh8 => ?_)));refine CW.regionHC 10 rfl hmix fun kR9 kr9 hS hdr => ?_;have hch := hch.ta hdr;have hb2 := hb2.k0 hdr;have hb3 := hb3.k0 hdr;have hb2_r := hb2;have hb3_r := hb3;refine wh 0 rfl hS (eF rfl) (wh 1 rfl hS (fun _ hw' => Ev.load rfl rfl ((hb2_r.keep0 hw').at_ rfl)) (wh 4 rfl hS (eF rfl) (wh 5 rfl hS (fun _ hw' => Ev.load rfl rfl ((hb3_r.keep0 hw').at_ rfl)) ?_)));refine WH.oneCall 2 rfl (by kernel_rfl) hasF184 rfl rfl (Len_spec _ la _ (ha0.keep0 hch)) fun v w1 h' => ?_;obtain ⟨rfl, rfl⟩ := h';refine ⟨hS, ?_⟩;refine wh 3 rfl hS (fun _ _ => Ev.convIn rfl rfl (in_u64 (by omega))) ?_;refine WH.oneCall 6 rfl (by kernel_rfl) hasF184 rfl rfl (Len_spec _ lb _ (hb0.keep0 hch)) fun v w2 h' => ?_;obtain ⟨rfl, rfl⟩ := h';refine ⟨hS, ?_⟩;refine wh 7 rfl hS (fun _ _ => Ev.convIn rfl rfl (in_u64 (by omega))) (wh 8 rfl hS (eA rfl) (wh 9 rfl hS (eA rfl) ?_));refine WH.done (by kernel_rfl) (kr9 _ _ _ ?_);refine kh8 (zc fun _ kh10 => CW.block ?_);refine CW.seqM 32 (decide (bl (val lb) < bl (val la) + d)) ?_ ?_
 ·refine zS fun _ kr11 => zm rfl (zm rfl (zG rfl rfl (zm rfl ?_)));refine zb ?_ ?_<;>intro hg1<;>try simp only [qs] at hg1
  ·refine zv rfl (zv rfl (zv rfl (zv rfl (zv rfl (zt rfl rfl (za rfl (zz (kr11 ?_))))))));refine ⟨rfl, rfl, Subs.consB rfl ?_ ?_⟩
   ·first | (simp; omega) | (simp_all; done) | (refine decide_eq_decide.2 ?_; omega)
   exact SMg
  refine zw rfl (zm rfl (zw rfl (zm rfl (zw rfl ?_))))
  first | refine WL.ev (Ev.add64In rfl rfl (by omega)) rfl ?_ | refine WL.ev (Ev.add64 rfl rfl) rfl ?_
  refine zw rfl (zm rfl (zw rfl (zG rfl rfl (ze rfl rfl (za rfl (zz (kr11 ?_)))))));refine ⟨rfl, rfl, Subs.consB rfl ?_ ?_⟩
  ·first | (simp; omega) | (simp_all; done) | (refine decide_eq_decide.2 ?_; omega)
  exact SMg
 refine zy rfl ?_ ?_<;>intro hc2<;>try simp only [qs] at hc2
 ·have hq : bl (val lb) < bl (val la) + d := hc2
  refine Sr fun _ kh12 => za rfl (zz (kh12 ?_));refine zr (zr1 rfl rfl ?_);refine ⟨?_, hch⟩;rw [bl_sgn.2 (by rw [bl_mul_pow hz]; exact hq)]
 have hq : ¬ bl (val lb) < bl (val la) + d := hc2;refine Sr fun _ kh14 => zm rfl (zm rfl ?_)
 first | refine WL.ev (Ev.add64In rfl rfl (by omega)) rfl ?_ | refine WL.ev (Ev.add64 rfl rfl) rfl ?_
 refine zm rfl (zL rfl rfl (za rfl (zz (kh14 ?_))));refine zy rfl ?_ ?_<;>intro hc3<;>try simp only [qs] at hc3
 ·have hq2 : bl (val la) + d < bl (val lb) := by have := hc3; omega
  refine Sr fun _ kh16 => za rfl (zz (kh16 ?_));refine zr (zr1 rfl rfl ?_);refine ⟨?_, hch⟩;rw [bl_sgn.1 (by rw [bl_mul_pow hz]; exact hq2)]
 refine zkk (kh10 (zc fun _ kh18 => ?_));refine CW.regionHC 10 rfl hmix fun kR19 kr19 hS hdr => ?_;have hch := hch.ta hdr;have hb2 := hb2.k0 hdr;have hb3 := hb3.k0 hdr;have hb2_r := hb2;have hb3_r := hb3;refine wh 0 rfl hS (eF rfl) (wh 1 rfl hS (fun _ hw' => Ev.load rfl rfl ((hb2_r.keep0 hw').at_ rfl)) (wh 3 rfl hS (eM rfl) (wh 4 rfl hS (fun _ _ => Ev.convIn rfl rfl (in_i64 (by omega))) (wh 6 rfl hS (eF rfl) (wh 7 rfl hS (fun _ hw' => Ev.load rfl rfl ((hb3_r.keep0 hw').at_ rfl)) ?_)))));refine WH.oneCall 2 rfl (by kernel_rfl) hasF256 rfl rfl (Norm_spec _ la _ (ha0.keep0 hch)) fun v w3 h' => ?_;obtain ⟨hN, hC⟩ := h';have hch := hch.ta hC;have hS := hS.trans hC;refine ⟨hS, ?_⟩;refine WH.oneCall 5 rfl (by kernel_rfl) hasF314 rfl rfl (higher_spec _ (wd (val la)) d _ _ _ hN (by omega) (by omega) rfl rfl) fun v w4 h' => ?_;obtain ⟨L, hL, hvL, hC⟩ := h';have hch := hch.ta hC;have hS := hS.trans hC;refine ⟨hS, ?_⟩;refine WH.oneCall 8 rfl (by kernel_rfl) hasF175 rfl rfl (Cmp_spec _ _ L lb _ hL (hb0.keep0 hch)) fun v w5 h' => ?_;obtain ⟨rfl, hC⟩ := h';have hch := hch.ta hC;have hS := hS.trans hC;refine ⟨hS, ?_⟩;refine wh 9 rfl hS (eA rfl) ?_;refine WH.done (by kernel_rfl) (kr19 _ _ _ ?_);refine kh18 ?_;refine zr (zr1 rfl rfl ?_);refine ⟨?_, hch⟩;rw [hvL, val_wd]

theorem sizeLt_spec (na nb : Bool) (va vb : Value) (la lb : List Nat) (ea eb : Int) (w : World) (ha : NU w va la) (hb : NU w vb lb) (hla : la.length ≤ 1000000) (hlb : lb.length ≤ 1000000) (hea : -1000000000000 ≤ ea ∧ ea ≤ 1000000000000) (heb : -1000000000000 ≤ eb ∧ eb ≤ 1000000000000) (hza : val la ≠ 0) (hzb : val lb ≠ 0) (hlt : ea < eb) : Ret Tryz.prog 265 [.agg [.bool na, va, .int .i64 ea].toArray, .agg [.bool nb, vb, .int .i64 eb].toArray] w fun u w' => u = .int .i64 (cmpV (val la) ea (val lb) eb) ∧ Chg [] w w' := by
 have ha0 := ha;have hb0 := hb;have hoa := ha.one;have hob := hb.one;have hch := crf w;obtain ⟨d, hd⟩ : ∃ d : Nat, (d : Int) = eb - ea := ⟨(eb - ea).toNat, by omega⟩;refine zE2 Tryz.func265 rfl ?_;refine Sr fun _ kh1 => ?_;refine zBh rfl rfl rfl hch fun b2 wm2 hb2 hcm2 hge2 hgehch2 hch => ?_;refine zBh rfl rfl rfl hch fun b3 wm3 hb3 hcm3 hge3 hgehch3 hch => ?_;have hneb23 := zdd hb2.lt hge3;have hb2 := hb2.k0 hcm3;refine za rfl (zz (kh1 (zc fun _ kh3 => Sr fun _ kh4 => zf rfl (zl hb2 rfl rfl (zf rfl (zl hb3 rfl rfl (zL rfl rfl ?_)))))));rw [decide_eq_true hlt];refine zz (kh4 ?_);refine CW.condT rfl ?_;refine Sr fun _ kh6 => zg hb3 rfl (zg hb2 rfl ?_);refine WL.call hasF265 rfl rfl (sizeGe_spec nb na _ _ lb la eb ea _ (hb0.keep0 hch) (ha0.keep0 hch) hlb hla heb hea hzb (by omega) d hd) fun v w1 h' => ?_;obtain ⟨rfl, hC⟩ := h';have hsg := sgn_swap (val lb * 2 ^ d) (val la);have hs1 : -1 ≤ sgn (val lb * 2 ^ d) (val la) ∧ sgn (val lb * 2 ^ d) (val la) ≤ 1 := by unfold sgn; split <;> (try split) <;> omega
 have hch := hch.ta hC;refine WL.ev (Ev.negIn rfl (by omega)) rfl ?_;refine za rfl (zz (kh6 ?_));refine zr (zr1 rfl rfl ?_);refine ⟨?_, hch⟩;rw [hsg];unfold cmpV;rw [show (ea - min ea eb).toNat = 0 by omega, show (eb - min ea eb).toNat = d by omega, Nat.pow_zero, Nat.mul_one]

theorem dsize_spec (na nb : Bool) (va vb : Value) (la lb : List Nat) (ea eb : Int) (w : World) (ha : NU w va la) (hb : NU w vb lb) (hla : la.length ≤ 1000000) (hlb : lb.length ≤ 1000000) (hea : -1000000000000 ≤ ea ∧ ea ≤ 1000000000000) (heb : -1000000000000 ≤ eb ∧ eb ≤ 1000000000000) (hza : val la ≠ 0) (hzb : val lb ≠ 0) : Ret Tryz.prog 265 [.agg [.bool na, va, .int .i64 ea].toArray, .agg [.bool nb, vb, .int .i64 eb].toArray] w fun u w' => u = .int .i64 (cmpV (val la) ea (val lb) eb) ∧ Chg [] w w' := by
  by_cases h : ea < eb
  · exact sizeLt_spec na nb va vb la lb ea eb w ha hb hla hlb hea heb hza hzb h
  obtain ⟨d, hd⟩ : ∃ d : Nat, (d : Int) = ea - eb := ⟨(ea - eb).toNat, by omega⟩;refine (sizeGe_spec na nb va vb la lb ea eb w ha hb hla hlb hea heb hza (by omega) d hd).mono fun u w' ⟨h1, h2⟩ => ⟨?_, h2⟩;rw [h1];unfold cmpV;rw [show (ea - min ea eb).toNat = d by omega, show (eb - min ea eb).toNat = 0 by omega, Nat.pow_zero, Nat.mul_one]

theorem sgD_range (neg : Bool) (n : Nat) : -1 ≤ sgD neg n ∧ sgD neg n ≤ 1 := by unfold sgD; split <;> (try split) <;> omega
theorem cmpV_range (m : Nat) (e : Int) (n : Nat) (f : Int) : -1 ≤ cmpV m e n f ∧ cmpV m e n f ≤ 1 := by unfold cmpV sgn; split <;> (try split) <;> omega
theorem mul_small {a b : Int} (ha : -1 ≤ a ∧ a ≤ 1) (hb : -1 ≤ b ∧ b ≤ 1) : -9223372036854775808 ≤ a * b ∧ a * b ≤ 9223372036854775807 := by
  rcases (by omega : a = -1 ∨ a = 0 ∨ a = 1) with rfl | rfl | rfl <;> rcases (by omega : b = -1 ∨ b = 0 ∨ b = 1) with rfl | rfl | rfl <;> decide

theorem dCmp_spec (na nb : Bool) (va vb : Value) (la lb : List Nat) (ea eb : Int) (w : World) (ha : NU w va la) (hb : NU w vb lb) (hla : la.length ≤ 1000000) (hlb : lb.length ≤ 1000000) (hea : -1000000000000 ≤ ea ∧ ea ≤ 1000000000000) (heb : -1000000000000 ≤ eb ∧ eb ≤ 1000000000000) : Ret Tryz.prog 180 [.agg [.bool na, va, .int .i64 ea].toArray, .agg [.bool nb, vb, .int .i64 eb].toArray] w fun u w' => u = .int .i64 (cmpD na (val la) ea nb (val lb) eb) ∧ Chg [] w w' := by
 have ha0 := ha;have hb0 := hb;have hoa := ha.one;have hob := hb.one;have hch := crf w;have hr1 := sgD_range na (val la);have hr2 := sgD_range nb (val lb);refine zE2 Tryz.func180 rfl ?_;refine Sr fun _ kh1 => ?_;refine zBh rfl rfl rfl hch fun b2 wm2 hb2 hcm2 hge2 hgehch2 hch => ?_;refine zBh rfl rfl rfl hch fun b3 wm3 hb3 hcm3 hge3 hgehch3 hch => ?_;have hneb23 := zdd hb2.lt hge3;have hb2 := hb2.k0 hcm3;refine za rfl (zz (kh1 (zc fun _ kh3 => ?_)));refine CW.regionHC 6 rfl hmix fun kR4 kr4 hS hdr => ?_;have hch := hch.ta hdr;have hb2 := hb2.k0 hdr;have hb3 := hb3.k0 hdr;have hb2_r := hb2;have hb3_r := hb3;refine wh 0 rfl hS (fun _ hw' => Ev.loadA rfl rfl (hb2_r.keep0 hw') rfl) (wh 2 rfl hS (fun _ hw' => Ev.loadA rfl rfl (hb3_r.keep0 hw') rfl) ?_);refine WH.oneCall 1 rfl (by kernel_rfl) hasF93 rfl rfl (Sign_dspec na _ la ea _ (ha0.keep0 hch)) fun v w1 h' => ?_;obtain ⟨rfl, hC⟩ := h';have hch := hch.ta hC;have hb2 := hb2.k0 hC;have hb3 := hb3.k0 hC;have hS := hS.trans hC;refine ⟨hS, ?_⟩;refine WH.oneCall 3 rfl (by kernel_rfl) hasF93 rfl rfl (Sign_dspec nb _ lb eb _ (hb0.keep0 hch)) fun v w2 h' => ?_;obtain ⟨rfl, hC⟩ := h';have hch := hch.ta hC;have hb2 := hb2.k0 hC;have hb3 := hb3.k0 hC;have hS := hS.trans hC;refine ⟨hS, ?_⟩;refine wh 4 rfl hS (eA rfl) (wh 5 rfl hS (eA rfl) ?_);refine WH.done (by kernel_rfl) (kr4 _ _ _ ?_);refine kh3 (zc fun _ kh5 => CW.block (Sr fun _ kh6 => zm rfl (zm rfl (zL rfl rfl (za rfl (zz (kh6 ?_)))))));refine zy rfl ?_ ?_<;>intro hc1<;>try simp only [qs] at hc1
 ·have hq : (sgD na (val la)) < (sgD nb (val lb)) := hc1
  refine Sr fun _ kh8 => za rfl (zz (kh8 ?_));refine zr (zr1 rfl rfl ?_);refine ⟨?_, hch⟩;unfold cmpD; rw [if_pos hq]
 have hq : ¬ (sgD na (val la)) < (sgD nb (val lb)) := by have := hc1; omega
 refine Sr fun _ kh10 => zm rfl (zm rfl (zG rfl rfl (za rfl (zz (kh10 ?_)))));refine zy rfl ?_ ?_<;>intro hc2<;>try simp only [qs] at hc2
 ·have hq2 : (sgD nb (val lb)) < (sgD na (val la)) := hc2
  refine Sr fun _ kh12 => za rfl (zz (kh12 ?_));refine zr (zr1 rfl rfl ?_);refine ⟨?_, hch⟩;unfold cmpD; rw [if_neg hq, if_pos hq2]
 have hq2 : ¬ (sgD nb (val lb)) < (sgD na (val la)) := by have := hc2; omega
 refine Sr fun _ kh14 => zm rfl (zq rfl rfl (za rfl (zz (kh14 ?_))));refine zy rfl ?_ ?_<;>intro hc3<;>try simp only [qs] at hc3
 ·have hq3 : (sgD na (val la)) = 0 := hc3
  refine Sr fun _ kh16 => za rfl (zz (kh16 ?_));refine zr (zr1 rfl rfl ?_);refine ⟨?_, hch⟩;unfold cmpD; rw [if_neg hq, if_neg hq2, if_pos hq3]
 have hq3 : ¬ (sgD na (val la)) = 0 := hc3;have hza : val la ≠ 0 := fun q => hq3 (sgD_zero.2 q);have hzb : val lb ≠ 0 := fun q => by have := sgD_zero (neg := nb).2 q; omega
 refine zkk (kh5 (Sr fun _ kh18 => zm rfl (zg hb2 rfl (zg hb3 rfl ?_))));refine WL.call hasF265 rfl rfl (dsize_spec na nb _ _ la lb ea eb _ (ha0.keep0 hch) (hb0.keep0 hch) hla hlb hea heb hza hzb) fun v w3 h' => ?_;obtain ⟨rfl, hC⟩ := h';have hcv := cmpV_range (val la) ea (val lb) eb;have hch := hch.ta hC;refine WL.ev (Ev.mulIn rfl rfl (mul_small hr1 hcv)) rfl ?_;refine za rfl (zz (kh18 ?_));refine zr (zr1 rfl rfl ?_);refine ⟨?_, hch⟩;unfold cmpD; rw [if_neg hq, if_neg hq2, if_neg hq3]

end

/- Maps keyed by whole numbers, in the engine. No condition. -/
namespace Sx
open Go

structure ME where
  key : Int
  val : Value
  born : Nat
def meV (kk : IntKind) (e : ME) : MapEntry := ⟨.int kk e.key, e.val, e.born⟩
def mapO (kk : IntKind) (es : List ME) (c : Nat) : Obj := .map (es.map (meV kk)).toArray c
section
variable {P : Program} {t key elem : TypeId} {kk : IntKind} {w : World} {sk bk : Nat} {zk : Value}
end

section
variable {P : Program} {n : Nat} {D : List Deferred} {s : Sl} {w : World} {ty : TypeId} {x y z : Operand} {ops : Array Oper} {K : KK} {rest : List Oper} {pos : String} {af : Array Edge} {d : Nat}
variable {t key elem : TypeId} {kk : IntKind} {sz by_ sk bk se be : Nat} {zt zk ze : Value} {de : TypeDesc} {r c : Nat} {es : List ME} {k : Int}
/-! A range over a map -/
end
end Sx

/- The walks of the small functions on numbers' bits. No condition. -/
section
open Go Sx Fl

theorem andNot_top (b : Nat) (h : 9223372036854775808 ≤ b) (hb : b < 18446744073709551616) : bits2 .andNot .u64 (b : Int) 9223372036854775808 = (b : Int) - 9223372036854775808 := by
  have e : (BitVec.ofInt 64 (b : Int) &&& ~~~BitVec.ofInt 64 9223372036854775808).toNat = b - 9223372036854775808 := by
    rw [BitVec.toNat_and, BitVec.toNat_not]
    have h1 : (BitVec.ofInt 64 (b : Int)).toNat = b := by simp [BitVec.toNat_ofInt]; omega
    have h2 : (BitVec.ofInt 64 9223372036854775808).toNat = 9223372036854775808 := by decide
    rw [h1, h2]
    have h3 : b &&& (2 ^ 64 - 1 - 9223372036854775808) = b % 2 ^ 63 := by
      rw [← Nat.and_two_pow_sub_one_eq_mod]
    rw [h3]
    omega
  show IntKind.u64.wrap ((BitVec.ofInt 64 (b : Int) &&& ~~~BitVec.ofInt 64 9223372036854775808).toNat : Int) = _
  rw [e, IntWalk.u64_in _ (by omega)]
  omega
theorem compl_i64 (n : Int) (h0 : 0 ≤ n) (h1 : n ≤ 9223372036854775807) : bits2 .xor .i64 (-1) n = -1 - n := by
  have e : (BitVec.ofInt 64 (-1) ^^^ BitVec.ofInt 64 n).toNat = 18446744073709551615 - n.toNat := by
    have ha : BitVec.ofInt 64 (-1) = BitVec.allOnes 64 := by decide
    rw [ha, BitVec.allOnes_xor, BitVec.toNat_not]
    have h2 : (BitVec.ofInt 64 n).toNat = n.toNat := by simp [BitVec.toNat_ofInt]; omega
    rw [h2]
  show IntKind.i64.wrap ((BitVec.ofInt 64 (-1) ^^^ BitVec.ofInt 64 n).toNat : Int) = _
  rw [e, IntKind.wrap_i64]
  omega
theorem shr63 (b : Nat) (hb : b < 18446744073709551616) : (b : Int).fdiv (2 ^ (min (63 : Int).toNat IntKind.u64.bits)) = if 9223372036854775808 ≤ b then 1 else 0 := by
  show (b : Int).fdiv 9223372036854775808 = _
  rw [Int.fdiv_eq_ediv_of_nonneg _ (by omega)]
  split <;> omega
theorem key_neg (b : Nat) (hb : b < 18446744073709551616) (h1 : isNaN b = false) (h2 : (b : Int).fdiv (2 ^ (min (63 : Int).toNat IntKind.u64.bits)) = 1) :
    bits2 .xor .i64 (if IntKind.i64.signed then -1 else IntKind.i64.max) (IntKind.i64.wrap (bits2 .andNot .u64 (b : Int) 9223372036854775808)) = key b := by
  rw [shr63 b hb] at h2
  have h3 : 9223372036854775808 ≤ b := by
    by_cases h : 9223372036854775808 ≤ b
    · exact h
    · rw [if_neg h] at h2; cases h2
  rw [key_neg_eq h1 h3, andNot_top b h3 hb, wrap_i64 (by omega)]
  exact compl_i64 _ (by omega) (by omega)
theorem key_pos (b : Nat) (hb : b < 18446744073709551616) (h1 : isNaN b = false) (h2 : ¬ (b : Int).fdiv (2 ^ (min (63 : Int).toNat IntKind.u64.bits)) = 1) : IntKind.i64.wrap (b : Int) = key b := by
  rw [shr63 b hb] at h2
  have h3 : b < 9223372036854775808 := by
    by_cases h : 9223372036854775808 ≤ b
    · rw [if_pos h] at h2; exact absurd rfl h2
    · omega
  rw [key_pos_eq h1 h3, wrap_i64 (by omega)]
theorem math_IsNaN_spec (b : Nat) (w : World) : Ret Tryz.prog 124 [.float .f64 b] w fun v w' => v = .bool (isNaN b) ∧ w = w' := by
 refine Ret.enter Tryz.func124 rfl rfl ?_;refine Sr fun _ kh1 => za rfl (zz (kh1 (Sr fun _ kh3 => zm rfl (zm rfl ?_))));refine WL.ev (Ev.fneq rfl rfl) rfl ?_;refine za rfl (zz (kh3 ?_));refine zr (zr1 rfl rfl ?_);exact ⟨by rw [order_self], rfl⟩

theorem bits_NaN_spec (w : World) : Ret Tryz.prog 97 [] w fun v w' => v = .float .f64 9221120237041090560 ∧ w = w' := by
 refine Ret.enter Tryz.func97 rfl rfl ?_;refine Sr fun _ kh1 => za rfl (zz (kh1 (Sr fun _ kh3 => ?_)));refine WL.ev (Ev.ext rfl (ext87 _ _)) rfl ?_;refine za rfl (zz (kh3 ?_));refine zr (zr1 rfl rfl ?_);exact ⟨rfl, rfl⟩

theorem bits_key_spec (b : Nat) (hb : b < 18446744073709551616) (w : World) : Ret Tryz.prog 170 [.float .f64 b] w fun v w' => v = .int .i64 (key b) ∧ w = w' := by
 refine Ret.enter Tryz.func170 rfl rfl ?_;refine Sr fun _ kh1 => za rfl (zz (kh1 (zc fun _ kh3 => Sr fun _ kh4 => zm rfl (zm rfl ?_))));refine WL.ev (Ev.fneq rfl rfl) rfl ?_;refine zz (kh4 ?_);refine zy rfl (fun hc1 => ?_) fun hc1 => ?_
 ·rw [order_self] at hc1;refine Sr fun _ kh6 => za rfl (zz (kh6 ?_));refine zr (zr1 rfl rfl ?_);exact ⟨by simp [key, hc1], rfl⟩
 rw [order_self] at hc1;refine zkk (kh3 (Sr fun _ kh8 => zm rfl ?_));refine WL.ev (Ev.ext rfl (ext65 _ _)) rfl ?_;refine za rfl (zz (kh8 (zc fun _ kh10 => Sr fun _ kh11 => zm rfl ?_)));refine WL.ev (Ev.shr rfl rfl (by omega)) rfl ?_;refine zq rfl rfl (zz (kh11 ?_));refine zy rfl (fun hc2 => ?_) fun hc2 => ?_
 ·simp only [decide_eq_true_eq, decide_eq_false_iff_not] at hc2;refine Sr fun _ kh13 => zm rfl ?_;refine WL.ev (Ev.andNot rfl rfl) rfl ?_;refine WL.ev (Ev.conv rfl rfl) rfl ?_;refine WL.ev (Ev.compl rfl) rfl ?_;refine za rfl (zz (kh13 ?_));refine zr (zr1 rfl rfl ?_);exact ⟨by rw [key_neg b hb hc1 hc2], rfl⟩
 simp only [decide_eq_true_eq, decide_eq_false_iff_not] at hc2;refine zkk (kh10 (Sr fun _ kh15 => zm rfl ?_));refine WL.ev (Ev.conv rfl rfl) rfl ?_;refine za rfl (zz (kh15 ?_));refine zr (zr1 rfl rfl ?_);exact ⟨by rw [key_pos b hb hc1 hc2], rfl⟩

theorem bits_Order_spec (a b : Nat) (ha : a < 18446744073709551616) (hb : b < 18446744073709551616) (w : World) : Ret Tryz.prog 82 [.float .f64 a, .float .f64 b] w fun v w' => v = .int .i64 (cmpI (key a) (key b)) ∧ w = w' := by
 refine Ret.enter Tryz.func82 rfl rfl ?_;refine Sr fun _ kh1 => za rfl (zz (kh1 (Sr fun _ kh3 => zm rfl ?_)));refine WL.call hasF170 rfl rfl (bits_key_spec _ ha _) fun v w1 h => ?_;obtain ⟨rfl, rfl⟩ := h;refine zm rfl ?_;refine WL.call hasF170 rfl rfl (bits_key_spec _ hb _) fun v w2 h => ?_;obtain ⟨rfl, rfl⟩ := h;refine za rfl (za rfl (zz (kh3 (zc fun _ kh5 => CW.block (Sr fun _ kh6 => zm rfl (zm rfl (zL rfl rfl (za rfl (zz (kh6 ?_))))))))));refine zy rfl (fun hc1 => ?_) fun hc1 => ?_
 ·simp only [decide_eq_true_eq, decide_eq_false_iff_not, Decidable.not_not, Bool.and_eq_true, Bool.or_eq_true, Bool.not_eq_true', ne_eq, Int.not_lt, Int.not_le] at hc1;refine Sr fun _ kh8 => za rfl (zz (kh8 ?_));refine zr (zr1 rfl rfl ?_);exact ⟨by rw [cmpI, if_pos hc1], rfl⟩
 simp only [decide_eq_true_eq, decide_eq_false_iff_not, Decidable.not_not, Bool.and_eq_true, Bool.or_eq_true, Bool.not_eq_true', ne_eq, Int.not_lt, Int.not_le] at hc1;refine Sr fun _ kh10 => zm rfl (zm rfl (zG rfl rfl (za rfl (zz (kh10 ?_)))));refine zy rfl (fun hc2 => ?_) fun hc2 => ?_
 ·simp only [decide_eq_true_eq, decide_eq_false_iff_not, Decidable.not_not, Bool.and_eq_true, Bool.or_eq_true, Bool.not_eq_true', ne_eq, Int.not_lt, Int.not_le] at hc2;refine Sr fun _ kh12 => za rfl (zz (kh12 ?_));refine zr (zr1 rfl rfl ?_);exact ⟨by rw [cmpI, if_neg (by omega), if_pos hc2], rfl⟩
 simp only [decide_eq_true_eq, decide_eq_false_iff_not, Decidable.not_not, Bool.and_eq_true, Bool.or_eq_true, Bool.not_eq_true', ne_eq, Int.not_lt, Int.not_le] at hc2;refine zkk (kh5 (Sr fun _ kh14 => za rfl (zz (kh14 ?_))));refine zr (zr1 rfl rfl ?_);exact ⟨by rw [cmpI, if_neg (by omega), if_neg (by omega)], rfl⟩

theorem steelyardref01_Bits_spec (b : Nat) (hb : b < 18446744073709551616) (w : World) : Ret Tryz.prog 116 [.float .f64 b] w fun v w' => v = .int .u64 (canon b : Nat) ∧ w = w' := by
 refine Ret.enter Tryz.func116 rfl rfl ?_;refine Sr fun _ kh1 => za rfl (zz (kh1 (Sr fun _ kh3 => zm rfl ?_)));refine WL.ev (Ev.ext rfl (ext65 _ _)) rfl ?_;refine za rfl (zz (kh3 (zc fun _ kh5 => Sr fun _ kh6 => zm rfl ?_)))
 first | refine WL.ev (Ev.remIn rfl rfl (by omega) (by omega)) rfl ?_ | refine WL.ev (Ev.rem rfl rfl (by omega)) rfl ?_
 refine zG rfl rfl (zz (kh6 ?_));refine zy rfl (fun hc1 => ?_) fun hc1 => ?_
 ·simp only [decide_eq_true_eq, decide_eq_false_iff_not, Decidable.not_not, Bool.and_eq_true, Bool.or_eq_true, Bool.not_eq_true', ne_eq, Int.not_lt, Int.not_le] at hc1;refine Sr fun _ kh8 => za rfl (zz (kh8 ?_));refine zr (zr1 rfl rfl ?_);exact ⟨by rw [canon, if_pos (by simp only [isNaN, decide_eq_true_eq]; omega)]; rfl, rfl⟩
 simp only [decide_eq_true_eq, decide_eq_false_iff_not, Decidable.not_not, Bool.and_eq_true, Bool.or_eq_true, Bool.not_eq_true', ne_eq, Int.not_lt, Int.not_le] at hc1;refine zkk (kh5 (Sr fun _ kh10 => zm rfl (za rfl (zz (kh10 ?_)))));refine zr (zr1 rfl rfl ?_);exact ⟨by rw [canon, if_neg (by simp only [isNaN, decide_eq_true_eq]; omega)], rfl⟩

theorem steelyardref01_Same_spec (a b : Nat) (ha : a < 18446744073709551616) (hb : b < 18446744073709551616) (w : World) : Ret Tryz.prog 38 [.float .f64 a, .float .f64 b] w fun v w' => v = .bool (decide (canon a = canon b)) ∧ w = w' := by
 refine Ret.enter Tryz.func38 rfl rfl ?_;refine Sr fun _ kh1 => za rfl (zz (kh1 (Sr fun _ kh3 => zm rfl ?_)));refine WL.call hasF116 rfl rfl (steelyardref01_Bits_spec _ ha _) fun v w1 h => ?_;obtain ⟨rfl, rfl⟩ := h;refine zm rfl ?_;refine WL.call hasF116 rfl rfl (steelyardref01_Bits_spec _ hb _) fun v w2 h => ?_;obtain ⟨rfl, rfl⟩ := h;refine zq rfl rfl (za rfl (zz (kh3 ?_)));refine zr (zr1 rfl rfl ?_);exact ⟨by congr 1; rw [decide_eq_decide]; omega, rfl⟩

theorem steelyardref03_Alike_spec (a b : Nat) (w : World) : Ret Tryz.prog 33 [.float .f64 a, .float .f64 b] w fun v w' => v = .bool (decide (a = b)) ∧ w = w' := by
 refine Ret.enter Tryz.func33 rfl rfl ?_;refine Sr fun _ kh1 => za rfl (zz (kh1 (Sr fun _ kh3 => zm rfl ?_)));refine WL.ev (Ev.ext rfl (ext65 _ _)) rfl ?_;refine zm rfl ?_;refine WL.ev (Ev.ext rfl (ext65 _ _)) rfl ?_;refine zq rfl rfl (za rfl (zz (kh3 ?_)));refine zr (zr1 rfl rfl ?_);exact ⟨by congr 1; rw [decide_eq_decide]; omega, rfl⟩

end

/- Shards in memory. No condition. -/
section
open Go Sx Wd Fl

structure Sh where
  s : SP
  V : Dy
  Q : Dy
  lo : Nat
  hi : Nat
def Sh.zero : Sh := ⟨SP.zero, Dy.zero, Dy.zero, 0, 0⟩
def ShM (T : TypeId) (w : World) (b : Nat) (S : Sh) : Prop := ∃ rv rq, BK w b T [.int .i64 (S.s.na : Int), .int .i64 (S.s.up : Int), .int .i64 (S.s.dn : Int), .int .i64 (S.s.mi : Int), .int .i64 (S.s.pl : Int), .int .i64 (S.s.al : Int), .bool S.V.neg, rv, .int .i64 S.V.e, .bool S.Q.neg, rq, .int .i64 S.Q.e, .float .f64 S.lo, .float .f64 S.hi] ∧ NU w rv (wd S.V.m) ∧ NU w rq (wd S.Q.m)
structure Sh.wf (S : Sh) : Prop where
  s : S.s.le 1099511627776
  V : S.V.ok
  Q : S.Q.ok
  lo : S.lo < 18446744073709551616
  hi : S.hi < 18446744073709551616
def Sh.some (S : Sh) : Prop := S.s.na < S.s.al
instance (S : Sh) : Decidable S.some := by unfold Sh.some; exact inferInstance
def SP.add (s t : SP) : SP := ⟨s.na + t.na, s.up + t.up, s.dn + t.dn, s.mi + t.mi, s.pl + t.pl, s.al + t.al⟩
def Sh.merge (S U : Sh) : Sh :=
  ⟨S.s.add U.s, (addD S.V U.V).getD Dy.zero, (addD S.Q U.Q).getD Dy.zero, if U.some ∧ (¬ S.some ∨ key U.lo < key S.lo) then U.lo else S.lo, if U.some ∧ (¬ S.some ∨ key S.hi < key U.hi) then U.hi else S.hi⟩
theorem Sh.wf.zero : Sh.zero.wf := ⟨by unfold SP.le; decide, formD_ok (neg := false) (n := 0) (e := 0) rfl, formD_ok (neg := false) (n := 0) (e := 0) rfl, by decide, by decide⟩
theorem addD_ok {x y d : Dy} (hx : x.ok) (hy : y.ok) (h : addD x y = .some d) : d.ok := by
  unfold addD at h
  split at h
  · cases h; exact hy
  split at h
  · cases h; exact hx
  split at h
  · cases h
  split at h
  · exact formD_ok h
  split at h
  · exact formD_ok h
  · exact formD_ok h
theorem ok_zero : Dy.zero.ok := formD_ok (neg := false) (n := 0) (e := 0) rfl
theorem getD_ok {x : Option Dy} (h : ∀ d, x = .some d → d.ok) : (x.getD Dy.zero).ok := by
  cases hx : x with
  | none => exact ok_zero
  | some d => exact h d hx
theorem notU14 {S : Sh} {w : World} {rv rq : Value} (h1 : NU w rv (wd S.V.m)) (h2 : NU w rq (wd S.Q.m)) : ∀ c ∈ [.int .i64 (S.s.na : Int), .int .i64 (S.s.up : Int), .int .i64 (S.s.dn : Int), .int .i64 (S.s.mi : Int), .int .i64 (S.s.pl : Int), .int .i64 (S.s.al : Int), .bool S.V.neg, rv, .int .i64 S.V.e, .bool S.Q.neg, rq, .int .i64 S.Q.e, .float .f64 S.lo, .float .f64 S.hi], isU32 c = false := by
  intro v hv
  simp only [List.mem_cons, List.not_mem_nil, or_false] at hv
  rcases hv with rfl | rfl | rfl | rfl | rfl | rfl | rfl | rfl | rfl | rfl | rfl | rfl | rfl | rfl <;> first | rfl | exact h1.notU | exact h2.notU
theorem ShM.keep0 {T : TypeId} {w w' : World} {b : Nat} {S : Sh} (h : ShM T w b S) (hc : Chg [] w w') : ShM T w' b S := by
  obtain ⟨rv, rq, hb, h1, h2⟩ := h
  exact ⟨rv, rq, hb.keep0 hc, h1.keep0 hc, h2.keep0 hc⟩
theorem ShM.lt {T : TypeId} {w : World} {b : Nat} {S : Sh} (h : ShM T w b S) : b < w.heap.size := by
  obtain ⟨rv, rq, hb, _⟩ := h
  exact hb.lt
theorem ShM.other {T T' : TypeId} {w w' : World} {b c : Nat} {S U : Sh} (h : ShM T w b S) (hu : ShM T' w c U) (hc : Chg [c] w w') (hne : b ≠ c) : ShM T w' b S := by
  obtain ⟨rv, rq, hb, h1, h2⟩ := h
  obtain ⟨sv, sq, hcc, g1, g2⟩ := hu
  exact ⟨rv, rq, hb.keep hc (by simpa using hne), h1.keepBK hcc hc (notU14 g1 g2), h2.keepBK hcc hc (notU14 g1 g2)⟩

theorem some_spec (b : Nat) (S : Sh) (w : World) (hS : ShM 109 w b S) (hle : S.s.le 1099511627776) : Ret Tryz.prog 64 [.pointer (some ⟨b, 0, none⟩)] w fun u w' => u = .bool (decide S.some) ∧ Chg [] w w' := by
 obtain ⟨rv, rq, hb, hNv, hNq⟩ := hS;obtain ⟨hs1, hs2, hs3, hs4, hs5, hs6⟩ := hle;have hch := crf w;refine zE1 Tryz.func64 rfl ?_;refine Sr fun _ kh1 => za rfl (zz (kh1 (zc fun _ kh3 => ?_)));refine CW.regionSC hmix (by kernel_rfl) fun kR4 kr4 hdr => ?_;have hch := hch.ta hdr;have hb := hb.keep0 hdr;refine ym rfl (yP rfl (yf rfl (yf rfl ?_)));refine WS.ev (Ev.load rfl rfl (hb.at_ rfl)) rfl ?_;refine ym rfl (yP rfl (yf rfl (yf rfl ?_)));refine WS.ev (Ev.load rfl rfl (hb.at_ rfl)) rfl ?_;refine WS.ev (Ev.gtr rfl rfl) rfl ?_;refine ya rfl ?_;refine WS.nil (kr4 _ _ ?_);refine kh3 ?_;refine zr (zr1 rfl rfl ?_);refine ⟨congrArg Value.bool (decide_eq_decide.2 ?_), hch⟩;unfold Sh.some; omega

theorem Count_spec_ (b : Nat) (S : Sh) (w : World) (hS : ShM 109 w b S) (hle : S.s.le 1099511627776) : Ret Tryz.prog 34 [.pointer (some ⟨b, 0, none⟩)] w fun u w' => u = .int .i64 (S.s.al : Int) ∧ Chg [] w w' := by
 obtain ⟨rv, rq, hb, hNv, hNq⟩ := hS;obtain ⟨hs1, hs2, hs3, hs4, hs5, hs6⟩ := hle;have hch := crf w;refine zE1 Tryz.func34 rfl ?_;refine Sr fun _ kh1 => za rfl (zz (kh1 (Sr fun _ kh3 => zm rfl (zP rfl (zf rfl (zf rfl (zl hb rfl rfl (za rfl (zz (kh3 ?_))))))))));refine zr (zr1 rfl rfl ?_);exact ⟨rfl, hch⟩

def Sh.fin (S : Sh) : Int := (S.s.al : Int) - S.s.na - S.s.up - S.s.dn
def Sh.pln (S : Sh) : Int := S.fin - S.s.mi - S.s.pl

theorem finite_spec (b : Nat) (S : Sh) (w : World) (hS : ShM 109 w b S) (hle : S.s.le 1099511627776) : Ret Tryz.prog 85 [.pointer (some ⟨b, 0, none⟩)] w fun u w' => u = .int .i64 S.fin ∧ Chg [] w w' := by
 obtain ⟨rv, rq, hb, hNv, hNq⟩ := hS;obtain ⟨hs1, hs2, hs3, hs4, hs5, hs6⟩ := hle;have hch := crf w;refine zE1 Tryz.func85 rfl ?_;refine Sr fun _ kh1 => za rfl (zz (kh1 (zc fun _ kh3 => ?_)));refine CW.regionSC hmix (by kernel_rfl) fun kR4 kr4 hdr => ?_;have hch := hch.ta hdr;have hb := hb.keep0 hdr;refine ym rfl (yP rfl (yf rfl (yf rfl ?_)));refine WS.ev (Ev.load rfl rfl (hb.at_ rfl)) rfl ?_;refine ym rfl (yP rfl (yf rfl (yf rfl ?_)));refine WS.ev (Ev.load rfl rfl (hb.at_ rfl)) rfl ?_;refine WS.ev (Ev.subIn rfl rfl (by omega)) rfl ?_;refine ym rfl (yP rfl (yf rfl (yf rfl ?_)));refine WS.ev (Ev.load rfl rfl (hb.at_ rfl)) rfl ?_;refine WS.ev (Ev.subIn rfl rfl (by omega)) rfl ?_;refine ym rfl (yP rfl (yf rfl (yf rfl ?_)));refine WS.ev (Ev.load rfl rfl (hb.at_ rfl)) rfl ?_;refine WS.ev (Ev.subIn rfl rfl (by omega)) rfl ?_;refine ya rfl ?_;refine WS.nil (kr4 _ _ ?_);refine kh3 ?_;refine zr (zr1 rfl rfl ?_);exact ⟨rfl, hch⟩

theorem plain_spec (b : Nat) (S : Sh) (w : World) (hS : ShM 109 w b S) (hle : S.s.le 1099511627776) : Ret Tryz.prog 178 [.pointer (some ⟨b, 0, none⟩)] w fun u w' => u = .int .i64 S.pln ∧ Chg [] w w' := by
 obtain ⟨rv, rq, hb, hNv, hNq⟩ := hS;obtain ⟨hs1, hs2, hs3, hs4, hs5, hs6⟩ := hle;have hch := crf w;refine zE1 Tryz.func178 rfl ?_;refine Sr fun _ kh1 => za rfl (zz (kh1 (zc fun _ kh3 => ?_)));refine CW.regionHC 15 rfl hmix fun kR4 kr4 hS hdr => ?_;have hch := hch.ta hdr;have hb := hb.keep0 hdr;have hNv := hNv.keep0 hdr;have hNq := hNq.keep0 hdr;have hb_r := hb;refine wh 0 rfl hS (eM rfl) (wh 2 rfl hS (eM rfl) (wh 3 rfl hS (eP rfl) (wh 4 rfl hS (eF rfl) (wh 5 rfl hS (eF rfl) (wh 6 rfl hS (fun _ hw' => Ev.load rfl rfl ((hb_r.keep0 hw').at_ rfl)) (wh 8 rfl hS (eM rfl) (wh 9 rfl hS (eP rfl) (wh 10 rfl hS (eF rfl) (wh 11 rfl hS (eF rfl) (wh 12 rfl hS (fun _ hw' => Ev.load rfl rfl ((hb_r.keep0 hw').at_ rfl)) ?_))))))))));refine WH.oneCall 1 rfl (by kernel_rfl) hasF85 rfl rfl (finite_spec b S _ ⟨rv, rq, hb, hNv, hNq⟩ ⟨hs1, hs2, hs3, hs4, hs5, hs6⟩) fun v w1 h' => ?_;obtain ⟨rfl, hC⟩ := h';unfold Sh.fin;have hch := hch.ta hC;have hS := hS.trans hC;refine ⟨hS, ?_⟩;refine wh 7 rfl hS (fun _ _ => Ev.subIn rfl rfl (by omega)) (wh 13 rfl hS (fun _ _ => Ev.subIn rfl rfl (by omega)) (wh 14 rfl hS (eA rfl) ?_));refine WH.done (by kernel_rfl) (kr4 _ _ _ ?_);refine kh3 ?_;refine zr (zr1 rfl rfl ?_);exact ⟨rfl, hch⟩

theorem shNew_spec (w : World) : Ret Tryz.prog 47 [] w fun u w' => (∃ b, u = .pointer (some ⟨b, 0, none⟩) ∧ ShM 109 w' b Sh.zero ∧ w.heap.size ≤ b) ∧ Chg [] w w' := by
 have hch := crf w;refine zE0 Tryz.func47 rfl ?_;refine Sr fun _ kh1 => za rfl (zz (kh1 (Sr fun _ kh3 => ?_)));refine WL.ev (Ev.build (vs := _) (cs := [_, _, _, _, _, _, _, _, _, _, _, _, _, _]) rfl rfl) rfl ?_;refine zBh rfl rfl rfl hch fun b2 wm2 hb2 hcm2 hge2 hgehch2 hch => ?_;refine za rfl (zz (kh3 ?_));refine zr (zr1 rfl rfl ?_);refine ⟨⟨b2, rfl, ⟨_, _, hb2, ?_, ?_⟩, by omega⟩, hch⟩
 · rw [show Sh.zero.V.m = 0 from rfl, wd_zero]; exact NU.nil
 rw [show Sh.zero.Q.m = 0 from rfl, wd_zero]; exact NU.nil

end

/- Shards: Merge. No condition. -/
section
open Go Sx Wd Fl

theorem both_ok {f : Dy → Dy → Option Dy} {x y : Dy} (hx : x.ok) (hy : y.ok) : both2 f (formD x.neg (val (wd x.m)) x.e) (formD y.neg (val (wd y.m)) y.e) = f x y := by
  rw [val_wd, val_wd, formD_self hx, formD_self hy]; rfl
theorem DR.cells {w : World} {u : Value} {x : Option Dy} (h : DR w u x) : ∃ r k, u = .tuple [.agg [.bool (x.getD Dy.zero).neg, r, .int .i64 (x.getD Dy.zero).e].toArray, .int .i64 k].toArray ∧ NU w r (wd (x.getD Dy.zero).m) := by
  rcases h with ⟨r, d, rfl, rfl, hN⟩ | ⟨rfl, rfl⟩
  · exact ⟨r, 0, rfl, hN⟩
  · exact ⟨_, 2, rfl, by rw [show (Option.none.getD Dy.zero).m = 0 from rfl, wd_zero]; exact NU.nil⟩
theorem cmpI_neg {a b : Int} : cmpI a b < 0 ↔ a < b := by
  unfold cmpI; split
  · omega
  · split <;> omega
theorem cmpI_pos {a b : Int} : 0 < cmpI a b ↔ b < a := by
  unfold cmpI; split
  · omega
  · split <;> omega

theorem GW.keepI {w w' : World} {b : Nat} {T : TypeId} {x : Int} {l : List Value} (hg : GW w) (hb : BK w b T (.int .i64 x :: l)) (hc : Chg [b] w w') : GW w' := fun i hi => by
  refine hc.cell (hg i hi) fun hm => ?_
  have hm2 : 6 = b := by simpa using hm
  have h0 := hg 0 (by decide)
  rw [hm2, hb.at_ (i := 0) rfl] at h0
  cases h0
theorem ok_i64 {d : Dy} (h : d.ok) : -9223372036854775808 ≤ d.e ∧ d.e ≤ 9223372036854775807 := by have := h.e; omega

theorem shMerge_spec (b c : Nat) (S U : Sh) (w : World) (hS : ShM 109 w b S) (hwS : S.wf) (hU : ShM 109 w c U) (hwU : U.wf) (hne : b ≠ c) (hg : GW w) : Ret Tryz.prog 25 [.pointer (some ⟨b, 0, none⟩), .pointer (some ⟨c, 0, none⟩)] w fun u w' => (1099511627776 < S.s.al + U.s.al ∧ u = .int .i64 2 ∧ ShM 109 w' b S ∧ Chg [b] w w') ∨ (S.s.al + U.s.al ≤ 1099511627776 ∧ u = .int .i64 0 ∧ ShM 109 w' b (S.merge U) ∧ Chg [b] w w') := by
 obtain ⟨rv, rq, hb, hNv, hNq⟩ := hS;have hb0 := hb;have hwS0 := hwS;obtain ⟨⟨hs1, hs2, hs3, hs4, hs5, hs6⟩, hokV, hokQ, hloS, hhiS⟩ := hwS;obtain ⟨sv, sq, hck, hMv, hMq⟩ := hU;obtain ⟨⟨hu1, hu2, hu3, hu4, hu5, hu6⟩, hokVU, hokQU, hloU, hhiU⟩ := hwU;have hch : Chg [b] w w := Chg.refl _ _;refine zE2 Tryz.func25 rfl ?_;refine Sr fun _ kh1 => za rfl (zz (kh1 (zc fun _ kh3 => zc fun _ kh4 => ?_)));refine CW.regionSC hmix (by kernel_rfl) fun kR5 kr5 hdr => ?_;have hch := hch.ta hdr;have hb := hb.keep0 hdr;have hck := hck.keep0 hdr;have hNv := hNv.keep0 hdr;have hNq := hNq.keep0 hdr;have hMv := hMv.keep0 hdr;have hMq := hMq.keep0 hdr;refine ym rfl (yP rfl (yf rfl (yf rfl ?_)));refine WS.ev (Ev.load rfl rfl (hb.at_ rfl)) rfl ?_;refine ym rfl (yP rfl (yf rfl (yf rfl ?_)));refine WS.ev (Ev.load rfl rfl (hck.at_ rfl)) rfl ?_;refine WS.ev (Ev.addIn rfl rfl (by omega)) rfl ?_;refine WS.ev (Ev.gtr rfl rfl) rfl ?_;refine WS.nil (kr5 _ _ ?_);refine kh4 ?_;refine zy rfl ?_ ?_<;>intro hc1<;>try simp only [qs] at hc1
 ·have hbig : 1099511627776 < S.s.al + U.s.al := by have := hc1; omega
  refine Sr fun _ kh6 => za rfl (zz (kh6 ?_));refine zr (zr1 rfl rfl ?_);exact .inl ⟨hbig, rfl, ⟨_, _, hb, hNv, hNq⟩, hch⟩
 have hsml : S.s.al + U.s.al ≤ 1099511627776 := by have := hc1; omega
 refine zkk (kh3 ?_);refine CW.seqJ (fun D s' w' => D = [] ∧ ∃ lo' hi' : Nat, lo' = (if U.some ∧ (¬ S.some ∨ key U.lo < key S.lo) then U.lo else S.lo) ∧ hi' = (if U.some ∧ (¬ S.some ∨ key S.hi < key U.hi) then U.hi else S.hi) ∧ BK w' b 109 [.int .i64 (S.s.na : Int), .int .i64 (S.s.up : Int), .int .i64 (S.s.dn : Int), .int .i64 (S.s.mi : Int), .int .i64 (S.s.pl : Int), .int .i64 (S.s.al : Int), .bool S.V.neg, rv, .int .i64 S.V.e, .bool S.Q.neg, rq, .int .i64 S.Q.e, .float .f64 lo', .float .f64 hi'] ∧ NU w' rv (wd S.V.m) ∧ NU w' rq (wd S.Q.m) ∧ BK w' c 109 [.int .i64 (U.s.na : Int), .int .i64 (U.s.up : Int), .int .i64 (U.s.dn : Int), .int .i64 (U.s.mi : Int), .int .i64 (U.s.pl : Int), .int .i64 (U.s.al : Int), .bool U.V.neg, sv, .int .i64 U.V.e, .bool U.Q.neg, sq, .int .i64 U.Q.e, .float .f64 U.lo, .float .f64 U.hi] ∧ NU w' sv (wd U.V.m) ∧ NU w' sq (wd U.Q.m) ∧ Chg [b] w w' ∧ Subs [(0, .pointer (some ⟨b, 0, none⟩)), (1, .pointer (some ⟨c, 0, none⟩))] s') ?_ ?_
 ·refine Sr fun _ kh9 => zm rfl ?_;refine WL.call hasF64 rfl rfl (some_spec c U _ ⟨sv, sq, hck, hMv, hMq⟩ ⟨hu1, hu2, hu3, hu4, hu5, hu6⟩) fun v w1 h' => ?_;obtain ⟨rfl, hC⟩ := h';have hch := hch.ta hC;have hb := hb.keep0 hC;have hck := hck.keep0 hC;have hNv := hNv.keep0 hC;have hNq := hNq.keep0 hC;have hMv := hMv.keep0 hC;have hMq := hMq.keep0 hC;refine zz (kh9 ?_);refine zy rfl ?_ ?_<;>intro hc2<;>try simp only [qs] at hc2
  ·have hsome : U.some := by simpa using hc2
   refine CW.seqJ (fun D s' w' => D = [] ∧ ∃ lo' : Nat, lo' = (if U.some ∧ (¬ S.some ∨ key U.lo < key S.lo) then U.lo else S.lo) ∧ BK w' b 109 [.int .i64 (S.s.na : Int), .int .i64 (S.s.up : Int), .int .i64 (S.s.dn : Int), .int .i64 (S.s.mi : Int), .int .i64 (S.s.pl : Int), .int .i64 (S.s.al : Int), .bool S.V.neg, rv, .int .i64 S.V.e, .bool S.Q.neg, rq, .int .i64 S.Q.e, .float .f64 lo', .float .f64 S.hi] ∧ NU w' rv (wd S.V.m) ∧ NU w' rq (wd S.Q.m) ∧ BK w' c 109 [.int .i64 (U.s.na : Int), .int .i64 (U.s.up : Int), .int .i64 (U.s.dn : Int), .int .i64 (U.s.mi : Int), .int .i64 (U.s.pl : Int), .int .i64 (U.s.al : Int), .bool U.V.neg, sv, .int .i64 U.V.e, .bool U.Q.neg, sq, .int .i64 U.Q.e, .float .f64 U.lo, .float .f64 U.hi] ∧ NU w' sv (wd U.V.m) ∧ NU w' sq (wd U.Q.m) ∧ Chg [b] w w' ∧ Subs [(0, .pointer (some ⟨b, 0, none⟩)), (1, .pointer (some ⟨c, 0, none⟩))] s') ?_ ?_
   ·refine CW.seqMC 34 (decide (¬ S.some ∨ key U.lo < key S.lo)) ?_ ?_
    ·intro hcM;refine CW.regionHC 15 rfl hmix fun kR12 kr12 hS hdr => ?_;have hcM := hcM.ta hdr;have hb := hb.keep0 hdr;have hck := hck.keep0 hdr;have hNv := hNv.keep0 hdr;have hNq := hNq.keep0 hdr;have hb_r := hb;have hck_r := hck;refine wh 0 rfl hS (eM rfl) ?_;refine WH.oneCall 1 rfl (by kernel_rfl) hasF64 rfl rfl (some_spec b S _ ⟨rv, rq, hb, hNv, hNq⟩ ⟨hs1, hs2, hs3, hs4, hs5, hs6⟩) fun v w2 h' => ?_;obtain ⟨rfl, hC⟩ := h';have hcM := hcM.ta hC;have hS := hS.trans hC;refine ⟨hS, ?_⟩
     by_cases hsm : S.some
     ·rw [show decide (Sh.some S) = true from decide_eq_true hsm];refine wh 2 rfl hS (fun _ _ => Ev.not rfl) (wh 3 rfl hS (eM rfl) (wg 4 rfl rfl rfl rfl rfl hS (eM rfl) (wg 5 rfl rfl rfl rfl rfl hS (eP rfl) (wg 6 rfl rfl rfl rfl rfl hS (eF rfl) (wg 7 rfl rfl rfl rfl rfl hS (fun _ hw' => Ev.load rfl rfl ((hck_r.keep0 hw').at_ rfl)) (wg 8 rfl rfl rfl rfl rfl hS (eM rfl) (wg 9 rfl rfl rfl rfl rfl hS (eP rfl) (wg 10 rfl rfl rfl rfl rfl hS (eF rfl) (wg 11 rfl rfl rfl rfl rfl hS (fun _ hw' => Ev.load rfl rfl ((hb_r.keep0 hw').at_ rfl)) ?_)))))))));refine WH.oneCallG 12 rfl (by kernel_rfl) rfl rfl rfl rfl hasF82 rfl rfl (bits_Order_spec U.lo S.lo (by omega) (by omega) _) fun v w3 h' => ?_;obtain ⟨rfl, rfl⟩ := h';refine ⟨hS, ?_⟩;refine wg 13 rfl rfl rfl rfl rfl hS (fun _ _ => Ev.lss rfl rfl) (wh 14 rfl hS (fun _ _ => Ev.pickF rfl rfl rfl) ?_);refine WH.done (by kernel_rfl) (kr12 _ _ _ ?_);refine ⟨rfl, hcM, Subs.consB rfl ?_ ?_⟩
      ·first | exact (decide_eq_true (.inl hsm)).symm | exact decide_eq_decide.2 (by rw [cmpI_neg]; exact ⟨.inr, fun q => q.resolve_left (fun z => z hsm)⟩)
      exact SMg
     rw [show decide (Sh.some S) = false from decide_eq_false hsm];refine wh 2 rfl hS (fun _ _ => Ev.not rfl) (wh 3 rfl hS (eM rfl) (wp 4 rfl rfl rfl rfl rfl hS (wp 5 rfl rfl rfl rfl rfl hS (wp 6 rfl rfl rfl rfl rfl hS (wp 7 rfl rfl rfl rfl rfl hS (wp 8 rfl rfl rfl rfl rfl hS (wp 9 rfl rfl rfl rfl rfl hS (wp 10 rfl rfl rfl rfl rfl hS (wp 11 rfl rfl rfl rfl rfl hS ?_)))))))));refine WH.passG1 12 rfl (by kernel_rfl) rfl rfl rfl rfl hS rfl ?_;refine wp 13 rfl rfl rfl rfl rfl hS (wh 14 rfl hS (fun _ _ => Ev.pickT rfl rfl rfl) ?_);refine WH.done (by kernel_rfl) (kr12 _ _ _ ?_);refine ⟨rfl, hcM, Subs.consB rfl ?_ ?_⟩
     ·first | exact (decide_eq_true (.inl hsm)).symm | exact decide_eq_decide.2 (by rw [cmpI_neg]; exact ⟨.inr, fun q => q.resolve_left (fun z => z hsm)⟩)
     exact SMg
    intro wM hcM;have hch := hch.ta hcM;have hb := hb.keep0 hcM;have hck := hck.keep0 hcM;have hNv := hNv.keep0 hcM;have hNq := hNq.keep0 hcM;have hMv := hMv.keep0 hcM;have hMq := hMq.keep0 hcM;refine zy rfl ?_ ?_<;>intro hc3<;>try simp only [qs] at hc3
    ·have hq : ¬ S.some ∨ key U.lo < key S.lo := by simpa using hc3
     refine zS fun _ kr13 => zm rfl (zm rfl (zP rfl (zf rfl (zl hck rfl rfl (zP rfl (zf rfl ?_))))));refine WL.storeC rfl rfl o1 hb (by simp) rfl fun ws1 hb_ hcs1 => ?_;(try simp only [Sx.splice, qt] at hb_);have hch := hch.s1 hcs1;have hck := hck.kq hcs1;have hNv := hNv.keepBK hb hcs1 an;have hNq := hNq.keepBK hb hcs1 an;have hMv := hMv.keepBK hb hcs1 an;have hMq := hMq.keepBK hb hcs1 an;have hb := hb_;refine zz (kr13 ?_);exact ⟨rfl, U.lo, (if_pos ⟨hsome, hq⟩).symm, hb, hNv, hNq, hck, hMv, hMq, hch, (by first | ((repeat (first | exact Subs.refl | refine Subs.drop1 (by rfl) ?_)); done) | ((repeat (first | exact Subs.nil | refine Subs.cons rfl ?_)); done))⟩
    have hq : ¬ (¬ S.some ∨ key U.lo < key S.lo) := by simpa using hc3
    refine zkk ?_;exact ⟨rfl, S.lo, (if_neg (fun q => hq q.2)).symm, hb, hNv, hNq, hck, hMv, hMq, hch, (by first | ((repeat (first | exact Subs.refl | refine Subs.drop1 (by rfl) ?_)); done) | ((repeat (first | exact Subs.nil | refine Subs.cons rfl ?_)); done))⟩
   rintro _ s' wJ ⟨rfl, lo', hlo, hb, hNv, hNq, hck, hMv, hMq, hch, hsub⟩;refine CW.sub hsub ?_;refine CW.seqMC 56 (decide (¬ S.some ∨ key S.hi < key U.hi)) ?_ ?_
   ·intro hcM;refine CW.regionHC 15 rfl hmix fun kR14 kr14 hS hdr => ?_;have hcM := hcM.ta hdr;have hb := hb.keep0 hdr;have hck := hck.keep0 hdr;have hNv := hNv.keep0 hdr;have hNq := hNq.keep0 hdr;have hb_r := hb;have hck_r := hck;refine wh 0 rfl hS (eM rfl) ?_;refine WH.oneCall 1 rfl (by kernel_rfl) hasF64 rfl rfl (some_spec b ⟨S.s, S.V, S.Q, lo', S.hi⟩ _ ⟨rv, rq, hb, hNv, hNq⟩ ⟨hs1, hs2, hs3, hs4, hs5, hs6⟩) fun v w4 h' => ?_;obtain ⟨rfl, hC⟩ := h';have hcM := hcM.ta hC;have hS := hS.trans hC;refine ⟨hS, ?_⟩
    by_cases hsm : S.some
    ·rw [show decide (Sh.some ⟨S.s, S.V, S.Q, lo', S.hi⟩) = true from decide_eq_true hsm];refine wh 2 rfl hS (fun _ _ => Ev.not rfl) (wh 3 rfl hS (eM rfl) (wg 4 rfl rfl rfl rfl rfl hS (eM rfl) (wg 5 rfl rfl rfl rfl rfl hS (eP rfl) (wg 6 rfl rfl rfl rfl rfl hS (eF rfl) (wg 7 rfl rfl rfl rfl rfl hS (fun _ hw' => Ev.load rfl rfl ((hck_r.keep0 hw').at_ rfl)) (wg 8 rfl rfl rfl rfl rfl hS (eM rfl) (wg 9 rfl rfl rfl rfl rfl hS (eP rfl) (wg 10 rfl rfl rfl rfl rfl hS (eF rfl) (wg 11 rfl rfl rfl rfl rfl hS (fun _ hw' => Ev.load rfl rfl ((hb_r.keep0 hw').at_ rfl)) ?_)))))))));refine WH.oneCallG 12 rfl (by kernel_rfl) rfl rfl rfl rfl hasF82 rfl rfl (bits_Order_spec U.hi S.hi (by omega) (by omega) _) fun v w5 h' => ?_;obtain ⟨rfl, rfl⟩ := h';refine ⟨hS, ?_⟩;refine wg 13 rfl rfl rfl rfl rfl hS (fun _ _ => Ev.gtr rfl rfl) (wh 14 rfl hS (fun _ _ => Ev.pickF rfl rfl rfl) ?_);refine WH.done (by kernel_rfl) (kr14 _ _ _ ?_);refine ⟨rfl, hcM, Subs.consB rfl ?_ ?_⟩
     ·first | exact (decide_eq_true (.inl hsm)).symm | exact decide_eq_decide.2 (by rw [cmpI_pos]; exact ⟨.inr, fun q => q.resolve_left (fun z => z hsm)⟩)
     exact SMg
    rw [show decide (Sh.some ⟨S.s, S.V, S.Q, lo', S.hi⟩) = false from decide_eq_false hsm];refine wh 2 rfl hS (fun _ _ => Ev.not rfl) (wh 3 rfl hS (eM rfl) (wp 4 rfl rfl rfl rfl rfl hS (wp 5 rfl rfl rfl rfl rfl hS (wp 6 rfl rfl rfl rfl rfl hS (wp 7 rfl rfl rfl rfl rfl hS (wp 8 rfl rfl rfl rfl rfl hS (wp 9 rfl rfl rfl rfl rfl hS (wp 10 rfl rfl rfl rfl rfl hS (wp 11 rfl rfl rfl rfl rfl hS ?_)))))))));refine WH.passG1 12 rfl (by kernel_rfl) rfl rfl rfl rfl hS rfl ?_;refine wp 13 rfl rfl rfl rfl rfl hS (wh 14 rfl hS (fun _ _ => Ev.pickT rfl rfl rfl) ?_);refine WH.done (by kernel_rfl) (kr14 _ _ _ ?_);refine ⟨rfl, hcM, Subs.consB rfl ?_ ?_⟩
    ·first | exact (decide_eq_true (.inl hsm)).symm | exact decide_eq_decide.2 (by rw [cmpI_pos]; exact ⟨.inr, fun q => q.resolve_left (fun z => z hsm)⟩)
    exact SMg
   intro wM hcM;have hch := hch.ta hcM;have hb := hb.keep0 hcM;have hck := hck.keep0 hcM;have hNv := hNv.keep0 hcM;have hNq := hNq.keep0 hcM;have hMv := hMv.keep0 hcM;have hMq := hMq.keep0 hcM;refine zy rfl ?_ ?_<;>intro hc4<;>try simp only [qs] at hc4
   ·have hq : ¬ S.some ∨ key S.hi < key U.hi := by simpa using hc4
    refine zS fun _ kr15 => zm rfl (zm rfl (zP rfl (zf rfl (zl hck rfl rfl (zP rfl (zf rfl ?_))))));refine WL.storeC rfl rfl o1 hb (by simp) rfl fun ws2 hb_ hcs2 => ?_;(try simp only [Sx.splice, qt] at hb_);have hch := hch.s1 hcs2;have hck := hck.kq hcs2;have hNv := hNv.keepBK hb hcs2 an;have hNq := hNq.keepBK hb hcs2 an;have hMv := hMv.keepBK hb hcs2 an;have hMq := hMq.keepBK hb hcs2 an;have hb := hb_;refine zz (kr15 ?_);exact ⟨rfl, lo', U.hi, hlo, (if_pos ⟨hsome, hq⟩).symm, hb, hNv, hNq, hck, hMv, hMq, hch, (by first | ((repeat (first | exact Subs.refl | refine Subs.drop1 (by rfl) ?_)); done) | ((repeat (first | exact Subs.nil | refine Subs.cons rfl ?_)); done))⟩
   have hq : ¬ (¬ S.some ∨ key S.hi < key U.hi) := by simpa using hc4
   refine zkk ?_;exact ⟨rfl, lo', S.hi, hlo, (if_neg (fun q => hq q.2)).symm, hb, hNv, hNq, hck, hMv, hMq, hch, (by first | ((repeat (first | exact Subs.refl | refine Subs.drop1 (by rfl) ?_)); done) | ((repeat (first | exact Subs.nil | refine Subs.cons rfl ?_)); done))⟩
  have hsome : ¬ U.some := by simpa using hc2
  refine zkk ?_;exact ⟨rfl, S.lo, S.hi, (if_neg (fun q => hsome q.1)).symm, (if_neg (fun q => hsome q.1)).symm, hb, hNv, hNq, hck, hMv, hMq, hch, (by first | ((repeat (first | exact Subs.refl | refine Subs.drop1 (by rfl) ?_)); done) | ((repeat (first | exact Subs.nil | refine Subs.cons rfl ?_)); done))⟩
 rintro _ s' wJ ⟨rfl, lo', hi', hlo, hhi, hb, hNv, hNq, hck, hMv, hMq, hch, hsub⟩;refine CW.sub hsub ?_;refine Sr fun _ kh16 => zm rfl (zP rfl (zf rfl ?_));refine WL.ev (Ev.loadB (cs := [.int .i64 (U.s.na : Int), .int .i64 (U.s.up : Int), .int .i64 (U.s.dn : Int), .int .i64 (U.s.mi : Int), .int .i64 (U.s.pl : Int), .int .i64 (U.s.al : Int)]) rfl rfl hck rfl rfl) rfl ?_;refine WL.allocB (l := [.int .i64 0, .int .i64 0, .int .i64 0, .int .i64 0, .int .i64 0, .int .i64 0]) rfl rfl fun b5 wm5 hb5 hcm5 hge5 => ?_;have hgehch5 := Nat.le_trans hch.size hge5;have hch := hch.ta hcm5;have hNv := hNv.keep0 hcm5;have hNq := hNq.keep0 hcm5;have hMv := hMv.keep0 hcm5;have hMq := hMq.keep0 hcm5;have hneb5 : b ≠ b5 := by have := hb.lt; omega
 have hb := hb.keep0 hcm5;have hnec5 : c ≠ b5 := by have := hck.lt; omega
 have hck := hck.keep0 hcm5;refine zss rfl rfl ao hb5 rfl fun ws3 hb5_ hcs3 => ?_;(try simp only [Sx.splice, qt] at hb5_);have hch := hch.s1 hcs3;have hb := hb.kq hcs3;have hck := hck.kq hcs3;have hNv := hNv.keepBK hb5 hcs3 an;have hNq := hNq.keepBK hb5 hcs3 an;have hMv := hMv.keepBK hb5 hcs3 an;have hMq := hMq.keepBK hb5 hcs3 an;have hb5 := hb5_;refine zz (kh16 (zc fun _ kh18 => ?_));refine CW.regionKC 11 12 rfl hmix fun kR19 kr19 hS hdr => ?_;have hch := hch.ta hdr;have hb := hb.keep0 hdr;have hck := hck.keep0 hdr;have hb5 := hb5.k0 hdr;have hNv := hNv.keep0 hdr;have hNq := hNq.keep0 hdr;have hMv := hMv.keep0 hdr;have hMq := hMq.keep0 hdr;have hb_r := hb;have hck_r := hck;have hb5_r := hb5;refine wk 0 rfl hS (eM rfl) (wk 1 rfl hS (eP rfl) (wk 2 rfl hS (eF rfl) (wk 3 rfl hS (eF rfl) (wk 4 rfl hS (fun _ hw' => Ev.load rfl rfl ((hb_r.keep0 hw').at_ rfl)) (wk 5 rfl hS (eF rfl) (wk 6 rfl hS (fun _ hw' => Ev.load rfl rfl ((hb5_r.keep0 hw').at_ rfl)) (wk 7 rfl hS (fun _ _ => Ev.addIn rfl rfl (by omega)) (wt 8 rfl (fun _ => hS) (fun _ => Ev.nilPtr rfl) (wt 9 rfl (fun _ => hS) (fun _ => Ev.fieldAddr rfl) (wk 10 rfl hS (eF rfl) ?_))))))))));refine WK.storeC 11 rfl (by kernel_rfl) (by kernel_rfl) rfl rfl o1 hb (by simp) rfl fun ws4 hb_ hcs4 => ?_;(try simp only [Sx.splice, qt] at hb_);have hch := hch.s1 hcs4;have hck := hck.kq hcs4;have hb5 := hb5.kq hcs4;have hNv := hNv.keepBK hb hcs4 an;have hNq := hNq.keepBK hb hcs4 an;have hMv := hMv.keepBK hb hcs4 an;have hMq := hMq.keepBK hb hcs4 an;have hb := hb_;refine WK.done (by kernel_rfl) (kr19 _ _ _ ?_);refine kh18 (zc fun _ kh20 => ?_);refine CW.regionKC 11 12 rfl hmix fun kR21 kr21 hS hdr => ?_;have hch := hch.ta hdr;have hb := hb.keep0 hdr;have hck := hck.keep0 hdr;have hb5 := hb5.k0 hdr;have hNv := hNv.keep0 hdr;have hNq := hNq.keep0 hdr;have hMv := hMv.keep0 hdr;have hMq := hMq.keep0 hdr;have hb_r := hb;have hck_r := hck;have hb5_r := hb5;refine wk 0 rfl hS (eM rfl) (wk 1 rfl hS (eP rfl) (wk 2 rfl hS (eF rfl) (wk 3 rfl hS (eF rfl) (wk 4 rfl hS (fun _ hw' => Ev.load rfl rfl ((hb_r.keep0 hw').at_ rfl)) (wk 5 rfl hS (eF rfl) (wk 6 rfl hS (fun _ hw' => Ev.load rfl rfl ((hb5_r.keep0 hw').at_ rfl)) (wk 7 rfl hS (fun _ _ => Ev.addIn rfl rfl (by omega)) (wt 8 rfl (fun _ => hS) (fun _ => Ev.nilPtr rfl) (wt 9 rfl (fun _ => hS) (fun _ => Ev.fieldAddr rfl) (wk 10 rfl hS (eF rfl) ?_))))))))));refine WK.storeC 11 rfl (by kernel_rfl) (by kernel_rfl) rfl rfl o1 hb (by simp) rfl fun ws5 hb_ hcs5 => ?_;(try simp only [Sx.splice, qt] at hb_);have hch := hch.s1 hcs5;have hck := hck.kq hcs5;have hb5 := hb5.kq hcs5;have hNv := hNv.keepBK hb hcs5 an;have hNq := hNq.keepBK hb hcs5 an;have hMv := hMv.keepBK hb hcs5 an;have hMq := hMq.keepBK hb hcs5 an;have hb := hb_;refine WK.done (by kernel_rfl) (kr21 _ _ _ ?_);refine kh20 (zc fun _ kh22 => ?_);refine CW.regionKC 11 12 rfl hmix fun kR23 kr23 hS hdr => ?_;have hch := hch.ta hdr;have hb := hb.keep0 hdr;have hck := hck.keep0 hdr;have hb5 := hb5.k0 hdr;have hNv := hNv.keep0 hdr;have hNq := hNq.keep0 hdr;have hMv := hMv.keep0 hdr;have hMq := hMq.keep0 hdr;have hb_r := hb;have hck_r := hck;have hb5_r := hb5;refine wk 0 rfl hS (eM rfl) (wk 1 rfl hS (eP rfl) (wk 2 rfl hS (eF rfl) (wk 3 rfl hS (eF rfl) (wk 4 rfl hS (fun _ hw' => Ev.load rfl rfl ((hb_r.keep0 hw').at_ rfl)) (wk 5 rfl hS (eF rfl) (wk 6 rfl hS (fun _ hw' => Ev.load rfl rfl ((hb5_r.keep0 hw').at_ rfl)) (wk 7 rfl hS (fun _ _ => Ev.addIn rfl rfl (by omega)) (wt 8 rfl (fun _ => hS) (fun _ => Ev.nilPtr rfl) (wt 9 rfl (fun _ => hS) (fun _ => Ev.fieldAddr rfl) (wk 10 rfl hS (eF rfl) ?_))))))))));refine WK.storeC 11 rfl (by kernel_rfl) (by kernel_rfl) rfl rfl o1 hb (by simp) rfl fun ws6 hb_ hcs6 => ?_;(try simp only [Sx.splice, qt] at hb_);have hch := hch.s1 hcs6;have hck := hck.kq hcs6;have hb5 := hb5.kq hcs6;have hNv := hNv.keepBK hb hcs6 an;have hNq := hNq.keepBK hb hcs6 an;have hMv := hMv.keepBK hb hcs6 an;have hMq := hMq.keepBK hb hcs6 an;have hb := hb_;refine WK.done (by kernel_rfl) (kr23 _ _ _ ?_);refine kh22 (zc fun _ kh24 => ?_);refine CW.regionKC 11 12 rfl hmix fun kR25 kr25 hS hdr => ?_;have hch := hch.ta hdr;have hb := hb.keep0 hdr;have hck := hck.keep0 hdr;have hb5 := hb5.k0 hdr;have hNv := hNv.keep0 hdr;have hNq := hNq.keep0 hdr;have hMv := hMv.keep0 hdr;have hMq := hMq.keep0 hdr;have hb_r := hb;have hck_r := hck;have hb5_r := hb5;refine wk 0 rfl hS (eM rfl) (wk 1 rfl hS (eP rfl) (wk 2 rfl hS (eF rfl) (wk 3 rfl hS (eF rfl) (wk 4 rfl hS (fun _ hw' => Ev.load rfl rfl ((hb_r.keep0 hw').at_ rfl)) (wk 5 rfl hS (eF rfl) (wk 6 rfl hS (fun _ hw' => Ev.load rfl rfl ((hb5_r.keep0 hw').at_ rfl)) (wk 7 rfl hS (fun _ _ => Ev.addIn rfl rfl (by omega)) (wt 8 rfl (fun _ => hS) (fun _ => Ev.nilPtr rfl) (wt 9 rfl (fun _ => hS) (fun _ => Ev.fieldAddr rfl) (wk 10 rfl hS (eF rfl) ?_))))))))));refine WK.storeC 11 rfl (by kernel_rfl) (by kernel_rfl) rfl rfl o1 hb (by simp) rfl fun ws7 hb_ hcs7 => ?_;(try simp only [Sx.splice, qt] at hb_);have hch := hch.s1 hcs7;have hck := hck.kq hcs7;have hb5 := hb5.kq hcs7;have hNv := hNv.keepBK hb hcs7 an;have hNq := hNq.keepBK hb hcs7 an;have hMv := hMv.keepBK hb hcs7 an;have hMq := hMq.keepBK hb hcs7 an;have hb := hb_;refine WK.done (by kernel_rfl) (kr25 _ _ _ ?_);refine kh24 (zc fun _ kh26 => ?_);refine CW.regionKC 11 12 rfl hmix fun kR27 kr27 hS hdr => ?_;have hch := hch.ta hdr;have hb := hb.keep0 hdr;have hck := hck.keep0 hdr;have hb5 := hb5.k0 hdr;have hNv := hNv.keep0 hdr;have hNq := hNq.keep0 hdr;have hMv := hMv.keep0 hdr
 have hMq := hMq.keep0 hdr;have hb_r := hb;have hck_r := hck;have hb5_r := hb5;refine wk 0 rfl hS (eM rfl) (wk 1 rfl hS (eP rfl) (wk 2 rfl hS (eF rfl) (wk 3 rfl hS (eF rfl) (wk 4 rfl hS (fun _ hw' => Ev.load rfl rfl ((hb_r.keep0 hw').at_ rfl)) (wk 5 rfl hS (eF rfl) (wk 6 rfl hS (fun _ hw' => Ev.load rfl rfl ((hb5_r.keep0 hw').at_ rfl)) (wk 7 rfl hS (fun _ _ => Ev.addIn rfl rfl (by omega)) (wt 8 rfl (fun _ => hS) (fun _ => Ev.nilPtr rfl) (wt 9 rfl (fun _ => hS) (fun _ => Ev.fieldAddr rfl) (wk 10 rfl hS (eF rfl) ?_))))))))));refine WK.storeC 11 rfl (by kernel_rfl) (by kernel_rfl) rfl rfl o1 hb (by simp) rfl fun ws8 hb_ hcs8 => ?_;(try simp only [Sx.splice, qt] at hb_);have hch := hch.s1 hcs8;have hck := hck.kq hcs8;have hb5 := hb5.kq hcs8;have hNv := hNv.keepBK hb hcs8 an;have hNq := hNq.keepBK hb hcs8 an;have hMv := hMv.keepBK hb hcs8 an;have hMq := hMq.keepBK hb hcs8 an;have hb := hb_;refine WK.done (by kernel_rfl) (kr27 _ _ _ ?_);refine kh26 (zc fun _ kh28 => ?_);refine CW.regionKC 11 12 rfl hmix fun kR29 kr29 hS hdr => ?_;have hch := hch.ta hdr;have hb := hb.keep0 hdr;have hck := hck.keep0 hdr;have hb5 := hb5.k0 hdr;have hNv := hNv.keep0 hdr;have hNq := hNq.keep0 hdr;have hMv := hMv.keep0 hdr;have hMq := hMq.keep0 hdr;have hb_r := hb;have hck_r := hck;have hb5_r := hb5;refine wk 0 rfl hS (eM rfl) (wk 1 rfl hS (eP rfl) (wk 2 rfl hS (eF rfl) (wk 3 rfl hS (eF rfl) (wk 4 rfl hS (fun _ hw' => Ev.load rfl rfl ((hb_r.keep0 hw').at_ rfl)) (wk 5 rfl hS (eF rfl) (wk 6 rfl hS (fun _ hw' => Ev.load rfl rfl ((hb5_r.keep0 hw').at_ rfl)) (wk 7 rfl hS (fun _ _ => Ev.addIn rfl rfl (by omega)) (wt 8 rfl (fun _ => hS) (fun _ => Ev.nilPtr rfl) (wt 9 rfl (fun _ => hS) (fun _ => Ev.fieldAddr rfl) (wk 10 rfl hS (eF rfl) ?_))))))))));refine WK.storeC 11 rfl (by kernel_rfl) (by kernel_rfl) rfl rfl o1 hb (by simp) rfl fun ws9 hb_ hcs9 => ?_;(try simp only [Sx.splice, qt] at hb_);have hch := hch.s1 hcs9;have hck := hck.kq hcs9;have hNv := hNv.keepBK hb hcs9 an;have hNq := hNq.keepBK hb hcs9 an;have hMv := hMv.keepBK hb hcs9 an;have hMq := hMq.keepBK hb hcs9 an;have hb := hb_;refine WK.done (by kernel_rfl) (kr29 _ _ _ ?_);refine kh28 (zc fun _ kh30 => ?_);refine CW.regionKC 15 16 rfl hmix fun kR31 kr31 hS hdr => ?_;have hch := hch.ta hdr;have hb := hb.keep0 hdr;have hck := hck.keep0 hdr;have hNv := hNv.keep0 hdr;have hNq := hNq.keep0 hdr;have hMv := hMv.keep0 hdr;have hMq := hMq.keep0 hdr;have hb_r := hb;have hck_r := hck;refine wk 0 rfl hS (eM rfl) (wk 1 rfl hS (eM rfl) (wk 2 rfl hS (eP rfl) (wk 3 rfl hS (eF rfl) (wk 4 rfl hS (fun _ hw' => Ev.loadB rfl rfl (hb_r.keep0 hw') rfl rfl) ?_))))
 try simp only [List.drop_succ_cons, List.drop_zero, List.take_succ_cons, List.take_zero]
 refine wk 5 rfl hS (eM rfl) (wk 6 rfl hS (eP rfl) (wk 7 rfl hS (eF rfl) (wk 8 rfl hS (fun _ hw' => Ev.loadB rfl rfl (hck_r.keep0 hw') rfl rfl) ?_)))
 try simp only [List.drop_succ_cons, List.drop_zero, List.take_succ_cons, List.take_zero]
 refine WK.oneCall 9 rfl (by kernel_rfl) hasF83 rfl rfl (Add_dspec _ _ _ _ _ _ _ _ _ hNv hMv (hg.keepI hb0 hch) (ok_i64 hokV) (ok_i64 hokVU)) fun v w6 h' => ?_;obtain ⟨hD, hC⟩ := h';rw [both_ok hokV hokVU] at hD;obtain ⟨rn1, kn1, rfl, hRV⟩ := hD.cells;have hch := hch.ta hC;have hb := hb.keep0 hC;have hck := hck.keep0 hC;have hNq := hNq.keep0 hC;have hMq := hMq.keep0 hC;have hS := hS.trans hC;refine ⟨hS, ?_⟩;refine wk 10 rfl hS (eM rfl) (wk 11 rfl hS (eX rfl rfl) (wt 12 rfl (fun _ => hS) (fun _ => Ev.extract rfl rfl) (wt 13 rfl (fun _ => hS) (fun _ => Ev.nilPtr rfl) (wk 14 rfl hS (eF rfl) ?_))));refine WK.storeB 15 rfl (by kernel_rfl) (by kernel_rfl) rfl rfl rfl ao hb (by simp) rfl fun ws10 hb_ hcs10 => ?_;(try simp only [Sx.splice, qt] at hb_);have hch := hch.s1 hcs10;have hck := hck.kq hcs10;have hNq := hNq.keepBK hb hcs10 an;have hMq := hMq.keepBK hb hcs10 an;have hRV := hRV.keepBK hb hcs10 an;have hb := hb_;refine WK.done (by kernel_rfl) (kr31 _ _ _ ?_);refine kh30 (zc fun _ kh32 => ?_);refine CW.regionKC 15 16 rfl hmix fun kR33 kr33 hS hdr => ?_;have hch := hch.ta hdr;have hb := hb.keep0 hdr;have hck := hck.keep0 hdr;have hNq := hNq.keep0 hdr;have hMq := hMq.keep0 hdr;have hRV := hRV.keep0 hdr;have hb_r := hb;have hck_r := hck;refine wk 0 rfl hS (eM rfl) (wk 1 rfl hS (eM rfl) (wk 2 rfl hS (eP rfl) (wk 3 rfl hS (eF rfl) (wk 4 rfl hS (fun _ hw' => Ev.loadB rfl rfl (hb_r.keep0 hw') rfl rfl) ?_))))
 try simp only [List.drop_succ_cons, List.drop_zero, List.take_succ_cons, List.take_zero]
 refine wk 5 rfl hS (eM rfl) (wk 6 rfl hS (eP rfl) (wk 7 rfl hS (eF rfl) (wk 8 rfl hS (fun _ hw' => Ev.loadB rfl rfl (hck_r.keep0 hw') rfl rfl) ?_)))
 try simp only [List.drop_succ_cons, List.drop_zero, List.take_succ_cons, List.take_zero]
 refine WK.oneCall 9 rfl (by kernel_rfl) hasF83 rfl rfl (Add_dspec _ _ _ _ _ _ _ _ _ hNq hMq (hg.keepI hb0 hch) (ok_i64 hokQ) (ok_i64 hokQU)) fun v w7 h' => ?_;obtain ⟨hD, hC⟩ := h';rw [both_ok hokQ hokQU] at hD;obtain ⟨rn2, kn2, rfl, hRQ⟩ := hD.cells;have hch := hch.ta hC;have hb := hb.keep0 hC;have hRV := hRV.keep0 hC;have hS := hS.trans hC;refine ⟨hS, ?_⟩;refine wk 10 rfl hS (eM rfl) (wk 11 rfl hS (eX rfl rfl) (wt 12 rfl (fun _ => hS) (fun _ => Ev.extract rfl rfl) (wt 13 rfl (fun _ => hS) (fun _ => Ev.nilPtr rfl) (wk 14 rfl hS (eF rfl) ?_))));refine WK.storeB 15 rfl (by kernel_rfl) (by kernel_rfl) rfl rfl rfl ao hb (by simp) rfl fun ws11 hb_ hcs11 => ?_;(try simp only [Sx.splice, qt] at hb_);have hch := hch.s1 hcs11;have hRV := hRV.keepBK hb hcs11 an;have hRQ := hRQ.keepBK hb hcs11 an;have hb := hb_;refine WK.done (by kernel_rfl) (kr33 _ _ _ ?_);refine kh32 (Sr fun _ kh34 => za rfl (zz (kh34 ?_)));refine zr (zr1 rfl rfl ?_);refine .inr ⟨hsml, rfl, ⟨rn1, rn2, ?_, hRV, hRQ⟩, hch⟩;unfold Sh.merge SP.add;dsimp only;rw [← hlo, ← hhi];exact hb

end

/- Slices against nil; an empty slice that is laid and grows. No condition. -/
section
open Go Sx Wd
section
variable {P : Program} {n : Nat} {D : List Deferred} {s : Sl} {w : World} {ops : Array Oper} {K : KK} {rest : List Oper} {ty : TypeId} {pos : String} {af : Array Edge} {d : Nat} {x y : Operand}
theorem Sx.CW.seqMD {A : AQ} {x y : Code} (c : Nat) (b : Bool) (hx : CW P x (thenK (fun D' s' w' => D' = D ∧ w' = w.drew ∧ Subs ((c, .bool b) :: s) s') A) n D s w) (hy : Chg [] w w.drew → CW P y A n D ((c, .bool b) :: s) w.drew) : CW P (.seq x y) A n D s w :=
  CW.seqJ _ hx fun D' s' w' ⟨h1, h2, h3⟩ => by subst h1; subst h2; exact (hy (Chg.drew _ _)).sub h3
end
end

/- Shards: what is refused, Sum, Mean, the ends. No condition. -/
section
open Go Sx Wd Fl

def shE (s : SP) (mode pn pi : Int) : Int := if ¬ ((0 ≤ mode ∧ mode ≤ 4) ∧ mayQ pn pi) then 1 else refE s pn pi
def sumShR (S : Sh) (mode pn pi : Int) (b : Nat) (e : Int) : Prop :=
  (shE S.s mode pn pi ≠ 0 ∧ b = 0 ∧ e = shE S.s mode pn pi) ∨ (shE S.s mode pn pi = 0 ∧ ((∃ x, verdP S.s pn pi = .some x ∧ b = x ∧ e = 0) ∨ (verdP S.s pn pi = .none ∧
    ((S.V.m = 0 ∧ b = noughtP S.s mode ∧ e = 0) ∨ (S.V.m ≠ 0 ∧ RoundR (.some S.V) mode b e)))))
def meanShR (S : Sh) (mode pn pi : Int) (b : Nat) (e : Int) : Prop :=
  (shE S.s mode pn pi ≠ 0 ∧ b = 0 ∧ e = shE S.s mode pn pi) ∨ (shE S.s mode pn pi = 0 ∧ ((∃ x, verdP S.s pn pi = .some x ∧ b = x ∧ e = 0) ∨ (verdP S.s pn pi = .none ∧
    ((S.fin = 0 ∧ b = 0 ∧ e = 3) ∨ (S.fin ≠ 0 ∧ ((S.V.m = 0 ∧ b = noughtP S.s mode ∧ e = 0) ∨ (S.V.m ≠ 0 ∧ QuotP S.V.neg (intD S.fin).neg S.V.m (intD S.fin).m S.V.e (intD S.fin).e mode b e)))))))
def endR (S : Sh) (x : Nat) : Nat × Int := if S.s.al = 0 then (0, 3) else if ¬ S.some then (9221120237041090560, 0) else (x, 0)
theorem verd_cases (s : SP) (pn pi : Int) : (∃ x, verdP s pn pi = .some x ∧ (verdP s pn pi).isSome = true ∧ (verdP s pn pi).getD 0 = x) ∨ (verdP s pn pi = .none ∧ (verdP s pn pi).isSome = false) := by
  cases h : verdP s pn pi with
  | none => exact .inr ⟨rfl, rfl⟩
  | some x => exact .inl ⟨x, rfl, rfl, rfl⟩
theorem sgD_nz {d : Dy} : sgD d.neg d.m = 0 ↔ d.m = 0 := sgD_zero

theorem of_quot {d : Dy} {n mode : Int} {b : Nat} {e : Int} (hd : d.ok) (hm : d.m ≠ 0) (hmd : 0 ≤ mode ∧ mode ≤ 4) (h1 : 1 ≤ n) (h2 : n ≤ 1099511627776) (h : ofR d.neg d.m d.e n mode b e) : QuotP d.neg (intD n).neg d.m (intD n).m d.e (intD n).e mode b e := by
  rcases h with ⟨q, _⟩ | ⟨_, ⟨q, _⟩ | ⟨d2, hd2, hT⟩⟩
  · exact absurd ⟨hmd, h1, h2⟩ q
  · rw [formD_self hd] at q; cases q
  · rw [formD_self hd] at hd2; cases hd2
    rcases hT with ⟨q, _⟩ | ⟨_, hQ⟩
    · exact absurd q hm
    · rwa [show ((n.toNat : Nat) : Int) = n by omega] at hQ

theorem refusedSh_spec (b : Nat) (S : Sh) (mode pn pi : Int) (w : World) (hS : ShM 109 w b S) (hwf : S.wf) (hg : GW w) : Ret Tryz.prog 91 [.pointer (some ⟨b, 0, none⟩), .int .i64 mode, .agg [.int .i64 pn, .int .i64 pi].toArray] w fun u w' => u = .int .i64 (shE S.s mode pn pi) ∧ Chg [] w w' := by
 obtain ⟨rv, rq, hb, hNv, hNq⟩ := hS;obtain ⟨hle, hokV, hokQ, hloS, hhiS⟩ := hwf;obtain ⟨hs1, hs2, hs3, hs4, hs5, hs6⟩ := hle;have hch := crf w;have hg0 := hg;refine zE3 Tryz.func91 rfl ?_;refine Sr fun _ kh1 => ?_;refine zBh rfl rfl rfl hch fun b5 wm5 hb5 hcm5 hge5 hgehch5 hch => ?_;have hneb5 : b ≠ b5 := by have := hb.lt; omega
 have hb := hb.keep0 hcm5;refine za rfl (zz (kh1 (zc fun _ kh3 => CW.block ?_)));refine CW.seqMC 7 (decide (¬ ((0 ≤ mode ∧ mode ≤ 4) ∧ mayQ pn pi))) ?_ ?_
 ·intro hcM;refine zS fun _ kr4 => zm rfl (zL rfl rfl (zm rfl ?_));refine zb ?_ ?_<;>intro hg1<;>try simp only [qs] at hg1
  ·refine zv rfl (zv rfl (zt rfl rfl (zm rfl (zv rfl (zv rfl (zv rfl (zt rfl rfl (za rfl (zz (kr4 ?_))))))))));refine ⟨rfl, hcM, Subs.consB rfl ?_ ?_⟩
   ·first | (simp_all; done) | (simp; omega) | (refine decide_eq_decide.2 ?_; omega) | (cases hdm : decide (mayQ pn pi) <;> simp_all <;> omega)
   exact SMg
  refine zw rfl (zm rfl (zw rfl (zG rfl rfl (ze rfl rfl (zm rfl ?_)))));refine zb ?_ ?_<;>intro hg2<;>try simp only [qs] at hg2
  ·refine zv rfl (zv rfl (zv rfl (zt rfl rfl (za rfl (zz (kr4 ?_))))));refine ⟨rfl, hcM, Subs.consB rfl ?_ ?_⟩
   ·first | (simp_all; done) | (simp; omega) | (refine decide_eq_decide.2 ?_; omega) | (cases hdm : decide (mayQ pn pi) <;> simp_all <;> omega)
   exact SMg
  refine zw rfl (zg hb5 rfl (zw rfl ?_));refine WL.call hasF99 rfl rfl (May_spec pn pi _) fun v w1 h' => ?_;obtain ⟨rfl, hC⟩ := h';have hcM := hcM.ta hC;refine zw rfl (zT rfl (ze rfl rfl (za rfl (zz (kr4 ?_)))));refine ⟨rfl, hcM, Subs.consB rfl ?_ ?_⟩
  ·first | (simp_all; done) | (simp; omega) | (refine decide_eq_decide.2 ?_; omega) | (cases hdm : decide (mayQ pn pi) <;> simp_all <;> omega)
  exact SMg
 intro wM hcM;have hch := hch.ta hcM;have hb := hb.keep0 hcM;have hb5 := hb5.k0 hcM;refine zy rfl ?_ ?_<;>intro hc3<;>try simp only [qs] at hc3
 ·have hq : ¬ ((0 ≤ mode ∧ mode ≤ 4) ∧ mayQ pn pi) := hc3
  refine Sr fun _ kh5 => za rfl (zz (kh5 ?_));refine zr (zr1 rfl rfl ?_);refine ⟨?_, hch⟩;rw [show shE S.s mode pn pi = 1 from if_pos hq]
 have hq : ¬ ¬ ((0 ≤ mode ∧ mode ≤ 4) ∧ mayQ pn pi) := fun z => z hc3;have he : shE S.s mode pn pi = refE S.s pn pi := if_neg hq;rw [he];refine CW.seqM 19 (decide (0 < S.s.na ∧ pn = 2)) ?_ ?_
 ·refine zS fun _ kr7 => zm rfl (zP rfl (zf rfl (zf rfl (zl hb rfl rfl (zG rfl rfl (zm rfl ?_))))));refine zb ?_ ?_<;>intro hg4<;>try simp only [qs] at hg4
  ·refine zw rfl (zf rfl (zw rfl (zl hb5 rfl rfl (zw rfl (zq rfl rfl (zt rfl rfl (za rfl (zz (kr7 ?_)))))))));refine ⟨rfl, rfl, Subs.consB rfl ?_ ?_⟩
   ·first | (simp_all; done) | (simp; omega) | (refine decide_eq_decide.2 ?_; omega)
   exact SMg
  refine zv rfl (zv rfl (zv rfl (ze rfl rfl (za rfl (zz (kr7 ?_))))));refine ⟨rfl, rfl, Subs.consB rfl ?_ ?_⟩
  ·first | (simp_all; done) | (simp; omega) | (refine decide_eq_decide.2 ?_; omega)
  exact SMg
 refine zy rfl ?_ ?_<;>intro hc5<;>try simp only [qs] at hc5
 ·have h1 : 0 < S.s.na ∧ pn = 2 := hc5
  refine Sr fun _ kh8 => za rfl (zz (kh8 ?_));refine zr (zr1 rfl rfl ?_);refine ⟨?_, hch⟩;rw [show refE S.s pn pi = 60 from if_pos h1]
 have h1 : ¬ (0 < S.s.na ∧ pn = 2) := hc5;refine CW.seqMD 31 (decide (0 < S.s.up + S.s.dn ∧ pi = 2)) ?_ ?_
 ·refine CW.regionSC hmix (by kernel_rfl) fun kR10 kr10 hdr => ?_;have hb := hb.keep0 hdr;have hb5 := hb5.k0 hdr;refine ym rfl (yP rfl (yf rfl (yf rfl ?_)));refine WS.ev (Ev.load rfl rfl (hb.at_ rfl)) rfl ?_;refine ym rfl (yP rfl (yf rfl (yf rfl ?_)));refine WS.ev (Ev.load rfl rfl (hb.at_ rfl)) rfl ?_
  first | refine WS.ev (Ev.addIn rfl rfl (by omega)) rfl ?_ | refine WS.ev (Ev.add rfl rfl) rfl ?_
  refine WS.ev (Ev.gtr rfl rfl) rfl ?_;refine ym rfl ?_;refine WS.boolCase (fun hg6 => ?_) (fun hg6 => ?_)
  ·(try simp only [qs] at hg6);refine yw rfl (yf rfl (yw rfl ?_));refine WS.ev (Ev.load rfl rfl (hb5.at_ rfl)) rfl ?_
   refine yw rfl ?_;refine WS.ev (Ev.eql rfl rfl) rfl ?_;refine yt rfl rfl (ya rfl ?_);refine WS.nil (kr10 _ _ ?_);refine ⟨rfl, rfl, Subs.consB rfl ?_ ?_⟩
   ·first | (simp_all; done) | (simp; omega) | (refine decide_eq_decide.2 ?_; omega)
   exact SMg
  (try simp only [qs] at hg6);refine yv rfl (yv rfl (yv rfl (ye rfl rfl (ya rfl ?_))));refine WS.nil (kr10 _ _ ?_);refine ⟨rfl, rfl, Subs.consB rfl ?_ ?_⟩
  ·first | (simp_all; done) | (simp; omega) | (refine decide_eq_decide.2 ?_; omega)
  exact SMg
 intro hdr;have hch := hch.ta hdr;refine zy rfl ?_ ?_<;>intro hc7<;>try simp only [qs] at hc7
 ·have h2 : 0 < S.s.up + S.s.dn ∧ pi = 2 := hc7
  refine Sr fun _ kh11 => za rfl (zz (kh11 ?_));refine zr (zr1 rfl rfl ?_);refine ⟨?_, hch⟩;rw [show refE S.s pn pi = 61 from (if_neg h1).trans (if_pos h2)]
 have h2 : ¬ (0 < S.s.up + S.s.dn ∧ pi = 2) := hc7;refine zkk (kh3 (Sr fun _ kh13 => za rfl (zz (kh13 ?_))));refine zr (zr1 rfl rfl ?_);refine ⟨?_, hch⟩;rw [he, show refE S.s pn pi = 0 from (if_neg h1).trans (if_neg h2)]

theorem shSum_spec (b : Nat) (S : Sh) (mode pn pi : Int) (w : World) (hS : ShM 109 w b S) (hwf : S.wf) (hg : GW w) : Ret Tryz.prog 27 [.pointer (some ⟨b, 0, none⟩), .int .i64 mode, .agg [.int .i64 pn, .int .i64 pi].toArray] w fun u w' => (∃ x e, u = .tuple [.float .f64 x, .int .i64 e].toArray ∧ sumShR S mode pn pi x e) ∧ Chg [] w w' := by
 obtain ⟨rv, rq, hb, hNv, hNq⟩ := hS;obtain ⟨hle, hokV, hokQ, hloS, hhiS⟩ := hwf;obtain ⟨hs1, hs2, hs3, hs4, hs5, hs6⟩ := hle;have hch := crf w;have hg0 := hg;refine zE3 Tryz.func27 rfl ?_;refine Sr fun _ kh1 => ?_;refine zBh rfl rfl rfl hch fun b5 wm5 hb5 hcm5 hge5 hgehch5 hch => ?_;have hNv := hNv.keep0 hcm5;have hNq := hNq.keep0 hcm5;have hneb5 : b ≠ b5 := by have := hb.lt; omega
 have hb := hb.keep0 hcm5;refine za rfl (za rfl (zz (kh1 (zc fun _ kh3 => Sr fun _ kh4 => zm rfl (zm rfl (zg hb5 rfl ?_))))));refine WL.call hasF91 rfl rfl (refusedSh_spec b S mode pn pi _ ⟨rv, rq, hb, hNv, hNq⟩ ⟨⟨hs1, hs2, hs3, hs4, hs5, hs6⟩, hokV, hokQ, hloS, hhiS⟩ (hg0.keep0 hch)) fun v w1 h' => ?_;obtain ⟨rfl, hC⟩ := h';have hch := hch.ta hC;have hb := hb.keep0 hC;have hb5 := hb5.k0 hC;have hNv := hNv.keep0 hC;refine za rfl (zz (kh4 (Sr fun _ kh6 => zm rfl (zN rfl rfl (zz (kh6 ?_))))));refine zy rfl ?_ ?_<;>intro hc1<;>try simp only [qs] at hc1
 ·have h0 : shE S.s mode pn pi ≠ 0 := hc1
  refine Sr fun _ kh8 => zm rfl (za rfl (za rfl (zz (kh8 ?_))));refine zr (zr2 rfl rfl rfl ?_);refine ⟨⟨_, _, rfl, ?_⟩, hch⟩;exact .inl ⟨h0, rfl, rfl⟩
 have h0 : shE S.s mode pn pi = 0 := by have := hc1; omega
 refine zkk (kh3 (zc fun _ kh10 => zc fun _ kh11 => ?_));refine CW.regionHC 11 rfl hmix fun kR12 kr12 hS hdr => ?_;have hch := hch.ta hdr;have hb := hb.keep0 hdr;have hb5 := hb5.k0 hdr;have hNv := hNv.keep0 hdr;have hb_r := hb;have hb5_r := hb5;refine wh 0 rfl hS (eM rfl) (wh 1 rfl hS (eP rfl) (wh 2 rfl hS (eF rfl) (wh 3 rfl hS (fun _ hw' => Ev.loadB rfl rfl (hb_r.keep0 hw') rfl rfl) ?_)))
 try simp only [List.drop_succ_cons, List.drop_zero, List.take_succ_cons, List.take_zero]
 refine wh 4 rfl hS (fun _ hw' => Ev.loadA rfl rfl (hb5_r.keep0 hw') rfl) ?_;refine WH.oneCall 5 rfl (by kernel_rfl) hasF92 rfl rfl (Verdict_spec S.s pn pi _ ⟨by omega, by omega, by omega, by omega, by omega, by omega⟩) fun v w2 h' => ?_;obtain ⟨rfl, hC⟩ := h';have hvc := verd_cases S.s pn pi;have hch := hch.ta hC;have hb := hb.keep0 hC;have hNv := hNv.keep0 hC;have hS := hS.trans hC;refine ⟨hS, ?_⟩;refine wh 6 rfl hS (eM rfl) (wh 7 rfl hS (eX rfl rfl) (wh 8 rfl hS (eX rfl rfl) (wh 9 rfl hS (eA rfl) (wh 10 rfl hS (eA rfl) ?_))));refine WH.done (by kernel_rfl) (kr12 _ _ _ ?_);refine kh11 (Sr fun _ kh13 => zm rfl (zz (kh13 ?_)));refine zy rfl ?_ ?_<;>intro hc2<;>try simp only [qs] at hc2
 ·obtain ⟨x, hv1, hv2, hv3⟩ : ∃ x, verdP S.s pn pi = .some x ∧ (verdP S.s pn pi).isSome = true ∧ (verdP S.s pn pi).getD 0 = x := hvc.resolve_right (fun q => by have := hc2; rw [q.2] at this; exact Bool.false_ne_true this);rw [hv3]
  refine Sr fun _ kh15 => zm rfl (za rfl (za rfl (zz (kh15 ?_))));refine zr (zr2 rfl rfl rfl ?_);refine ⟨⟨_, _, rfl, ?_⟩, hch⟩;exact .inr ⟨h0, .inl ⟨x, hv1, rfl, rfl⟩⟩
 have hv : verdP S.s pn pi = .none := by
  rcases hvc with ⟨_, _, q2, _⟩ | q
  · have := hc2; rw [q2] at this; exact absurd this (by decide)
  exact q.1
 refine zkk (kh10 (zc fun _ kh17 => Sr fun _ kh18 => zm rfl (zP rfl (zf rfl ?_))));refine WL.ev (Ev.loadB rfl rfl hb rfl rfl) rfl ?_
 try simp only [List.drop_succ_cons, List.drop_zero, List.take_succ_cons, List.take_zero]
 refine WL.call hasF93 rfl rfl (Sign_dspec _ _ _ _ _ hNv) fun v w3 h' => ?_;obtain ⟨rfl, hC⟩ := h';rw [val_wd];have hch := hch.ta hC;have hb := hb.keep0 hC;have hNv := hNv.keep0 hC;refine zq rfl rfl (zz (kh18 ?_));refine zy rfl ?_ ?_<;>intro hc3<;>try simp only [qs] at hc3
 ·have hm0 : S.V.m = 0 := sgD_nz.1 hc3
  refine Sr fun _ kh20 => zm rfl (zP rfl (zf rfl ?_));refine WL.ev (Ev.loadB rfl rfl hb rfl rfl) rfl ?_
  try simp only [List.drop_succ_cons, List.drop_zero, List.take_succ_cons, List.take_zero]
  refine zm rfl ?_;refine WL.call hasF94 rfl rfl (Nought_spec S.s mode _ ⟨by omega, by omega, by omega, by omega, by omega, by omega⟩) fun v w4 h' => ?_;obtain ⟨rfl, hC⟩ := h';have hch := hch.ta hC;refine za rfl (za rfl (zz (kh20 ?_)));refine zr (zr2 rfl rfl rfl ?_);refine ⟨⟨_, _, rfl, ?_⟩, hch⟩;exact .inr ⟨h0, .inr ⟨hv, .inl ⟨hm0, rfl, rfl⟩⟩⟩
 have hm0 : S.V.m ≠ 0 := fun q => hc3 (sgD_nz.2 q);refine zkk (kh17 (Sr fun _ kh22 => zm rfl (zP rfl (zf rfl ?_))));refine WL.ev (Ev.loadB rfl rfl hb rfl rfl) rfl ?_
 try simp only [List.drop_succ_cons, List.drop_zero, List.take_succ_cons, List.take_zero]
 refine zm rfl ?_;refine WL.call hasF95 rfl rfl (Round_dspec _ _ _ _ mode _ hNv (hg0.keep0 hch) (ok_i64 hokV)) fun v w5 h' => ?_;obtain ⟨⟨xb, xe, rfl, hR⟩, hC⟩ := h';rw [val_wd, formD_self hokV] at hR;have hch := hch.ta hC;refine zx rfl rfl (zx rfl rfl (za rfl (za rfl (zz (kh22 ?_)))));refine zr (zr2 rfl rfl rfl ?_);refine ⟨⟨_, _, rfl, ?_⟩, hch⟩;exact .inr ⟨h0, .inr ⟨hv, .inr ⟨hm0, hR⟩⟩⟩

theorem shMean_spec (b : Nat) (S : Sh) (mode pn pi : Int) (w : World) (hS : ShM 109 w b S) (hwf : S.wf) (hg : GW w) (hfin0 : 0 ≤ S.fin) : Ret Tryz.prog 28 [.pointer (some ⟨b, 0, none⟩), .int .i64 mode, .agg [.int .i64 pn, .int .i64 pi].toArray] w fun u w' => (∃ x e, u = .tuple [.float .f64 x, .int .i64 e].toArray ∧ meanShR S mode pn pi x e) ∧ Chg [] w w' := by
 obtain ⟨rv, rq, hb, hNv, hNq⟩ := hS;obtain ⟨hle, hokV, hokQ, hloS, hhiS⟩ := hwf;obtain ⟨hs1, hs2, hs3, hs4, hs5, hs6⟩ := hle;have hch := crf w;have hg0 := hg;have hfn : 0 ≤ S.fin := hfin0;refine zE3 Tryz.func28 rfl ?_;refine Sr fun _ kh1 => ?_;refine zBh rfl rfl rfl hch fun b5 wm5 hb5 hcm5 hge5 hgehch5 hch => ?_;have hNv := hNv.keep0 hcm5;have hNq := hNq.keep0 hcm5;have hneb5 : b ≠ b5 := by have := hb.lt; omega
 have hb := hb.keep0 hcm5;refine za rfl (za rfl (zz (kh1 (zc fun _ kh3 => Sr fun _ kh4 => zm rfl (zm rfl (zg hb5 rfl ?_))))));refine WL.call hasF91 rfl rfl (refusedSh_spec b S mode pn pi _ ⟨rv, rq, hb, hNv, hNq⟩ ⟨⟨hs1, hs2, hs3, hs4, hs5, hs6⟩, hokV, hokQ, hloS, hhiS⟩ (hg0.keep0 hch)) fun v w1 h' => ?_;obtain ⟨rfl, hC⟩ := h';have hch := hch.ta hC;have hb := hb.keep0 hC;have hb5 := hb5.k0 hC;have hNv := hNv.keep0 hC;have hNq := hNq.keep0 hC;refine za rfl (zz (kh4 (Sr fun _ kh6 => zm rfl (zN rfl rfl (zz (kh6 ?_))))));refine zy rfl ?_ ?_<;>intro hc1<;>try simp only [qs] at hc1
 ·have h0 : shE S.s mode pn pi ≠ 0 := hc1
  refine Sr fun _ kh8 => zm rfl (za rfl (za rfl (zz (kh8 ?_))));refine zr (zr2 rfl rfl rfl ?_);refine ⟨⟨_, _, rfl, ?_⟩, hch⟩;exact .inl ⟨h0, rfl, rfl⟩
 have h0 : shE S.s mode pn pi = 0 := by have := hc1; omega
 have hmd : 0 ≤ mode ∧ mode ≤ 4 := Classical.byContradiction fun q => by unfold shE at h0; rw [if_pos (fun z => q z.1)] at h0; cases h0
 refine zkk (kh3 (zc fun _ kh10 => ?_));refine CW.regionHC 11 rfl hmix fun kR11 kr11 hS hdr => ?_;have hch := hch.ta hdr;have hb := hb.keep0 hdr;have hb5 := hb5.k0 hdr;have hNv := hNv.keep0 hdr;have hNq := hNq.keep0 hdr;have hb_r := hb;have hb5_r := hb5;refine wh 0 rfl hS (eM rfl) (wh 1 rfl hS (eP rfl) (wh 2 rfl hS (eF rfl) (wh 3 rfl hS (fun _ hw' => Ev.loadB rfl rfl (hb_r.keep0 hw') rfl rfl) ?_)))
 try simp only [List.drop_succ_cons, List.drop_zero, List.take_succ_cons, List.take_zero]
 refine wh 4 rfl hS (fun _ hw' => Ev.loadA rfl rfl (hb5_r.keep0 hw') rfl) ?_;refine WH.oneCall 5 rfl (by kernel_rfl) hasF92 rfl rfl (Verdict_spec S.s pn pi _ ⟨by omega, by omega, by omega, by omega, by omega, by omega⟩) fun v w2 h' => ?_;obtain ⟨rfl, hC⟩ := h';have hvc := verd_cases S.s pn pi;have hch := hch.ta hC;have hb := hb.keep0 hC;have hNv := hNv.keep0 hC;have hNq := hNq.keep0 hC;have hS := hS.trans hC;refine ⟨hS, ?_⟩;refine wh 6 rfl hS (eM rfl) (wh 7 rfl hS (eX rfl rfl) (wh 8 rfl hS (eX rfl rfl) (wh 9 rfl hS (eA rfl) (wh 10 rfl hS (eA rfl) ?_))));refine WH.done (by kernel_rfl) (kr11 _ _ _ ?_);refine kh10 (zc fun _ kh12 => CW.block (Sr fun _ kh13 => zm rfl (za rfl (zz (kh13 ?_)))));refine zy rfl ?_ ?_<;>intro hc2<;>try simp only [qs] at hc2
 ·obtain ⟨x, hv1, hv2, hv3⟩ : ∃ x, verdP S.s pn pi = .some x ∧ (verdP S.s pn pi).isSome = true ∧ (verdP S.s pn pi).getD 0 = x := hvc.resolve_right (fun q => by have := hc2; rw [q.2] at this; exact Bool.false_ne_true this);rw [hv3]
  refine Sr fun _ kh15 => zm rfl (za rfl (za rfl (zz (kh15 ?_))));refine zr (zr2 rfl rfl rfl ?_);refine ⟨⟨_, _, rfl, ?_⟩, hch⟩;exact .inr ⟨h0, .inl ⟨x, hv1, rfl, rfl⟩⟩
 have hv : verdP S.s pn pi = .none := by
  rcases hvc with ⟨_, _, q2, _⟩ | q
  · have := hc2; rw [q2] at this; exact absurd this (by decide)
  exact q.1
 refine Sr fun _ kh17 => zm rfl ?_;refine WL.call hasF85 rfl rfl (finite_spec b S _ ⟨rv, rq, hb, hNv, hNq⟩ ⟨hs1, hs2, hs3, hs4, hs5, hs6⟩) fun v w3 h' => ?_;obtain ⟨rfl, hC⟩ := h';have hch := hch.ta hC;have hb := hb.keep0 hC;have hNv := hNv.keep0 hC;have hNq := hNq.keep0 hC;refine zq rfl rfl (za rfl (zz (kh17 ?_)));refine zy rfl ?_ ?_<;>intro hc3<;>try simp only [qs] at hc3
 ·have hf0 : S.fin = 0 := hc3
  refine Sr fun _ kh19 => za rfl (za rfl (zz (kh19 ?_)));refine zr (zr2 rfl rfl rfl ?_);refine ⟨⟨_, _, rfl, ?_⟩, hch⟩;exact .inr ⟨h0, .inr ⟨hv, .inl ⟨hf0, rfl, rfl⟩⟩⟩
 have hf0 : S.fin ≠ 0 := hc3;refine Sr fun _ kh21 => zm rfl (zP rfl (zf rfl ?_));refine WL.ev (Ev.loadB rfl rfl hb rfl rfl) rfl ?_
 try simp only [List.drop_succ_cons, List.drop_zero, List.take_succ_cons, List.take_zero]
 refine WL.call hasF93 rfl rfl (Sign_dspec _ _ _ _ _ hNv) fun v w4 h' => ?_;obtain ⟨rfl, hC⟩ := h';rw [val_wd];have hch := hch.ta hC;have hb := hb.keep0 hC;have hNv := hNv.keep0 hC;have hNq := hNq.keep0 hC;refine zq rfl rfl (za rfl (zz (kh21 ?_)));refine zy rfl ?_ ?_<;>intro hc4<;>try simp only [qs] at hc4
 ·have hm0 : S.V.m = 0 := sgD_nz.1 hc4
  refine Sr fun _ kh23 => zm rfl (zP rfl (zf rfl ?_));refine WL.ev (Ev.loadB rfl rfl hb rfl rfl) rfl ?_
  try simp only [List.drop_succ_cons, List.drop_zero, List.take_succ_cons, List.take_zero]
  refine zm rfl ?_;refine WL.call hasF94 rfl rfl (Nought_spec S.s mode _ ⟨by omega, by omega, by omega, by omega, by omega, by omega⟩) fun v w5 h' => ?_;obtain ⟨rfl, hC⟩ := h';have hch := hch.ta hC;refine za rfl (za rfl (zz (kh23 ?_)));refine zr (zr2 rfl rfl rfl ?_);refine ⟨⟨_, _, rfl, ?_⟩, hch⟩;exact .inr ⟨h0, .inr ⟨hv, .inr ⟨hf0, .inl ⟨hm0, rfl, rfl⟩⟩⟩⟩
 have hm0 : S.V.m ≠ 0 := fun q => hc4 (sgD_nz.2 q);refine zkk (kh12 (zc fun _ kh25 => ?_));refine CW.regionHC 12 rfl hmix fun kR26 kr26 hS hdr => ?_;have hch := hch.ta hdr;have hb := hb.keep0 hdr;have hNv := hNv.keep0 hdr;have hNq := hNq.keep0 hdr;have hb_r := hb;refine wh 0 rfl hS (eM rfl) (wh 1 rfl hS (eP rfl) (wh 2 rfl hS (eF rfl) (wh 3 rfl hS (fun _ hw' => Ev.loadB rfl rfl (hb_r.keep0 hw') rfl rfl) ?_)))
 try simp only [List.drop_succ_cons, List.drop_zero, List.take_succ_cons, List.take_zero]
 refine wh 4 rfl hS (eM rfl) (wh 6 rfl hS (eM rfl) ?_);refine WH.oneCall 5 rfl (by kernel_rfl) hasF85 rfl rfl (finite_spec b S _ ⟨rv, rq, hb, hNv, hNq⟩ ⟨hs1, hs2, hs3, hs4, hs5, hs6⟩) fun v w6 h' => ?_;obtain ⟨rfl, hC⟩ := h';have hch := hch.ta hC;have hNv := hNv.keep0 hC;have hS := hS.trans hC;refine ⟨hS, ?_⟩;refine WH.oneCall 7 rfl (by kernel_rfl) hasF96 rfl rfl (mOf_spec _ _ _ _ S.fin mode _ hNv (hg0.keep0 hch) (ok_i64 hokV)) fun v w7 h' => ?_;obtain ⟨⟨xb, xe, rfl, hR⟩, hC⟩ := h';rw [val_wd] at hR;have hch := hch.ta hC;have hS := hS.trans hC;refine ⟨hS, ?_⟩;refine wh 8 rfl hS (eX rfl rfl) (wh 9 rfl hS (eX rfl rfl) (wh 10 rfl hS (eA rfl) (wh 11 rfl hS (eA rfl) ?_)));refine WH.done (by kernel_rfl) (kr26 _ _ _ ?_);refine kh25 ?_;refine zr (zr2 rfl rfl rfl ?_);refine ⟨⟨_, _, rfl, ?_⟩, hch⟩;refine .inr ⟨h0, .inr ⟨hv, .inr ⟨hf0, .inr ⟨hm0, of_quot hokV hm0 hmd (by unfold Sh.fin at *; omega) (by unfold Sh.fin; omega) hR⟩⟩⟩⟩

theorem shEnd_spec (b : Nat) (S : Sh) (x : Nat) (w : World) (hS : ShM 109 w b S) (hwf : S.wf) (hg : GW w) : Ret Tryz.prog 111 [.pointer (some ⟨b, 0, none⟩), .float .f64 x] w fun u w' => u = .tuple [.float .f64 (endR S x).1, .int .i64 (endR S x).2].toArray ∧ Chg [] w w' := by
 obtain ⟨rv, rq, hb, hNv, hNq⟩ := hS;obtain ⟨hle, hokV, hokQ, hloS, hhiS⟩ := hwf;obtain ⟨hs1, hs2, hs3, hs4, hs5, hs6⟩ := hle;have hch := crf w;have hg0 := hg;refine zE2 Tryz.func111 rfl ?_;refine Sr fun _ kh1 => za rfl (za rfl (zz (kh1 (zc fun _ kh3 => CW.block (Sr fun _ kh4 => zm rfl (zP rfl (zf rfl (zf rfl (zl hb rfl rfl (zq rfl rfl (za rfl (zz (kh4 ?_)))))))))))));refine zy rfl ?_ ?_<;>intro hc1<;>try simp only [qs] at hc1
 ·have h0 : S.s.al = 0 := by have := hc1; omega
  refine Sr fun _ kh6 => za rfl (za rfl (zz (kh6 ?_)));refine zr (zr2 rfl rfl rfl ?_);refine ⟨?_, hch⟩;rw [show endR S x = (0, 3) from if_pos h0]
 have h0 : ¬ S.s.al = 0 := by have := hc1; omega
 refine Sr fun _ kh8 => zm rfl ?_;refine WL.call hasF64 rfl rfl (some_spec b S _ ⟨rv, rq, hb, hNv, hNq⟩ ⟨hs1, hs2, hs3, hs4, hs5, hs6⟩) fun v w1 h' => ?_;obtain ⟨rfl, hC⟩ := h';have hch := hch.ta hC;refine zT rfl (za rfl (zz (kh8 ?_)));refine zy rfl ?_ ?_<;>intro hc2<;>try simp only [qs] at hc2
 ·have h1 : ¬ S.some := by simpa using hc2
  refine Sr fun _ kh10 => ?_;refine WL.call hasF97 rfl rfl (bits_NaN_spec _) fun v w2 h' => ?_;obtain ⟨rfl, rfl⟩ := h';refine za rfl (za rfl (zz (kh10 ?_)));refine zr (zr2 rfl rfl rfl ?_);refine ⟨?_, hch⟩;rw [show endR S x = (9221120237041090560, 0) from (if_neg h0).trans (if_pos h1)]
 have h1 : ¬ ¬ S.some := by simpa using hc2
 refine zkk (kh3 (Sr fun _ kh12 => zm rfl (za rfl (za rfl (zz (kh12 ?_))))));refine zr (zr2 rfl rfl rfl ?_);refine ⟨?_, hch⟩;rw [show endR S x = (x, 0) from (if_neg h0).trans (if_neg h1)]

theorem Least_spec (b : Nat) (S : Sh) (w : World) (hS : ShM 109 w b S) (hwf : S.wf) (hg : GW w) : Ret Tryz.prog 35 [.pointer (some ⟨b, 0, none⟩)] w fun u w' => u = .tuple [.float .f64 (endR S S.lo).1, .int .i64 (endR S S.lo).2].toArray ∧ Chg [] w w' := by
 obtain ⟨rv, rq, hb, hNv, hNq⟩ := hS;obtain ⟨hle, hokV, hokQ, hloS, hhiS⟩ := hwf;obtain ⟨hs1, hs2, hs3, hs4, hs5, hs6⟩ := hle;have hch := crf w;have hg0 := hg;refine zE1 Tryz.func35 rfl ?_;refine Sr fun _ kh1 => za rfl (za rfl (zz (kh1 (Sr fun _ kh3 => zm rfl (zm rfl (zP rfl (zf rfl (zl hb rfl rfl ?_))))))));refine WL.call hasF111 rfl rfl (shEnd_spec b S S.lo _ ⟨rv, rq, hb, hNv, hNq⟩ ⟨⟨hs1, hs2, hs3, hs4, hs5, hs6⟩, hokV, hokQ, hloS, hhiS⟩ (hg0.keep0 hch)) fun v w1 h' => ?_;obtain ⟨rfl, hC⟩ := h';have hch := hch.ta hC;refine zx rfl rfl (zx rfl rfl (za rfl (za rfl (zz (kh3 ?_)))));refine zr (zr2 rfl rfl rfl ?_);exact ⟨rfl, hch⟩

theorem Most_spec (b : Nat) (S : Sh) (w : World) (hS : ShM 109 w b S) (hwf : S.wf) (hg : GW w) : Ret Tryz.prog 36 [.pointer (some ⟨b, 0, none⟩)] w fun u w' => u = .tuple [.float .f64 (endR S S.hi).1, .int .i64 (endR S S.hi).2].toArray ∧ Chg [] w w' := by
 obtain ⟨rv, rq, hb, hNv, hNq⟩ := hS;obtain ⟨hle, hokV, hokQ, hloS, hhiS⟩ := hwf;obtain ⟨hs1, hs2, hs3, hs4, hs5, hs6⟩ := hle;have hch := crf w;have hg0 := hg;refine zE1 Tryz.func36 rfl ?_;refine Sr fun _ kh1 => za rfl (za rfl (zz (kh1 (Sr fun _ kh3 => zm rfl (zm rfl (zP rfl (zf rfl (zl hb rfl rfl ?_))))))));refine WL.call hasF111 rfl rfl (shEnd_spec b S S.hi _ ⟨rv, rq, hb, hNv, hNq⟩ ⟨⟨hs1, hs2, hs3, hs4, hs5, hs6⟩, hokV, hokQ, hloS, hhiS⟩ (hg0.keep0 hch)) fun v w1 h' => ?_;obtain ⟨rfl, hC⟩ := h';have hch := hch.ta hC;refine zx rfl rfl (zx rfl rfl (za rfl (za rfl (zz (kh3 ?_)))));refine zr (zr2 rfl rfl rfl ?_);exact ⟨rfl, hch⟩

end

/- Package moment: times, by, Of; Shards: Var. No condition. -/
section
open Go Sx Wd Fl

def accD (x y : Dy) : Nat → Dy
  | 0 => intD 1
  | 1 => (mulD (intD 1) x).getD Dy.zero
  | _ => (mulD ((mulD (intD 1) x).getD Dy.zero) y).getD Dy.zero
def timD (x y : Dy) : Dy := accD x y 2
theorem mulD_ok {x y d : Dy} (h : mulD x y = .some d) : d.ok := by
  unfold mulD at h; split at h
  · cases h
  · exact formD_ok h
theorem accD_ok (x y : Dy) (i : Nat) : (accD x y i).ok := by
  match i with
  | 0 => exact intD_ok (by decide)
  | 1 => exact getD_ok fun d h => mulD_ok h
  | (_ + 2) => exact getD_ok fun d h => mulD_ok h
theorem sel_nu {w : World} {x y di : Dy} {rx ry ri : Value} (h : (di = x ∧ ri = rx) ∨ (di = y ∧ ri = ry)) (h1 : NU w rx (wd x.m)) (h2 : NU w ry (wd y.m)) : NU w ri (wd di.m) := by
  rcases h with ⟨rfl, rfl⟩ | ⟨rfl, rfl⟩
  · exact h1
  · exact h2
structure KTm (b b2 b3 : Nat) (x y : Dy) (rx ry : Value) (w0 : World) (i : Nat) (w : World) : Prop where
  hi : i ≤ 2
  hB : BK w b 107 [.bool x.neg, rx, .int .i64 x.e, .bool y.neg, ry, .int .i64 y.e]
  h2 : BK w b2 107 [.bool false, .slice none 0 0, .int .i64 0]
  h3 : ∃ r, BK w b3 107 [.bool (accD x y i).neg, r, .int .i64 (accD x y i).e] ∧ NU w r (wd (accD x y i).m)
  hx : NU w rx (wd x.m)
  hy : NU w ry (wd y.m)
  ch : Chg [] w0 w

theorem mtimes_spec (b : Nat) (x y : Dy) (rx ry : Value) (w : World) (hB : BK w b 107 [.bool x.neg, rx, .int .i64 x.e, .bool y.neg, ry, .int .i64 y.e]) (hNx : NU w rx (wd x.m)) (hNy : NU w ry (wd y.m)) (hokx : x.ok) (hoky : y.ok) (hg : GW w) : Ret Tryz.prog 272 [.slice (some ⟨b, 0, none⟩) 2 2] w fun u w' => DY w' u (timD x y) ∧ Chg [] w w' := by
 have hch := crf w;have hg0 := hg;refine zE1 Tryz.func272 rfl ?_;refine Sr fun _ kh1 => ?_;refine zAh rfl rfl hch fun b2 wm2 hb2 hcm2 hge2 hgehch2 hch => ?_;have hNx := hNx.keep0 hcm2;have hNy := hNy.keep0 hcm2;have hneb2 : b ≠ b2 := by have := hB.lt; omega
 have hB := hB.keep0 hcm2;refine zz (kh1 (Sr fun _ kh3 => ?_));refine WL.call hasF179 rfl rfl (Int_spec 1 _ (hg0.keep0 hch) (by decide)) fun v w1 h' => ?_;obtain ⟨⟨r1, rfl, hN1⟩, hC⟩ := h';have hch := hch.ta hC;have hB := hB.keep0 hC;have hb2 := hb2.k0 hC;have hNx := hNx.keep0 hC;have hNy := hNy.keep0 hC;refine zAh rfl rfl hch fun b3 wm3 hb3 hcm3 hge3 hgehch3 hch => ?_;have hNx := hNx.keep0 hcm3;have hNy := hNy.keep0 hcm3;have hN1 := hN1.keep0 hcm3;have hneb3 : b ≠ b3 := by have := hB.lt; omega
 have hB := hB.keep0 hcm3;have hneb23 := zdd hb2.lt hge3;have hb2 := hb2.k0 hcm3;refine zss rfl rfl ao hb3 rfl fun ws23 hb3_ hcs23 => ?_;(try simp only [Sx.splice, qt] at hb3_);have hch := hch.s1 hcs23;have hB := hB.kq hcs23;have hb2 := hb2.kq hcs23;have hNx := hNx.keepBK hb3 hcs23 an;have hNy := hNy.keepBK hb3 hcs23 an;have hN1 := hN1.keepBK hb3 hcs23 an;have hb3 := hb3_;refine zz (kh3 (zc fun _ kh5 => Sr fun _ kh6 => zm rfl (zn rfl (zm rfl (zz (kh6 (CW.block ?_)))))));refine CW.loop (S := fun i : Nat => [(2, .pointer (some ⟨b2, 0, none⟩)), (3, .pointer (some ⟨b3, 0, none⟩)), (7, .slice (some ⟨b, 0, none⟩) 2 2), (8, .int .i64 2), (9, .int .i64 (i : Int))]) (Inv := KTm b b2 b3 x y rx ry w) (mu := fun i => 2 - i) (0) ?_ ?_ ?_
 ·exact ⟨by decide, hB, hb2, ⟨r1, hb3, hN1⟩, hNx, hNy, hch⟩
 ·exact SLp
 rintro i wr ⟨hi, hB, hb2, ⟨r, hb3, hNa⟩, hNx, hNy, hch⟩;refine Sr fun _ kh8 => zL rfl rfl (zz (kh8 (zc fun _ kh10 => ?_)));refine zy rfl ?_ ?_<;>intro hc1<;>try simp only [qs] at hc1
 ·obtain ⟨di, ri, hcs, hsel, hoki, hst⟩ : ∃ di ri, (List.drop (0 + ((i : Nat) : Int).toNat * 3) [.bool x.neg, rx, .int .i64 x.e, .bool y.neg, ry, .int .i64 y.e]).take 3 = [.bool di.neg, ri, .int .i64 di.e] ∧ ((di = x ∧ ri = rx) ∨ (di = y ∧ ri = ry)) ∧ di.ok ∧ accD x y (i + 1) = (mulD (accD x y i) di).getD Dy.zero := by
   have hi2 : i = 0 ∨ i = 1 := by omega
   rcases hi2 with rfl | rfl
   · exact ⟨x, rx, rfl, .inl ⟨rfl, rfl⟩, hokx, rfl⟩
   exact ⟨y, ry, rfl, .inr ⟨rfl, rfl⟩, hoky, rfl⟩
  have hoka := accD_ok x y i;have hri := (sel_nu hsel hNx hNy).one;refine zkk (kh10 (zc fun _ kh11 => CW.block (Sr fun _ kh12 => ?_)));refine WL.ev (Ev.indexAddr rfl rfl (by omega) (by omega)) rfl ?_;refine WL.ev (Ev.loadB (cs := [.bool di.neg, ri, .int .i64 di.e]) rfl rfl hB hcs rfl) rfl ?_;refine zAh rfl rfl hch fun b5 wm5 hb5 hcm5 hge5 hgehch5 hch => ?_;have hNx := hNx.keep0 hcm5;have hNy := hNy.keep0 hcm5;have hNa := hNa.keep0 hcm5;have hneb5 : b ≠ b5 := by have := hB.lt; omega
  have hB := hB.keep0 hcm5;have hneb25 := zdd hb2.lt hge5;have hb2 := hb2.k0 hcm5;have hneb35 := zdd hb3.lt hge5;have hb3 := hb3.k0 hcm5;refine zss rfl rfl ao hb5 rfl fun ws24 hb5_ hcs24 => ?_;(try simp only [Sx.splice, qt] at hb5_);have hch := hch.s1 hcs24;have hB := hB.kq hcs24;have hb2 := hb2.kq hcs24;have hb3 := hb3.kq hcs24;have hNx := hNx.keepBK hb5 hcs24 an;have hNy := hNy.keepBK hb5 hcs24 an;have hNa := hNa.keepBK hb5 hcs24 an;have hb5 := hb5_;refine zz (kh12 ?_);refine zR fun _ kr14 => ?_;refine zg hb3 rfl (zg hb5 rfl ?_);refine WL.call hasF132 rfl rfl (Mul_dspec _ _ _ _ _ _ _ _ _ hNa (sel_nu hsel hNx hNy) (hg0.keep0 hch) (ok_i64 hoka) (ok_i64 hoki)) fun v w2 h' => ?_;obtain ⟨hD, hC⟩ := h';rw [both_ok hoka hoki] at hD;obtain ⟨rn, kn, rfl, hRn⟩ := hD.cells;have hch := hch.ta hC;have hB := hB.keep0 hC;have hb2 := hb2.k0 hC;have hb3 := hb3.k0 hC;have hNx := hNx.keep0 hC;have hNy := hNy.keep0 hC;refine zm rfl (zx rfl rfl (zx rfl rfl ?_));refine zss rfl rfl ao hb3 rfl fun ws25 hb3_ hcs25 => ?_;(try simp only [Sx.splice, qt] at hb3_);have hch := hch.s1 hcs25;have hB := hB.kq hcs25;have hb2 := hb2.kq hcs25;have hNx := hNx.keepBK hb3 hcs25 an;have hNy := hNy.keepBK hb3 hcs25 an;have hRn := hRn.keepBK hb3 hcs25 an;have hb3 := hb3_;refine WL.nil (kr14 _ _ _ (kh11 ?_));refine zS fun _ kr15 => ?_;(first | refine zi rfl rfl ?_ | refine zo rfl rfl ?_);refine zm rfl (zz (kr15 ?_));refine ⟨rfl, i + 1, ?_, ?_, ?_⟩
  ·exact SLp
  ·exact ⟨by omega, hB, hb2, ⟨rn, by rw [hst]; exact hb3, by rw [hst]; exact hRn⟩, hNx, hNy, hch⟩
  show 2 - (i + 1) < 2 - i; omega
 have hi2 : i = 2 := by omega
 subst hi2;refine CW.exit ?_;refine kh5 (Sr fun _ kh16 => zg hb3 rfl ?_);refine zss rfl rfl ao hb2 rfl fun ws26 hb2_ hcs26 => ?_;(try simp only [Sx.splice, qt] at hb2_);have hch := hch.s1 hcs26;have hNa := hNa.keepBK hb2 hcs26 an;have hb2 := hb2_;refine zz (kh16 ?_);refine zr (bodyA.retR1 rfl (RVal.cell rfl (hb2.varA rfl rfl)) ?_);exact ⟨⟨_, rfl, hNa⟩, hch⟩

theorem DR.cellsK {w : World} {u : Value} {x : Option Dy} (h : DR w u x) : ∃ (r : Value) (k : Int), u = .tuple [.agg [.bool (x.getD Dy.zero).neg, r, .int .i64 (x.getD Dy.zero).e].toArray, .int .i64 k].toArray ∧ NU w r (wd (x.getD Dy.zero).m) ∧ ((k = 0 ∧ ∃ d, x = .some d) ∨ (k = 2 ∧ x = .none)) := by
  rcases h with ⟨r, d, rfl, rfl, hN⟩ | ⟨rfl, rfl⟩
  · exact ⟨r, 0, rfl, hN, .inl ⟨rfl, d, rfl⟩⟩
  · exact ⟨_, 2, rfl, by rw [show (Option.none.getD Dy.zero).m = 0 from rfl, wd_zero]; exact NU.nil, .inr ⟨rfl, rfl⟩⟩
def subD (x y : Dy) : Option Dy := both2 addD (.some x) (formD (!y.neg) y.m y.e)
def momR (n : Int) (V Q : Dy) (less mode : Int) (b : Nat) (e : Int) : Prop :=
  (¬ ((0 ≤ mode ∧ mode ≤ 4) ∧ (less = 0 ∨ less = 1) ∧ 1 ≤ n ∧ n ≤ 1099511627776) ∧ b = 0 ∧ e = 1) ∨ (((0 ≤ mode ∧ mode ≤ 4) ∧ (less = 0 ∨ less = 1) ∧ 1 ≤ n ∧ n ≤ 1099511627776) ∧
    (((mulD (intD n) Q = .none ∨ mulD V V = .none) ∧ b = 0 ∧ e = 2) ∨ ∃ x y, mulD (intD n) Q = .some x ∧ mulD V V = .some y ∧ ((subD x y = .none ∧ b = 0 ∧ e = 2) ∨ ∃ v, subD x y = .some v ∧
      ((n ≤ less ∧ b = 0 ∧ e = 3) ∨ (less < n ∧ QuotP v.neg (timD (intD n) (intD (n - less))).neg v.m (timD (intD n) (intD (n - less))).m v.e (timD (intD n) (intD (n - less))).e mode b e)))))

theorem momMay_spec (mode less : Int) (w : World) : Ret Tryz.prog 188 [.int .i64 mode, .int .i64 less] w fun u w' => u = .bool (decide ((0 ≤ mode ∧ mode ≤ 4) ∧ (less = 0 ∨ less = 1))) ∧ w = w' := by
 refine zE2 Tryz.func188 rfl ?_;refine Sr fun _ kh1 => za rfl (zz (kh1 (Sr fun _ kh3 => zm rfl ?_)));refine WL.ev (Ev.geq rfl rfl) rfl ?_;refine zm rfl ?_;refine zb ?_ ?_<;>intro hg1<;>try simp only [qs] at hg1
 ·refine zw rfl (zm rfl (zw rfl (zQ rfl rfl (zt rfl rfl (zm rfl ?_)))));refine zb ?_ ?_<;>intro hg2<;>try simp only [qs] at hg2
  ·refine zw rfl (zm rfl (zw rfl (zq rfl rfl (zw rfl (zm rfl ?_)))));refine zb ?_ ?_<;>intro hg3<;>try simp only [qs] at hg3
   ·refine zv rfl (zv rfl (zw rfl (zt rfl rfl (zt rfl rfl (za rfl (zz (kh3 ?_)))))));refine zr (zr1 rfl rfl ?_);refine ⟨congrArg Value.bool ?_, rfl⟩
    first | (simp_all; done) | (simp; omega) | (refine decide_eq_decide.2 ?_; omega) | (simp_all; omega)
   refine zw rfl (zm rfl (zw rfl (zq rfl rfl (zw rfl (ze rfl rfl (zt rfl rfl (za rfl (zz (kh3 ?_)))))))));refine zr (zr1 rfl rfl ?_);refine ⟨congrArg Value.bool ?_, rfl⟩
   first | (simp_all; done) | (simp; omega) | (refine decide_eq_decide.2 ?_; omega) | (simp_all; omega)
  refine zv rfl (zv rfl (zv rfl (zu rfl (zu rfl (zv rfl (ze rfl rfl (za rfl (zz (kh3 ?_)))))))));refine zr (zr1 rfl rfl ?_);refine ⟨congrArg Value.bool ?_, rfl⟩
  first | (simp_all; done) | (simp; omega) | (refine decide_eq_decide.2 ?_; omega) | (simp_all; omega)
 refine zv rfl (zv rfl (ze rfl rfl (zm rfl (zv rfl (zv rfl (zv rfl (zu rfl (zu rfl (zv rfl (ze rfl rfl (za rfl (zz (kh3 ?_)))))))))))));refine zr (zr1 rfl rfl ?_);refine ⟨congrArg Value.bool ?_, rfl⟩
 first | (simp_all; done) | (simp; omega) | (refine decide_eq_decide.2 ?_; omega) | (simp_all; omega)

theorem by_spec (x : Dy) (rx : Value) (n less : Int) (w : World) (hNx : NU w rx (wd x.m)) (hok : x.ok) (hn : 1 ≤ n ∧ n ≤ 1099511627776) (hl : 0 ≤ less ∧ less ≤ 1) (hg : GW w) : Ret Tryz.prog 190 [.agg [.bool x.neg, rx, .int .i64 x.e].toArray, .int .i64 n, .int .i64 less] w fun u w' => (∃ rd, u = .agg [.bool x.neg, rx, .int .i64 x.e, .bool (timD (intD n) (intD (n - less))).neg, rd, .int .i64 (timD (intD n) (intD (n - less))).e].toArray ∧ NU w' rd (wd (timD (intD n) (intD (n - less))).m) ∧ NU w' rx (wd x.m)) ∧ Chg [] w w' := by
 have hch := crf w;have hg0 := hg;have hox := hNx.one;refine zE3 Tryz.func190 rfl ?_;refine Sr fun _ kh1 => ?_;refine zBh rfl rfl rfl hch fun b3 wm3 hb3 hcm3 hge3 hgehch3 hch => ?_;have hNx := hNx.keep0 hcm3;refine WL.allocB (l := [.bool false, .slice none 0 0, .int .i64 0, .bool false, .slice none 0 0, .int .i64 0]) rfl rfl fun b6 wm6 hb6 hcm6 hge6 => ?_;have hgehch6 := Nat.le_trans hch.size hge6;have hch := hch.ta hcm6;have hNx := hNx.keep0 hcm6;have hneb36 := zdd hb3.lt hge6;have hb3 := hb3.k0 hcm6;refine zz (kh1 (zc fun _ kh3 => ?_));refine CW.regionKC 10 11 rfl hmix fun kR4 kr4 hS hdr => ?_;have hch := hch.ta hdr;have hb3 := hb3.k0 hdr;have hb6 := hb6.k0 hdr;have hNx := hNx.keep0 hdr;have hb3_r := hb3;refine wk 0 rfl hS (fun _ hw' => Ev.loadA rfl rfl (hb3_r.keep0 hw') rfl) (wk 1 rfl hS (eM rfl) (wk 3 rfl hS (eM rfl) (wk 4 rfl hS (eM rfl) (wk 5 rfl hS (fun _ _ => Ev.subIn rfl rfl (by omega)) ?_))));refine WK.oneCall 2 rfl (by kernel_rfl) hasF179 rfl rfl (Int_spec n _ (hg0.keep0 hch) (by omega)) fun v w1 h' => ?_;obtain ⟨⟨ri, rfl, hNi⟩, hC⟩ := h';have hoi := hNi.one;have hch := hch.ta hC;have hb6 := hb6.k0 hC;have hNx := hNx.keep0 hC;have hS := hS.trans hC;refine ⟨hS, ?_⟩;refine WK.oneCall 6 rfl (by kernel_rfl) hasF179 rfl rfl (Int_spec (n - less) _ (hg0.keep0 hch) (by omega)) fun v w2 h' => ?_;obtain ⟨⟨rj, rfl, hNj⟩, hC⟩ := h';have hoj := hNj.one;have hch := hch.ta hC;have hb6 := hb6.k0 hC;have hNx := hNx.keep0 hC;have hNi := hNi.keep0 hC;have hS := hS.trans hC;refine ⟨hS, ?_⟩;refine WK.buildSlice 7 (m := 2) (cs := [.bool (intD n).neg, ri, .int .i64 (intD n).e, .bool (intD (n - less)).neg, rj, .int .i64 (intD (n - less)).e]) rfl (by kernel_rfl) (by decide) (by decide) rfl (by kernel_rfl) rfl fun b14 w14 hn14 => ?_;have hS := hS.trans hn14.chg;refine ⟨hS, ?_⟩;have hb14 := hn14.at_;have hch := hch.trans hn14.chg;have hNx := hNx.keep0 hn14.chg;have hNi := hNi.keep0 hn14.chg;have hNj := hNj.keep0 hn14.chg;have hb6 := hb6.keep0 hn14.chg;refine WK.oneCall 8 rfl (by kernel_rfl) hasF272 rfl rfl (mtimes_spec b14 (intD n) (intD (n - less)) ri rj _ hb14 hNi hNj (intD_ok (by omega)) (intD_ok (by omega)) (hg0.keep0 hch)) fun v w3 h' => ?_;obtain ⟨⟨rd, rfl, hNd⟩, hC⟩ := h';have hod := hNd.one;have hch := hch.ta hC;have hb6 := hb6.k0 hC;have hNx := hNx.keep0 hC;have hS := hS.trans hC;refine ⟨hS, ?_⟩;refine wk 9 rfl hS (fun _ _ => Ev.build (vs := _) (cs := [_, _, _, _, _, _]) rfl rfl) ?_;refine WK.storeB 10 rfl (by kernel_rfl) (by kernel_rfl) rfl rfl rfl ao hb6 (by simp) rfl fun ws27 hb6_ hcs27 => ?_;(try simp only [Sx.splice, qt] at hb6_);have hch := hch.s1 hcs27;have hNx := hNx.keepBK hb6 hcs27 an;have hNd := hNd.keepBK hb6 hcs27 an;have hb6 := hb6_;refine WK.done (by kernel_rfl) (kr4 _ _ _ ?_);refine kh3 ?_;refine zr (bodyA.retR1 rfl (RVal.cell rfl (hb6.varA rfl rfl)) ?_);exact ⟨⟨rd, rfl, hNd, hNx⟩, hch⟩

end

end Go.Proofs.YtnbipejaidbihaaGreatDoor