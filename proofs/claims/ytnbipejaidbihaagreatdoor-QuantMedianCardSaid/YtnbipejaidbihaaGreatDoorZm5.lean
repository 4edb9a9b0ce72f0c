/- Part 5 of what the proof rests on. No condition. -/
import Derived.Test.YtnbipejaidbihaaGreatDoorZm4
import Derived.Laws.StructEq
import Derived.ArgAppend
import Derived.Lib.AppendStr
import Derived.Laws.BytesString
import Derived.RangeFuncLeaves
import Derived.RangeFuncRecord
import Derived.TacticsIn
import Derived.Shelf.SlGeneric
import Derived.Shelf.SlSortCmp.Whole1
import Derived.Ground.SlsfProg
import Derived.Test.YtnbipejaidbihaaGreatDoorProg
import Derived.WalkKit
import Derived.ProofKit
import Derived.OpenShut
import Derived.ChangeOld
import Derived.Below
import Derived.Deep.Slices
import Derived.Laws.Cover2
import Derived.LaidMore
import Derived.SizedLaws
import Derived.SevenTiedAt
import Derived.Stop.Joined
import Derived.Test.YtnbipejaidbihaaGreatDoorRows
set_option linter.unusedVariables false
set_option linter.unusedSimpArgs false
set_option maxRecDepth 100000
set_option maxHeartbeats 4000000
namespace Go.Proofs.YtnbipejaidbihaaGreatDoor
/- Places in memory that are sorted: symMerge. No condition. -/
section
open Go Sx Wd Ss Fl

structure KM1 (rb ba n a m b : Nat) (vL : Value) (L l : List Nat) (w0 : World) (g : Nat × Nat) (w : World) : Prop where
  h1 : m ≤ g.1
  h2 : g.1 ≤ g.2
  h3 : g.2 ≤ b
  lo : ∀ q, m ≤ q → q < g.1 → kL L (l.getD q 0) < kL L (l.getD a 0)
  hi : ∀ q, g.2 ≤ q → q < b → ¬ kL L (l.getD q 0) < kL L (l.getD a 0)
  m : SsM rb ba n vL L w l
  ch : Chg [ba] w0 w
structure KM2 (rb ba n a m b : Nat) (vL : Value) (L l : List Nat) (w0 : World) (g : Nat × Nat) (w : World) : Prop where
  h1 : a ≤ g.1
  h2 : g.1 ≤ g.2
  h3 : g.2 ≤ m
  lo : ∀ q, a ≤ q → q < g.1 → ¬ kL L (l.getD m 0) < kL L (l.getD q 0)
  hi : ∀ q, g.2 ≤ q → q < m → kL L (l.getD m 0) < kL L (l.getD q 0)
  m : SsM rb ba n vL L w l
  ch : Chg [ba] w0 w
structure KU1 (rb ba n a i : Nat) (vL : Value) (L l : List Nat) (w0 : World) (g : Nat × List Nat) (w : World) : Prop where
  h1 : a ≤ g.1
  h2 : g.1 ≤ i - 1
  u : Up1 l a g.1 g.2
  m : SsM rb ba n vL L w g.2
  ch : Chg [ba] w0 w
structure KD1 (rb ba n m i : Nat) (vL : Value) (L l : List Nat) (w0 : World) (g : Nat × List Nat) (w : World) : Prop where
  h1 : i ≤ g.1
  h2 : g.1 ≤ m
  u : Dn1 l m g.1 g.2
  m : SsM rb ba n vL L w g.2
  ch : Chg [ba] w0 w
structure KM3 (rb ba n a m b d : Nat) (vL : Value) (L l : List Nat) (w0 : World) (g : Nat × Nat) (w : World) : Prop where
  h1 : a ≤ g.1
  h2 : g.1 ≤ g.2
  h3 : g.2 ≤ m
  h4 : g.2 ≤ d
  h5 : d + m ≤ b + g.1
  c : Cut (kL L) l a m b (d + m) g.1 g.2
  m : SsM rb ba n vL L w l
  ch : Chg [ba] w0 w

theorem symMerge_step (rb ba n : Nat) (vL : Value) (L l : List Nat) (a m b dd : Nat) (w : World) (hM : SsM rb ba n vL L w l) (hn : n ≤ 70368744177664) (h1 : a < m) (h2 : m < b) (h3 : b ≤ n) (hs : So (kL L) l a m) (ht : So (kL L) l m b) (hdd : dd = b - a) (IH : ∀ (a m b : Nat) (l : List Nat) (w : World), b - a < dd → SsM rb ba n vL L w l → a < m → m < b → b ≤ n → So (kL L) l a m → So (kL L) l m b → Ret Tryz.prog 323 [.slice (some ⟨ba, 0, none⟩) n n, .int .i64 (a : Int), .int .i64 (m : Int), .int .i64 (b : Int), CmpV rb] w fun _ w' => (∃ l', Sm l l' a b ∧ So (kL L) l' a b ∧ SsM rb ba n vL L w' l') ∧ Chg [ba] w w') : Ret Tryz.prog 323 [.slice (some ⟨ba, 0, none⟩) n n, .int .i64 (a : Int), .int .i64 (m : Int), .int .i64 (b : Int), CmpV rb] w fun _ w' => (∃ l', Sm l l' a b ∧ So (kL L) l' a b ∧ SsM rb ba n vL L w' l') ∧ Chg [ba] w w' := by
  have hch : Chg [ba] w w := Chg.refl _ _;have hll := hM.len;refine zE5 Tryz.func323 rfl ?_;refine zc fun _ kh1 => Sr fun _ kh2 => zm rfl (zm rfl ?_)
  first | refine WL.ev (Ev.subIn rfl rfl (by omega)) rfl ?_ | refine WL.ev (Ev.sub rfl rfl) rfl ?_
  refine zq rfl rfl (zz (kh2 ?_));refine zy rfl ?_ ?_<;>intro hc1<;>try simp only [qs] at hc1
  · have hma : m = a + 1 := by have := hc1; omega
    refine Sr fun _ kh4 => zm rfl (za rfl (zz (kh4 (Sr fun _ kh6 => zm rfl (za rfl (zz (kh6 (zc fun _ kh8 => ?_))))))));refine CW.block ?_;refine CW.loop (S := fun g : Nat × Nat => [(0, .slice (some ⟨ba, 0, none⟩) n n), (1, .int .i64 (a : Int)), (2, .int .i64 (m : Int)), (3, .int .i64 (b : Int)), (4, CmpV rb), (10, .int .i64 (g.1 : Int)), (11, .int .i64 (g.2 : Int))]) (Inv := KM1 rb ba n a m b vL L l w) (mu := fun g => g.2 - g.1) ((m, b)) ?_ ?_ ?_
    · exact ⟨Nat.le_refl _, by dsimp only; omega, Nat.le_refl _, fun q g1 g2 => by dsimp only at g2; omega, fun q g1 g2 => by dsimp only at g1; omega, hM, hch⟩
    · exact SLp
    · rintro ⟨i, j⟩ wr ⟨k1, k2, k3, klo, khi, hM2, hch⟩;dsimp only at k1 k2 k3 klo khi
      try dsimp only
      obtain ⟨hi_, hr, hlen, hlt0⟩ := id hM2;have htt : True := trivial;have hlt_ : ∀ {x}, x < n → l.getD x 0 < L.length := fun {x} hx => hM.at_ hx;refine zc fun _ kh9 => Sr fun _ kh10 => zm rfl (zm rfl ?_);refine WL.ev (Ev.lss rfl rfl) rfl ?_;refine zz (kh10 ?_);refine zy rfl ?_ ?_<;>intro hc2<;>try simp only [qs] at hc2
      · have hij : i < j := by omega
        refine zkk ?_;refine kh9 ?_;refine CW.block ?_;refine Sr fun _ kh12 => zm rfl (zm rfl ?_);(first | refine zi rfl rfl ?_ | refine zo rfl rfl ?_);refine WL.ev (Ev.convIn rfl rfl (in_u64 (by omega))) rfl ?_;refine WL.ev (Ev.shrU (b := 1) rfl rfl (by simp only [IntKind.bits]; omega)) rfl ?_;refine WL.ev (Ev.convIn rfl rfl (in_i64 (by omega))) rfl ?_;obtain ⟨c, hcc⟩ : ∃ c, c = (i + j) / 2 ^ 1 := ⟨_, rfl⟩;rw [← hcc];refine za rfl (zz (kh12 (zc fun _ kh14 => ?_)));refine CW.regionHC 11 rfl hmix fun kR15 kr15 hS hdr => ?_;have hch := hch.ta hdr;have hi_ := hi_.keep0 hdr;have hr := hr.keep0 hdr;have hi__r := hi_;refine wh 0 rfl hS (fun _ _ => Ev.move rfl) (wh 1 rfl hS (fun _ _ => Ev.move rfl) (wh 2 rfl hS (fun _ _ => Ev.move rfl) (wh 3 rfl hS (fun _ _ => Ev.ixB (c) rfl rfl (by omega) (by omega)) (wh 4 rfl hS (fun _ hw' => Ev.load rfl rfl ((hi__r.keep0 hw').i64 (by first | omega | (simp; omega)))) (wh 5 rfl hS (fun _ _ => Ev.move rfl) (wh 6 rfl hS (fun _ _ => Ev.move rfl) (wh 7 rfl hS (fun _ _ => Ev.ixB (a) rfl rfl (by omega) (by omega)) (wh 8 rfl hS (fun _ hw' => Ev.load rfl rfl ((hi__r.keep0 hw').i64 (by first | omega | (simp; omega)))) ?_))))))));refine WH.oneCallB 9 rfl (by kernel_rfl) hasF204 rfl rfl rfl (compare_spec rb ba n (l.getD c 0) (l.getD a 0) vL L _ hr (hlt_ (by omega)) (hlt_ (by omega))) fun v w49 h' => ?_;obtain ⟨rfl, hC49⟩ := h';have hS := hS.ta hC49;refine ⟨hS, ?_⟩;have hi_ := hi_.keep0 hC49;have hr := hr.keep0 hC49;have hch := hch.ta hC49;refine wh 10 rfl hS (fun _ _ => Ev.lss rfl rfl) ?_;refine WH.done (by kernel_rfl) (kr15 _ _ _ ?_);refine kh14 ?_;refine zy rfl ?_ ?_<;>intro hc3<;>try simp only [qs] at hc3
        · have hq : kL L (l.getD c 0) < kL L (l.getD a 0) := cmpI_lt.1 hc3
          have hM2 := SsM.of hM2 hi_ hr (.refl _);refine zR fun _ kr16 => ?_;refine zm rfl ?_;(first | refine zi rfl rfl ?_ | refine zo rfl rfl ?_);refine za rfl ?_;refine WL.nil (kr16 _ _ _ ?_);refine ⟨rfl, (c + 1, j), ?_, ?_, ?_⟩
          · exact SLp
          · refine ⟨by dsimp only; omega, by dsimp only; omega, k3, fun q g1 g2 => ?_, khi, hM2, hch⟩;dsimp only at g2;have := ht.le (i := q) (j := c) g1 (by omega) (by omega);omega
          · show j - (c + 1) < j - i; omega
        · have hq : ¬ kL L (l.getD c 0) < kL L (l.getD a 0) := fun z => by have h9 := cmpI_lt.2 z; omega
          have hM2 := SsM.of hM2 hi_ hr (.refl _);refine zR fun _ kr17 => ?_;refine zm rfl (za rfl ?_);refine WL.nil (kr17 _ _ _ ?_);refine ⟨rfl, (i, c), ?_, ?_, ?_⟩
          · exact SLp
          · refine ⟨k1, by dsimp only; omega, by dsimp only; omega, klo, fun q g1 g2 => ?_, hM2, hch⟩;dsimp only at g1;have := ht.le (i := c) (j := q) (by omega) g1 g2;omega
          · show c - i < j - i; omega
      · have hij : i = j := by omega
        subst hij;refine CW.exit ?_;refine kh8 (zc fun _ kh18 => Sr fun _ kh19 => zm rfl (za rfl (zz (kh19 ?_))));refine CW.block ?_;refine CW.loop (S := fun g : Nat × List Nat => [(0, .slice (some ⟨ba, 0, none⟩) n n), (1, .int .i64 (a : Int)), (2, .int .i64 (m : Int)), (3, .int .i64 (b : Int)), (4, CmpV rb), (10, .int .i64 (i : Int)), (13, .int .i64 (g.1 : Int))]) (Inv := KU1 rb ba n a i vL L l w) (mu := fun g => i - g.1) ((a, l)) ?_ ?_ ?_
        · exact ⟨Nat.le_refl _, by dsimp only; omega, Up1.start l a, hM2, hch⟩
        · exact SLp
        · rintro ⟨k, cur⟩ wr ⟨k4, k5, hu, hM3, hch⟩;dsimp only at k4 k5 hu hM3
          try dsimp only
          have hlc := hM3.len;obtain ⟨hi_, hr, hlen, hlt0⟩ := id hM3;have htt : True := trivial;refine zc fun _ kh21 => Sr fun _ kh22 => zm rfl (zm rfl ?_);refine WL.ev (Ev.subIn rfl rfl (by omega)) rfl ?_;refine WL.ev (Ev.lss rfl rfl) rfl ?_;refine zz (kh22 ?_);refine zy rfl ?_ ?_<;>intro hc4<;>try simp only [qs] at hc4
          · have hki : k < i - 1 := by omega
            refine zkk ?_;refine kh21 (zc fun _ kh24 => ?_);refine CW.block ?_;refine CW.regionKC 15 18 rfl hmix fun kR25 kr25 hS hdr => ?_;have hch := hch.ta hdr;have hi_ := hi_.keep0 hdr;have hr := hr.keep0 hdr;have hi__r := hi_;refine wk 0 rfl hS (fun _ _ => Ev.move rfl) (wk 1 rfl hS (fun _ _ => Ev.move rfl) ?_);refine WK.takeT 2 rfl (by kernel_rfl) (by kernel_rfl) (by kernel_rfl) (by kernel_rfl) (fun _ => hS) (fun w' => Ev.move rfl) rfl ?_;refine WK.takeT 3 rfl (by kernel_rfl) (by kernel_rfl) (by kernel_rfl) (by kernel_rfl) (fun _ => hS) (fun w' => Ev.move rfl) rfl ?_;refine WK.takeT 4 rfl (by kernel_rfl) (by kernel_rfl) (by kernel_rfl) (by kernel_rfl) (fun _ => hS) (fun w' => Ev.addIn rfl rfl (by omega)) rfl ?_;refine wk 5 rfl hS (fun _ _ => Ev.move rfl) (wk 6 rfl hS (fun _ _ => Ev.move rfl) (wk 7 rfl hS (fun _ _ => Ev.addIn rfl rfl (by omega)) (wk 8 rfl hS (fun _ _ => Ev.ixB ((k + 1)) rfl rfl (by omega) (by omega)) (wk 9 rfl hS (fun _ hw' => Ev.load rfl rfl ((hi__r.keep0 hw').i64 (by first | omega | (simp; omega)))) ?_))));refine WK.takeT 10 rfl (by kernel_rfl) (by kernel_rfl) (by kernel_rfl) (by kernel_rfl) (fun _ => hS) (fun w' => Ev.move rfl) rfl ?_;refine WK.takeT 11 rfl (by kernel_rfl) (by kernel_rfl) (by kernel_rfl) (by kernel_rfl) (fun _ => hS) (fun w' => Ev.move rfl) rfl ?_;refine WK.takeT 12 rfl (by kernel_rfl) (by kernel_rfl) (by kernel_rfl) (by kernel_rfl) (fun _ => hS) (fun w' => Ev.ixB (k) rfl rfl (by omega) (by omega)) rfl ?_;refine wk 13 rfl hS (fun _ hw' => Ev.load rfl rfl ((hi__r.keep0 hw').i64 (by first | omega | (simp; omega)))) (wk 14 rfl hS (fun _ _ => Ev.ixB (k) rfl rfl (by omega) (by omega)) ?_);refine WK.storeI 15 rfl (by kernel_rfl) (by kernel_rfl) rfl rfl hi_ (by first | omega | (simp; done) | (simp; omega)) fun ws5 hi__ hcs5 => ?_;have hch := hch.s1 hcs5;have hr := hr.keepOB hi_ hcs5 (by assumption);have hi_ := hi__;refine WK.after 16 rfl (by kernel_rfl) (by kernel_rfl) (Ev.ixB ((k + 1)) rfl rfl (by omega) (by omega)) rfl ?_;refine WK.storeI 17 rfl (by kernel_rfl) (by kernel_rfl) rfl rfl hi_ (by first | omega | (simp; done) | (simp; omega)) fun ws6 hi__ hcs6 => ?_;have hch := hch.s1 hcs6;have hr := hr.keepOB hi_ hcs6 (by assumption);have hi_ := hi__;refine WK.done (by kernel_rfl) (kr25 _ _ _ ?_);refine kh24 ?_;refine zR fun _ kr26 => ?_;refine zm rfl ?_;(first | refine zi rfl rfl ?_ | refine zo rfl rfl ?_);refine za rfl ?_;refine WL.nil (kr26 _ _ _ ?_);refine ⟨rfl, (k + 1, sw cur k (k + 1)), ?_, ?_, ?_⟩
            · exact SLp
            · have hu2 := hu.step k4 (by omega);exact ⟨by dsimp only; omega, by dsimp only; omega, hu2, hM3.of hi_ hr (sw_perm (by omega) (by omega) (by omega)), hch⟩
            · show i - (k + 1) < i - k; omega
          · have hki : k = i - 1 := by omega
            subst hki;refine CW.exit ?_;refine kh18 ?_;refine zr ?_;refine bodyA.ret0 rfl ?_;exact ⟨⟨cur, hu.sm (by omega) (by omega), hu.so (b := b) (by rw [← hma]; exact ht) (by omega) k3 (by rw [← hma]; exact klo) khi, hM3⟩, hch⟩
  · have hma : m ≠ a + 1 := by have := hc1; omega
    refine zkk ?_;refine kh1 (zc fun _ kh27 => Sr fun _ kh28 => zm rfl (zm rfl ?_))
    first | refine WL.ev (Ev.subIn rfl rfl (by omega)) rfl ?_ | refine WL.ev (Ev.sub rfl rfl) rfl ?_
    refine zq rfl rfl (zz (kh28 ?_));refine zy rfl ?_ ?_<;>intro hc5<;>try simp only [qs] at hc5
    · have hbm : b = m + 1 := by have := hc5; omega
      refine Sr fun _ kh30 => zm rfl (za rfl (zz (kh30 (Sr fun _ kh32 => zm rfl (za rfl (zz (kh32 (zc fun _ kh34 => ?_))))))));refine CW.block ?_;refine CW.loop (S := fun g : Nat × Nat => [(0, .slice (some ⟨ba, 0, none⟩) n n), (1, .int .i64 (a : Int)), (2, .int .i64 (m : Int)), (3, .int .i64 (b : Int)), (4, CmpV rb), (14, .int .i64 (g.1 : Int)), (15, .int .i64 (g.2 : Int))]) (Inv := KM2 rb ba n a m b vL L l w) (mu := fun g => g.2 - g.1) ((a, m)) ?_ ?_ ?_
      · exact ⟨Nat.le_refl _, by dsimp only; omega, Nat.le_refl _, fun q g1 g2 => by dsimp only at g2; omega, fun q g1 g2 => by dsimp only at g1; omega, hM, hch⟩
      · exact SLp
      · rintro ⟨i, j⟩ wr ⟨k1, k2, k3, klo, khi, hM2, hch⟩;dsimp only at k1 k2 k3 klo khi
        try dsimp only
        obtain ⟨hi_, hr, hlen, hlt0⟩ := id hM2;have htt : True := trivial;have hlt_ : ∀ {x}, x < n → l.getD x 0 < L.length := fun {x} hx => hM.at_ hx;refine zc fun _ kh35 => Sr fun _ kh36 => zm rfl (zm rfl ?_);refine WL.ev (Ev.lss rfl rfl) rfl ?_;refine zz (kh36 ?_);refine zy rfl ?_ ?_<;>intro hc6<;>try simp only [qs] at hc6
        · have hij : i < j := by omega
          refine zkk ?_;refine kh35 ?_;refine CW.block ?_;refine Sr fun _ kh38 => zm rfl (zm rfl ?_);(first | refine zi rfl rfl ?_ | refine zo rfl rfl ?_);refine WL.ev (Ev.convIn rfl rfl (in_u64 (by omega))) rfl ?_;refine WL.ev (Ev.shrU (b := 1) rfl rfl (by simp only [IntKind.bits]; omega)) rfl ?_;refine WL.ev (Ev.convIn rfl rfl (in_i64 (by omega))) rfl ?_;obtain ⟨c, hcc⟩ : ∃ c, c = (i + j) / 2 ^ 1 := ⟨_, rfl⟩;rw [← hcc];refine za rfl (zz (kh38 (zc fun _ kh40 => ?_)));refine CW.regionHC 12 rfl hmix fun kR41 kr41 hS hdr => ?_;have hch := hch.ta hdr;have hi_ := hi_.keep0 hdr;have hr := hr.keep0 hdr;have hi__r := hi_;refine wh 0 rfl hS (fun _ _ => Ev.move rfl) (wh 1 rfl hS (fun _ _ => Ev.move rfl) (wh 2 rfl hS (fun _ _ => Ev.move rfl) (wh 3 rfl hS (fun _ _ => Ev.ixB (m) rfl rfl (by omega) (by omega)) (wh 4 rfl hS (fun _ hw' => Ev.load rfl rfl ((hi__r.keep0 hw').i64 (by first | omega | (simp; omega)))) (wh 5 rfl hS (fun _ _ => Ev.move rfl) (wh 6 rfl hS (fun _ _ => Ev.move rfl) (wh 7 rfl hS (fun _ _ => Ev.ixB (c) rfl rfl (by omega) (by omega)) (wh 8 rfl hS (fun _ hw' => Ev.load rfl rfl ((hi__r.keep0 hw').i64 (by first | omega | (simp; omega)))) ?_))))))));refine WH.oneCallB 9 rfl (by kernel_rfl) hasF204 rfl rfl rfl (compare_spec rb ba n (l.getD m 0) (l.getD c 0) vL L _ hr (hlt_ (by omega)) (hlt_ (by omega))) fun v w101 h' => ?_;obtain ⟨rfl, hC101⟩ := h';have hS := hS.ta hC101;refine ⟨hS, ?_⟩;have hi_ := hi_.keep0 hC101;have hr := hr.keep0 hC101;have hch := hch.ta hC101;refine wh 10 rfl hS (fun _ _ => Ev.lss rfl rfl) (wh 11 rfl hS (fun _ _ => Ev.not rfl) ?_);refine WH.done (by kernel_rfl) (kr41 _ _ _ ?_);refine kh40 ?_;refine zy rfl ?_ ?_<;>intro hc7<;>try simp only [qs] at hc7
          · have hq : ¬ kL L (l.getD m 0) < kL L (l.getD c 0) := fun z => by have h9 := cmpI_lt.2 z; have := hc7; simp at this; omega
            have hM2 := SsM.of hM2 hi_ hr (.refl _);refine zR fun _ kr42 => ?_;refine zm rfl ?_;(first | refine zi rfl rfl ?_ | refine zo rfl rfl ?_);refine za rfl ?_;refine WL.nil (kr42 _ _ _ ?_);refine ⟨rfl, (c + 1, j), ?_, ?_, ?_⟩
            · exact SLp
            · refine ⟨by dsimp only; omega, by dsimp only; omega, k3, fun q g1 g2 => ?_, khi, hM2, hch⟩;dsimp only at g2;have := hs.le (i := q) (j := c) g1 (by omega) (by omega);omega
            · show j - (c + 1) < j - i; omega
          · have hq : kL L (l.getD m 0) < kL L (l.getD c 0) := cmpI_lt.1 (by have := hc7; simp at this; omega);have hM2 := SsM.of hM2 hi_ hr (.refl _);refine zR fun _ kr43 => ?_
            refine zm rfl (za rfl ?_);refine WL.nil (kr43 _ _ _ ?_);refine ⟨rfl, (i, c), ?_, ?_, ?_⟩
            · exact SLp
            · refine ⟨k1, by dsimp only; omega, by dsimp only; omega, klo, fun q g1 g2 => ?_, hM2, hch⟩;dsimp only at g1;have := hs.le (i := c) (j := q) (by omega) g1 g2;omega
            · show c - i < j - i; omega
        · have hij : i = j := by omega
          subst hij;refine CW.exit ?_;refine kh34 (zc fun _ kh44 => Sr fun _ kh45 => zm rfl (za rfl (zz (kh45 ?_))));refine CW.block ?_;refine CW.loop (S := fun g : Nat × List Nat => [(0, .slice (some ⟨ba, 0, none⟩) n n), (1, .int .i64 (a : Int)), (2, .int .i64 (m : Int)), (3, .int .i64 (b : Int)), (4, CmpV rb), (14, .int .i64 (i : Int)), (17, .int .i64 (g.1 : Int))]) (Inv := KD1 rb ba n m i vL L l w) (mu := fun g => g.1) ((m, l)) ?_ ?_ ?_
          · exact ⟨by dsimp only; omega, Nat.le_refl _, Dn1.start l m, hM2, hch⟩
          · exact SLp
          · rintro ⟨k, cur⟩ wr ⟨k4, k5, hu, hM3, hch⟩;dsimp only at k4 k5 hu hM3
            try dsimp only
            have hlc := hM3.len;obtain ⟨hi_, hr, hlen, hlt0⟩ := id hM3;have htt : True := trivial;refine zc fun _ kh47 => Sr fun _ kh48 => zm rfl (zm rfl ?_);refine WL.ev (Ev.gtr rfl rfl) rfl ?_;refine zz (kh48 ?_);refine zy rfl ?_ ?_<;>intro hc8<;>try simp only [qs] at hc8
            · have hki : i < k := by omega
              refine zkk ?_;refine kh47 (zc fun _ kh50 => ?_);refine CW.block ?_;refine CW.regionKC 15 18 rfl hmix fun kR51 kr51 hS hdr => ?_;have hch := hch.ta hdr;have hi_ := hi_.keep0 hdr;have hr := hr.keep0 hdr;have hi__r := hi_;refine wk 0 rfl hS (fun _ _ => Ev.move rfl) (wk 1 rfl hS (fun _ _ => Ev.move rfl) ?_);refine WK.takeT 2 rfl (by kernel_rfl) (by kernel_rfl) (by kernel_rfl) (by kernel_rfl) (fun _ => hS) (fun w' => Ev.move rfl) rfl ?_;refine WK.takeT 3 rfl (by kernel_rfl) (by kernel_rfl) (by kernel_rfl) (by kernel_rfl) (fun _ => hS) (fun w' => Ev.move rfl) rfl ?_;refine WK.takeT 4 rfl (by kernel_rfl) (by kernel_rfl) (by kernel_rfl) (by kernel_rfl) (fun _ => hS) (fun w' => Ev.subIn rfl rfl (by omega)) rfl ?_;refine wk 5 rfl hS (fun _ _ => Ev.move rfl) (wk 6 rfl hS (fun _ _ => Ev.move rfl) (wk 7 rfl hS (fun _ _ => Ev.subIn rfl rfl (by omega)) (wk 8 rfl hS (fun _ _ => Ev.ixB (k - 1) rfl rfl (by omega) (by omega)) (wk 9 rfl hS (fun _ hw' => Ev.load rfl rfl ((hi__r.keep0 hw').i64 (by first | omega | (simp; omega)))) ?_))));refine WK.takeT 10 rfl (by kernel_rfl) (by kernel_rfl) (by kernel_rfl) (by kernel_rfl) (fun _ => hS) (fun w' => Ev.move rfl) rfl ?_;refine WK.takeT 11 rfl (by kernel_rfl) (by kernel_rfl) (by kernel_rfl) (by kernel_rfl) (fun _ => hS) (fun w' => Ev.move rfl) rfl ?_;refine WK.takeT 12 rfl (by kernel_rfl) (by kernel_rfl) (by kernel_rfl) (by kernel_rfl) (fun _ => hS) (fun w' => Ev.ixB (k) rfl rfl (by omega) (by omega)) rfl ?_;refine wk 13 rfl hS (fun _ hw' => Ev.load rfl rfl ((hi__r.keep0 hw').i64 (by first | omega | (simp; omega)))) (wk 14 rfl hS (fun _ _ => Ev.ixB (k) rfl rfl (by omega) (by omega)) ?_);refine WK.storeI 15 rfl (by kernel_rfl) (by kernel_rfl) rfl rfl hi_ (by first | omega | (simp; done) | (simp; omega)) fun ws7 hi__ hcs7 => ?_;have hch := hch.s1 hcs7;have hr := hr.keepOB hi_ hcs7 (by assumption);have hi_ := hi__;refine WK.after 16 rfl (by kernel_rfl) (by kernel_rfl) (Ev.ixB (k - 1) rfl rfl (by omega) (by omega)) rfl ?_;refine WK.storeI 17 rfl (by kernel_rfl) (by kernel_rfl) rfl rfl hi_ (by first | omega | (simp; done) | (simp; omega)) fun ws8 hi__ hcs8 => ?_;have hch := hch.s1 hcs8;have hr := hr.keepOB hi_ hcs8 (by assumption);have hi_ := hi__;refine WK.done (by kernel_rfl) (kr51 _ _ _ ?_);refine kh50 ?_;refine zR fun _ kr52 => ?_;refine zm rfl ?_;refine WL.ev (Ev.subIn rfl rfl (by omega)) rfl ?_;rw [show (k : Int) - 1 = ((k - 1 : Nat) : Int) by omega];refine za rfl ?_;refine WL.nil (kr52 _ _ _ ?_);refine ⟨rfl, (k - 1, sw cur k (k - 1)), ?_, ?_, ?_⟩
              · exact SLp
              · have hu2 := hu.step k5 (by omega) (by omega);exact ⟨by dsimp only; omega, by dsimp only; omega, hu2, hM3.of hi_ hr (sw_perm (by omega) (by omega) (by omega)), hch⟩
              · show k - 1 < k; omega
            · have hki : k = i := by omega
              subst hki;refine CW.exit ?_;refine kh44 ?_;refine zr ?_;refine bodyA.ret0 rfl ?_;exact ⟨⟨cur, hu.sm k1 k5 (by omega), by rw [hbm]; exact hu.so hs k1 k5 klo khi, hM3⟩, hch⟩
    · have hbm : b ≠ m + 1 := by have := hc5; omega
      refine zkk ?_;refine kh27 (Sr fun _ kh53 => zm rfl (zm rfl ?_));(first | refine zi rfl rfl ?_ | refine zo rfl rfl ?_);refine WL.ev (Ev.convIn rfl rfl (in_u64 (by omega))) rfl ?_;refine WL.ev (Ev.shrU (b := 1) rfl rfl (by simp only [IntKind.bits]; omega)) rfl ?_;refine WL.ev (Ev.convIn rfl rfl (in_i64 (by omega))) rfl ?_;obtain ⟨d, hd⟩ : ∃ d, d = (a + b) / 2 ^ 1 := ⟨_, rfl⟩;rw [← hd];have hdab : a < d ∧ d < b ∧ 2 * d ≤ a + b ∧ a + b ≤ 2 * d + 1 := by omega
      refine za rfl (zz (kh53 (Sr fun _ kh55 => zm rfl (zm rfl ?_))));(first | refine zi rfl rfl ?_ | refine zo rfl rfl ?_);refine za rfl (zz (kh55 (Sr fun _ kh57 => za rfl (za rfl (zz (kh57 ?_))))));refine CW.seqJ (fun D s' w' => D = [] ∧ w = w' ∧ ∃ s r : Nat, (a ≤ s ∧ s ≤ r ∧ r ≤ m ∧ r ≤ d ∧ d + m ≤ b + s ∧ Cut (kL L) l a m b (d + m) s r) ∧ Subs [(0, .slice (some ⟨ba, 0, none⟩) n n), (1, .int .i64 (a : Int)), (2, .int .i64 (m : Int)), (3, .int .i64 (b : Int)), (4, CmpV rb), (18, .int .i64 (d : Int)), (19, .int .i64 ((d : Int) + (m : Int))), (20, .int .i64 (s : Int)), (21, .int .i64 (r : Int))] s') ?_ ?_
      · refine Sr fun _ kh60 => zm rfl (zm rfl ?_);refine WL.ev (Ev.gtr rfl rfl) rfl ?_;refine zz (kh60 ?_);refine zy rfl ?_ ?_<;>intro hc9<;>try simp only [qs] at hc9
        · have hmd : d < m := by omega
          refine Sr fun _ kh62 => zm rfl (zm rfl ?_);refine WL.ev (Ev.subIn rfl rfl (by omega)) rfl ?_;rw [show (d : Int) + (m : Int) - (b : Int) = ((d + m - b : Nat) : Int) by omega];refine za rfl (zz (kh62 ?_));refine zR fun _ kr64 => ?_;refine zm rfl (za rfl ?_);refine WL.nil (kr64 _ _ _ ?_);exact ⟨rfl, rfl, d + m - b, d, ⟨by omega, by omega, by omega, Nat.le_refl _, by omega, Cut.start1 (by omega)⟩, by (repeat (first | exact Subs.nil | refine Subs.cons rfl ?_))⟩
        · have hmd : m ≤ d := by omega
          refine Sr fun _ kh65 => zm rfl (za rfl (zz (kh65 ?_)));refine zR fun _ kr67 => ?_;refine zm rfl (za rfl ?_);refine WL.nil (kr67 _ _ _ ?_);exact ⟨rfl, rfl, a, m, ⟨Nat.le_refl _, by omega, Nat.le_refl _, hmd, by omega, Cut.start2⟩, by (repeat (first | exact Subs.nil | refine Subs.cons rfl ?_))⟩
      · rintro _ s' wJ ⟨rfl, rfl, s, r, ⟨k1, k2, k3, k4, k5, hcut⟩, hsub⟩;refine CW.sub hsub ?_;refine Sr fun _ kh68 => zm rfl ?_;refine WL.ev (Ev.subIn rfl rfl (by omega)) rfl ?_;rw [show (d : Int) + (m : Int) - 1 = ((d + m - 1 : Nat) : Int) by omega];refine za rfl (zz (kh68 (zc fun _ kh70 => ?_)));refine CW.block ?_;refine CW.loop (S := fun g : Nat × Nat => [(0, .slice (some ⟨ba, 0, none⟩) n n), (1, .int .i64 (a : Int)), (2, .int .i64 (m : Int)), (3, .int .i64 (b : Int)), (4, CmpV rb), (18, .int .i64 (d : Int)), (19, .int .i64 ((d : Int) + (m : Int))), (20, .int .i64 (g.1 : Int)), (21, .int .i64 (g.2 : Int)), (22, .int .i64 ((d + m - 1 : Nat) : Int))]) (Inv := KM3 rb ba n a m b d vL L l w) (mu := fun g => g.2 - g.1) ((s, r)) ?_ ?_ ?_
        · exact ⟨k1, k2, k3, k4, k5, hcut, hM, hch⟩
        · exact SLp
        · rintro ⟨s, r⟩ wr ⟨k1, k2, k3, k4, k5, hcut, hM2, hch⟩;dsimp only at k1 k2 k3 k4 k5 hcut
          try dsimp only
          obtain ⟨hi_, hr, hlen, hlt0⟩ := id hM2;have htt : True := trivial;have hlt_ : ∀ {x}, x < n → l.getD x 0 < L.length := fun {x} hx => hM.at_ hx;refine zc fun _ kh71 => Sr fun _ kh72 => zm rfl (zm rfl ?_);refine WL.ev (Ev.lss rfl rfl) rfl ?_;refine zz (kh72 ?_);refine zy rfl ?_ ?_<;>intro hc10<;>try simp only [qs] at hc10
          · have hsr : s < r := by omega
            refine zkk ?_;refine kh71 ?_;refine CW.block ?_;refine Sr fun _ kh74 => zm rfl (zm rfl ?_);(first | refine zi rfl rfl ?_ | refine zo rfl rfl ?_);refine WL.ev (Ev.convIn rfl rfl (in_u64 (by omega))) rfl ?_;refine WL.ev (Ev.shrU (b := 1) rfl rfl (by simp only [IntKind.bits]; omega)) rfl ?_;refine WL.ev (Ev.convIn rfl rfl (in_i64 (by omega))) rfl ?_;obtain ⟨c, hcc⟩ : ∃ c, c = (s + r) / 2 ^ 1 := ⟨_, rfl⟩;rw [← hcc];refine za rfl (zz (kh74 (zc fun _ kh76 => ?_)));refine CW.regionHC 14 rfl hmix fun kR77 kr77 hS hdr => ?_;have hch := hch.ta hdr;have hi_ := hi_.keep0 hdr;have hr := hr.keep0 hdr;have hi__r := hi_;refine wh 0 rfl hS (fun _ _ => Ev.move rfl) (wh 1 rfl hS (fun _ _ => Ev.move rfl) (wh 2 rfl hS (fun _ _ => Ev.move rfl) (wh 3 rfl hS (fun _ _ => Ev.move rfl) (wh 4 rfl hS (fun _ _ => Ev.subIn rfl rfl (by omega)) (wh 5 rfl hS (fun _ _ => Ev.ixB (d + m - 1 - c) rfl rfl (by omega) (by omega)) (wh 6 rfl hS (fun _ hw' => Ev.load rfl rfl ((hi__r.keep0 hw').i64 (by first | omega | (simp; omega)))) (wh 7 rfl hS (fun _ _ => Ev.move rfl) (wh 8 rfl hS (fun _ _ => Ev.move rfl) (wh 9 rfl hS (fun _ _ => Ev.ixB (c) rfl rfl (by omega) (by omega)) (wh 10 rfl hS (fun _ hw' => Ev.load rfl rfl ((hi__r.keep0 hw').i64 (by first | omega | (simp; omega)))) ?_))))))))));refine WH.oneCallB 11 rfl (by kernel_rfl) hasF204 rfl rfl rfl (compare_spec rb ba n (l.getD (d + m - 1 - c) 0) (l.getD c 0) vL L _ hr (hlt_ (by omega)) (hlt_ (by omega))) fun v w169 h' => ?_;obtain ⟨rfl, hC169⟩ := h';have hS := hS.ta hC169;refine ⟨hS, ?_⟩;have hi_ := hi_.keep0 hC169;have hr := hr.keep0 hC169;have hch := hch.ta hC169;refine wh 12 rfl hS (fun _ _ => Ev.lss rfl rfl) (wh 13 rfl hS (fun _ _ => Ev.not rfl) ?_);refine WH.done (by kernel_rfl) (kr77 _ _ _ ?_);refine kh76 ?_;refine zy rfl ?_ ?_<;>intro hc11<;>try simp only [qs] at hc11
            · have hq : ¬ kL L (l.getD (d + m - 1 - c) 0) < kL L (l.getD c 0) := fun z => by have h9 := cmpI_lt.2 z; have := hc11; simp at this; omega
              have hcut2 := hcut.stepF hs ht (c := c) (by omega) (by omega) (by omega) (by omega) hq;have hM2 := SsM.of hM2 hi_ hr (.refl _);refine zR fun _ kr78 => ?_;refine zm rfl ?_;(first | refine zi rfl rfl ?_ | refine zo rfl rfl ?_);refine za rfl ?_;refine WL.nil (kr78 _ _ _ ?_);refine ⟨rfl, (c + 1, r), ?_, ?_, ?_⟩
              · exact SLp
              · exact ⟨by dsimp only; omega, by dsimp only; omega, k3, k4, by dsimp only; omega, hcut2, hM2, hch⟩
              · show r - (c + 1) < r - s; omega
            · have hq : kL L (l.getD (d + m - 1 - c) 0) < kL L (l.getD c 0) := cmpI_lt.1 (by have := hc11; simp at this; omega);have hcut2 := hcut.stepT hs ht (c := c) (by omega) (by omega) (by omega) (by omega) hq
              have hM2 := SsM.of hM2 hi_ hr (.refl _);refine zR fun _ kr79 => ?_;refine zm rfl (za rfl ?_);refine WL.nil (kr79 _ _ _ ?_);refine ⟨rfl, (s, c), ?_, ?_, ?_⟩
              · exact SLp
              · exact ⟨k1, by dsimp only; omega, by dsimp only; omega, by dsimp only; omega, k5, hcut2, hM2, hch⟩
              · show c - s < r - s; omega
          · have hsr : s = r := by omega
            subst hsr;refine CW.exit ?_;refine kh70 (Sr fun _ kh80 => zm rfl (zm rfl ?_));refine WL.ev (Ev.subIn rfl rfl (by omega)) rfl ?_;obtain ⟨e, he⟩ : ∃ e, e = d + m - s := ⟨_, rfl⟩;rw [show (d : Int) + (m : Int) - (s : Int) = (e : Int) by omega];have hes : e + s = d + m := by omega
            refine za rfl (zz (kh80 ?_));refine CW.seqJ (fun D s' w' => D = [] ∧ (∃ l1, Halves (kL L) l l1 a b s d e ∧ SsM rb ba n vL L w' l1) ∧ Chg [ba] w w' ∧ Subs [(0, .slice (some ⟨ba, 0, none⟩) n n), (1, .int .i64 (a : Int)), (2, .int .i64 (m : Int)), (3, .int .i64 (b : Int)), (4, CmpV rb), (18, .int .i64 (d : Int)), (20, .int .i64 (s : Int)), (24, .int .i64 (e : Int))] s') ?_ ?_
            · refine CW.seqM 185 (decide (s < m ∧ m < e)) ?_ ?_
              · refine zR fun _ kr83 => ?_;refine zm rfl (zm rfl ?_);refine WL.ev (Ev.lss rfl rfl) rfl ?_;refine zm rfl ?_;refine zb ?_ ?_<;>intro hg12<;>try simp only [qs] at hg12
                · refine zw rfl (zm rfl (zw rfl (zm rfl (zw rfl ?_))));refine WL.ev (Ev.lss rfl rfl) rfl ?_
                  refine zt rfl rfl ?_;refine WL.nil (kr83 _ _ _ ?_);refine ⟨rfl, rfl, Subs.consB rfl ?_ ?_⟩
                  · first | (simp_all; done) | (simp; omega) | (refine decide_eq_decide.2 ?_; omega)
                  · exact SMg
                · refine zv rfl (zv rfl (zv rfl (ze rfl rfl ?_)));refine WL.nil (kr83 _ _ _ ?_);refine ⟨rfl, rfl, Subs.consB rfl ?_ ?_⟩
                  · first | (simp_all; done) | (simp; omega) | (refine decide_eq_decide.2 ?_; omega)
                  · exact SMg
              · refine zy rfl ?_ ?_<;>intro hc13<;>try simp only [qs] at hc13
                · have hq : s < m ∧ m < e := hc13
                  refine zR fun _ kr84 => ?_;refine zm rfl (zm rfl (zm rfl (zm rfl (zm rfl ?_))));refine WL.call hasF350 rfl rfl (rotate_spec rb ba n vL L l s m e _ hM2 hn hq.1 hq.2 (by omega)) fun v w1 h' => ?_;obtain ⟨⟨l1, hrt, hM4⟩, hC⟩ := h';have hch := hch.step hC (fun y hy => .inl hy);refine WL.nil (kr84 _ _ _ ?_);exact ⟨rfl, ⟨l1, halves ⟨by omega, by omega⟩ ⟨h1, h2⟩ (by omega) hs ht hcut k1 k3 k4 hes (by omega) (by omega) hrt.p hrt.g, hM4⟩, hch, by (repeat (first | exact Subs.nil | refine Subs.cons rfl ?_))⟩
                · have hq : ¬ (s < m ∧ m < e) := hc13
                  refine zkk ?_;exact ⟨rfl, ⟨l, halves ⟨by omega, by omega⟩ ⟨h1, h2⟩ (by omega) hs ht hcut k1 k3 k4 hes (by omega) (by omega) (.refl _) (fun k => by rw [rt_id (by omega) (by omega) (by omega)]), hM2⟩, hch, by (repeat (first | exact Subs.nil | refine Subs.cons rfl ?_))⟩
            · rintro _ s' wJ ⟨rfl, ⟨l1, hH, hM4⟩, hch, hsub⟩;refine CW.sub hsub ?_;have hl1 := hM4.len;refine CW.seqJ (fun D s' w' => D = [] ∧ (∃ l2, Sm l1 l2 a d ∧ So (kL L) l2 a d ∧ SsM rb ba n vL L w' l2) ∧ Chg [ba] w w' ∧ Subs [(0, .slice (some ⟨ba, 0, none⟩) n n), (1, .int .i64 (a : Int)), (2, .int .i64 (m : Int)), (3, .int .i64 (b : Int)), (4, CmpV rb), (18, .int .i64 (d : Int)), (20, .int .i64 (s : Int)), (24, .int .i64 (e : Int))] s') ?_ ?_
              · refine CW.seqM 199 (decide (a < s ∧ s < d)) ?_ ?_
                · refine zR fun _ kr86 => ?_;refine zm rfl (zm rfl ?_);refine WL.ev (Ev.lss rfl rfl) rfl ?_;refine zm rfl ?_;refine zb ?_ ?_<;>intro hg14<;>try simp only [qs] at hg14
                  · refine zw rfl (zm rfl (zw rfl (zm rfl (zw rfl ?_))));refine WL.ev (Ev.lss rfl rfl) rfl ?_
                    refine zt rfl rfl ?_;refine WL.nil (kr86 _ _ _ ?_);refine ⟨rfl, rfl, Subs.consB rfl ?_ ?_⟩
                    · first | (simp_all; done) | (simp; omega) | (refine decide_eq_decide.2 ?_; omega)
                    · exact SMg
                  · refine zv rfl (zv rfl (zv rfl (ze rfl rfl ?_)));refine WL.nil (kr86 _ _ _ ?_);refine ⟨rfl, rfl, Subs.consB rfl ?_ ?_⟩
                    · first | (simp_all; done) | (simp; omega) | (refine decide_eq_decide.2 ?_; omega)
                    · exact SMg
                · refine zy rfl ?_ ?_<;>intro hc15<;>try simp only [qs] at hc15
                  · have hq : a < s ∧ s < d := hc15
                    refine zR fun _ kr87 => ?_;refine zm rfl (zm rfl (zm rfl (zm rfl (zm rfl ?_))));refine WL.call hasF323 rfl rfl (IH a s d l1 _ (by omega) hM4 hq.1 hq.2 (by omega) hH.s1 hH.s2) fun v w2 h' => ?_;obtain ⟨⟨l2, hS2, hG2, hM5⟩, hC⟩ := h';have hch := hch.step hC (fun y hy => .inl hy);refine WL.nil (kr87 _ _ _ ?_);exact ⟨rfl, ⟨l2, hS2, hG2, hM5⟩, hch, by (repeat (first | exact Subs.nil | refine Subs.cons rfl ?_))⟩
                  · have hq : ¬ (a < s ∧ s < d) := hc15
                    have hG : So (kL L) l1 a d := by
                      by_cases z : a < s
                      · have : s = d := by omega
                        rw [← this]; exact hH.s1
                      · have : s = a := by omega
                        rw [← this]; exact hH.s2
                    refine zkk ?_;exact ⟨rfl, ⟨l1, Sm.refl _ _ _, hG, hM4⟩, hch, by (repeat (first | exact Subs.nil | refine Subs.cons rfl ?_))⟩
              · rintro _ s' wJ ⟨rfl, ⟨l2, hS2, hG2, hM5⟩, hch, hsub⟩;refine CW.sub hsub ?_;refine CW.seqM 213 (decide (d < e ∧ e < b)) ?_ ?_
                · refine zR fun _ kr88 => ?_;refine zm rfl (zm rfl ?_);refine WL.ev (Ev.lss rfl rfl) rfl ?_;refine zm rfl ?_;refine zb ?_ ?_<;>intro hg16<;>try simp only [qs] at hg16
                  · refine zw rfl (zm rfl (zw rfl (zm rfl (zw rfl ?_))));refine WL.ev (Ev.lss rfl rfl) rfl ?_
                    refine zt rfl rfl ?_;refine WL.nil (kr88 _ _ _ ?_);refine ⟨rfl, rfl, Subs.consB rfl ?_ ?_⟩
                    · first | (simp_all; done) | (simp; omega) | (refine decide_eq_decide.2 ?_; omega)
                    · exact SMg
                  · refine zv rfl (zv rfl (zv rfl (ze rfl rfl ?_)));refine WL.nil (kr88 _ _ _ ?_);refine ⟨rfl, rfl, Subs.consB rfl ?_ ?_⟩
                    · first | (simp_all; done) | (simp; omega) | (refine decide_eq_decide.2 ?_; omega)
                    · exact SMg
                · refine zy rfl ?_ ?_<;>intro hc17<;>try simp only [qs] at hc17
                  · have hq : d < e ∧ e < b := hc17
                    refine zR fun _ kr89 => ?_;refine zm rfl (zm rfl (zm rfl (zm rfl (zm rfl ?_))));refine WL.call hasF323 rfl rfl (IH d e b l2 _ (by omega) hM5 hq.1 hq.2 h3 (hH.s3.same hS2 (.inr (Nat.le_refl _))) (hH.s4.same hS2 (.inr (by omega)))) fun v w3 h' => ?_;obtain ⟨⟨l3, hS3, hG3, hM6⟩, hC⟩ := h';have hch := hch.step hC (fun y hy => .inl hy);have hfin := hH.done (by omega) (by omega) (by omega) hS2 hG2 hS3 hG3;refine WL.nil (kr89 _ _ _ ?_);refine bodyA.norm0 rfl ?_;exact ⟨⟨l3, hfin.1, hfin.2, hM6⟩, hch⟩
                  · have hq : ¬ (d < e ∧ e < b) := hc17
                    have hG : So (kL L) l2 d b := by
                      by_cases z : d < e
                      · have : e = b := by omega
                        rw [← this]; exact hH.s3.same hS2 (.inr (Nat.le_refl _))
                      · have : e = d := by omega
                        rw [← this]; exact hH.s4.same hS2 (.inr (by omega))
                    have hfin := hH.done (by omega) (by omega) (by omega) hS2 hG2 (Sm.refl _ _ _) hG;refine zkk ?_;refine bodyA.norm0 rfl ?_;exact ⟨⟨l2, hfin.1, hfin.2, hM5⟩, hch⟩

theorem symMerge_spec (rb ba n : Nat) (vL : Value) (L : List Nat) (hn : n ≤ 70368744177664) (dd : Nat) : ∀ (a m b : Nat) (l : List Nat) (w : World), b - a = dd → SsM rb ba n vL L w l → a < m → m < b → b ≤ n → So (kL L) l a m → So (kL L) l m b → Ret Tryz.prog 323 [.slice (some ⟨ba, 0, none⟩) n n, .int .i64 (a : Int), .int .i64 (m : Int), .int .i64 (b : Int), CmpV rb] w fun _ w' => (∃ l', Sm l l' a b ∧ So (kL L) l' a b ∧ SsM rb ba n vL L w' l') ∧ Chg [ba] w w' := by
  induction dd using Nat.strongRecOn with
  | _ dd ih =>
    intro a m b l w hd hM h1 h2 h3 hs ht
    exact symMerge_step rb ba n vL L l a m b dd w hM hn h1 h2 h3 hs ht hd.symm fun a m b l w hlt hM h1 h2 h3 hs ht => ih (b - a) hlt a m b l w rfl hM h1 h2 h3 hs ht

end

/- Places in memory that are sorted: stable, rank.Sort. No condition. -/
section
open Go Sx Wd Ss Fl

structure KB1 (rb ba n : Nat) (vL : Value) (L l : List Nat) (w0 : World) (g : Nat × List Nat) (w : World) : Prop where
  d : 20 ∣ g.1
  h : g.1 ≤ n
  s : Sm l g.2 0 n
  b : B1 (kL L) g.2 g.1
  m : SsM rb ba n vL L w g.2
  ch : Chg [ba] w0 w
structure KB2 (rb ba n : Nat) (vL : Value) (L l : List Nat) (w0 : World) (g : Nat × List Nat) (w : World) : Prop where
  k : 20 ≤ g.1
  k2 : g.1 ≤ 2 * n + 20
  s : Sm l g.2 0 n
  b : ∀ c, g.1 ∣ c → So (kL L) g.2 c (min (c + g.1) n)
  m : SsM rb ba n vL L w g.2
  ch : Chg [ba] w0 w
structure KB3 (rb ba n k : Nat) (vL : Value) (L l : List Nat) (w0 : World) (g : Nat × List Nat) (w : World) : Prop where
  d : 2 * k ∣ g.1
  h : g.1 ≤ n
  s : Sm l g.2 0 n
  b : Bl (kL L) g.2 n k g.1
  m : SsM rb ba n vL L w g.2
  ch : Chg [ba] w0 w

theorem stable_spec (rb ba n : Nat) (vL : Value) (L l : List Nat) (w : World) (hM : SsM rb ba n vL L w l) (hn : n ≤ 70368744177664) : Ret Tryz.prog 285 [.slice (some ⟨ba, 0, none⟩) n n, .int .i64 (n : Int), CmpV rb] w fun _ w' => (∃ l', Sm l l' 0 n ∧ So (kL L) l' 0 n ∧ SsM rb ba n vL L w' l') ∧ Chg [ba] w w' := by
 have hch : Chg [ba] w w := Chg.refl _ _;refine zE3 Tryz.func285 rfl ?_;refine Sr fun _ kh1 => za rfl (zz (kh1 (Sr fun _ kh3 => zm rfl (za rfl (za rfl (zz (kh3 (zc fun _ kh5 => ?_))))))));refine CW.block ?_;refine CW.loop (S := fun g : Nat × List Nat => [(0, .slice (some ⟨ba, 0, none⟩) n n), (1, .int .i64 (n : Int)), (2, CmpV rb), (6, .int .i64 20), (7, .int .i64 (g.1 : Int)), (8, .int .i64 ((g.1 : Int) + 20))]) (Inv := KB1 rb ba n vL L l w) (mu := fun g => n - g.1) ((0, l)) ?_ ?_ ?_
 ·exact ⟨⟨0, rfl⟩, Nat.zero_le _, Sm.refl _ _ _, fun c _ h => absurd h (Nat.not_lt_zero _), hM, hch⟩
 ·exact SLp
 ·rintro ⟨a, cur⟩ wr ⟨hda, han, hs1, hb1, hM2, hch⟩;dsimp only at hda han hs1 hb1 hM2
  try dsimp only
  rw [show (a : Int) + 20 = ((a + 20 : Nat) : Int) by omega];refine zc fun _ kh6 => Sr fun _ kh7 => zm rfl (zm rfl ?_);refine WL.ev (Ev.leq rfl rfl) rfl ?_;refine zz (kh7 ?_);refine zy rfl ?_ ?_<;>intro hc1<;>try simp only [qs] at hc1
  ·have hle : a + 20 ≤ n := by omega
   refine zkk ?_;refine kh6 ?_;refine CW.block ?_;refine Sr fun _ kh9 => zm rfl (zm rfl (zm rfl (zm rfl ?_)));refine WL.call hasF322 rfl rfl (insertion_spec rb ba n vL L cur (a) (a + 20) _ hM2 hn (by omega) (by omega)) fun v w1 h' => ?_;obtain ⟨⟨l2, hs2, hso2, hM3⟩, hC⟩ := h';have hch := hch.step hC (fun y hy => .inl hy);refine zz (kh9 (Sr fun _ kh11 => zm rfl (za rfl (zz (kh11 ?_)))));refine zR fun _ kr13 => ?_;refine zm rfl (zm rfl ?_);refine WL.ev (Ev.addIn rfl rfl (by omega)) rfl ?_;refine za rfl ?_;refine WL.nil (kr13 _ _ _ ?_);refine ⟨rfl, (a + 20, l2), ?_, ?_, ?_⟩
   ·exact SLp
   ·exact ⟨Nat.dvd_add hda ⟨1, rfl⟩, by dsimp only; omega, hs1.trans (hs2.mono (by omega) (by omega)), hb1.step hda hs2 hso2, hM3, hch⟩
   ·show n - (a + 20) < n - a; omega
  ·have hgt : n < a + 20 := by omega
   refine CW.exit ?_;refine kh5 (Sr fun _ kh14 => zm rfl (zm rfl (zm rfl (zm rfl ?_))));refine WL.call hasF322 rfl rfl (insertion_spec rb ba n vL L cur (a) (n) _ hM2 hn (by omega) (by omega)) fun v w2 h' => ?_;obtain ⟨⟨l2, hs2, hso2, hM3⟩, hC⟩ := h';have hch := hch.step hC (fun y hy => .inl hy);refine zz (kh14 ?_);refine CW.block ?_;refine CW.loop (S := fun g : Nat × List Nat => [(0, .slice (some ⟨ba, 0, none⟩) n n), (1, .int .i64 (n : Int)), (2, CmpV rb), (6, .int .i64 (g.1 : Int))]) (Inv := KB2 rb ba n vL L l w) (mu := fun g => n - g.1) ((20, l2)) ?_ ?_ ?_
   ·exact ⟨Nat.le_refl _, by dsimp only; omega, hs1.trans (hs2.mono (by omega) (by omega)), hb1.last hda hgt han hs2 hso2, hM3, hch⟩
   ·exact SLp
   ·rintro ⟨k, cur1⟩ wr ⟨hk, hk2, hsk, hbk, hMk, hch⟩;dsimp only at hk hk2 hsk hbk hMk
    try dsimp only
    refine zc fun _ kh16 => Sr fun _ kh17 => zm rfl (zm rfl ?_);refine WL.ev (Ev.lss rfl rfl) rfl ?_;refine zz (kh17 ?_);refine zy rfl ?_ ?_<;>intro hc2<;>try simp only [qs] at hc2
    ·have hkn : k < n := by omega
     refine zkk ?_;refine kh16 ?_;refine CW.block ?_;refine Sr fun _ kh19 => zm rfl ?_;refine WL.ev (Ev.mulIn rfl rfl (by omega)) rfl ?_;rw [show (2 : Int) * (k : Int) = ((0 : Nat) : Int) + 2 * (k : Int) by omega];refine za rfl (za rfl (zz (kh19 (zc fun _ kh21 => ?_))));refine CW.block ?_;refine CW.loop (S := fun g : Nat × List Nat => [(0, .slice (some ⟨ba, 0, none⟩) n n), (1, .int .i64 (n : Int)), (2, CmpV rb), (6, .int .i64 (k : Int)), (7, .int .i64 (g.1 : Int)), (8, .int .i64 ((g.1 : Int) + 2 * (k : Int)))]) (Inv := KB3 rb ba n k vL L l w) (mu := fun g => n - g.1) ((0, cur1)) ?_ ?_ ?_
     ·exact ⟨⟨0, rfl⟩, Nat.zero_le _, hsk, Bl.start hbk, hMk, hch⟩
     ·exact SLp
     ·rintro ⟨a, cur2⟩ wr ⟨hda, han, hs2_, hbl, hM3, hch⟩;dsimp only at hda han hs2_ hbl hM3
      try dsimp only
      rw [show (a : Int) + 2 * (k : Int) = ((a + 2 * k : Nat) : Int) by omega];have hka : k ∣ a := Nat.dvd_trans ⟨2, Nat.mul_comm ..⟩ hda;have hkak : k ∣ a + k := Nat.dvd_add hka (Nat.dvd_refl _);refine zc fun _ kh22 => Sr fun _ kh23 => zm rfl (zm rfl ?_);refine WL.ev (Ev.leq rfl rfl) rfl ?_;refine zz (kh23 ?_);refine zy rfl ?_ ?_<;>intro hc3<;>try simp only [qs] at hc3
      ·have hle2 : a + 2 * k ≤ n := by omega
       refine zkk ?_;refine kh22 ?_;refine CW.block ?_;refine Sr fun _ kh25 => zm rfl (zm rfl (zm rfl (zm rfl ?_)));refine WL.ev (Ev.addIn rfl rfl (by omega)) rfl ?_;rw [show (a : Int) + (k : Int) = ((a + k : Nat) : Int) by omega];refine zm rfl (zm rfl ?_);refine WL.call hasF323 rfl rfl (symMerge_spec rb ba n vL L hn _ (a) (a + k) (a + 2 * k) cur2 _ rfl hM3 (by omega) (by omega) (by omega) (by have := hbl.1 a hka (Nat.le_refl _); rwa [Nat.min_eq_left (by omega)] at this) (by have := hbl.1 (a + k) hkak (by omega); rwa [show min (a + k + k) n = a + 2 * k by omega] at this)) fun v w3 h' => ?_;obtain ⟨⟨l3, hs3, hso3, hM4⟩, hC⟩ := h';have hch := hch.step hC (fun y hy => .inl hy);refine zz (kh25 (Sr fun _ kh27 => zm rfl (za rfl (zz (kh27 ?_)))));refine zR fun _ kr29 => ?_;refine zm rfl (zm rfl ?_);refine WL.ev (Ev.mulIn rfl rfl (by omega)) rfl ?_;refine WL.ev (Ev.addIn rfl rfl (by omega)) rfl ?_;refine za rfl ?_;refine WL.nil (kr29 _ _ _ ?_);refine ⟨rfl, (a + 2 * k, l3), ?_, ?_, ?_⟩
       ·exact SLp
       ·exact ⟨Nat.dvd_add hda (Nat.dvd_refl _), by dsimp only; omega, hs2_.trans (hs3.mono (by omega) (by omega)), hbl.merge hda hle2 hs3 hso3, hM4, hch⟩
       ·show n - (a + 2 * k) < n - a; omega
      ·have hgt2 : n < a + 2 * k := by omega
       refine CW.exit ?_;refine kh21 (zc fun _ kh30 => Sr fun _ kh31 => zm rfl (zm rfl ?_));refine WL.ev (Ev.addIn rfl rfl (by omega)) rfl ?_;rw [show (a : Int) + (k : Int) = ((a + k : Nat) : Int) by omega];refine za rfl (zz (kh31 (Sr fun _ kh33 => zm rfl (zm rfl ?_))));refine WL.ev (Ev.lss rfl rfl) rfl ?_;refine zz (kh33 ?_);refine zy rfl ?_ ?_<;>intro hc4<;>try simp only [qs] at hc4
       ·have hm : a + k < n := by omega
        refine zR fun _ kr35 => ?_;refine zm rfl (zm rfl (zm rfl (zm rfl (zm rfl ?_))));refine WL.call hasF323 rfl rfl (symMerge_spec rb ba n vL L hn _ (a) (a + k) (n) cur2 _ rfl hM3 (by omega) (by omega) (by omega) (by have := hbl.1 a hka (Nat.le_refl _); rwa [Nat.min_eq_left (by omega)] at this) (by have := hbl.1 (a + k) hkak (by omega); rwa [show min (a + k + k) n = n by omega] at this)) fun v w4 h' => ?_;obtain ⟨⟨l3, hs3, hso3, hM4⟩, hC⟩ := h';have hch := hch.step hC (fun y hy => .inl hy);refine WL.nil (kr35 _ _ _ (kh30 ?_));refine zR fun _ kr36 => ?_;refine zm rfl ?_;refine WL.ev (Ev.mulIn rfl rfl (by omega)) rfl ?_;rw [show (k : Int) * 2 = ((2 * k : Nat) : Int) by omega];refine za rfl ?_;refine WL.nil (kr36 _ _ _ ?_);refine ⟨rfl, (2 * k, l3), ?_, ?_, ?_⟩
        ·exact SLp
        ·exact ⟨by dsimp only; omega, by dsimp only; omega, hs2_.trans (hs3.mono (by omega) (Nat.le_refl _)), hbl.last1 hda hgt2 hm hs3 hso3, hM4, hch⟩
        ·show n - 2 * k < n - k; omega
       ·have hm : n ≤ a + k := by omega
        refine zkk ?_;refine kh30 ?_;refine zR fun _ kr37 => ?_;refine zm rfl ?_;refine WL.ev (Ev.mulIn rfl rfl (by omega)) rfl ?_;rw [show (k : Int) * 2 = ((2 * k : Nat) : Int) by omega];refine za rfl ?_;refine WL.nil (kr37 _ _ _ ?_);refine ⟨rfl, (2 * k, cur2), ?_, ?_, ?_⟩
        ·exact SLp
        ·exact ⟨by dsimp only; omega, by dsimp only; omega, hs2_, hbl.last2 hda hm, hM3, hch⟩
        ·show n - 2 * k < n - k; omega
    ·have hkn : n ≤ k := by omega
     have hfin := hbk 0 ⟨0, rfl⟩;rw [Nat.zero_add, Nat.min_eq_right hkn] at hfin;refine CW.exit ?_;refine bodyA.norm0 rfl ?_;exact ⟨⟨cur1, hsk, hfin, hMk⟩, hch⟩

theorem SortStable_spec (rb ba n : Nat) (vL : Value) (L l : List Nat) (w : World) (hM : SsM rb ba n vL L w l) (hn : n ≤ 70368744177664) : Ret Tryz.prog 203 [.slice (some ⟨ba, 0, none⟩) n n, CmpV rb] w fun _ w' => (∃ l', Sm l l' 0 n ∧ So (kL L) l' 0 n ∧ SsM rb ba n vL L w' l') ∧ Chg [ba] w w' := by
 refine zE2 Tryz.func203 rfl ?_;refine zR fun _ kr1 => ?_;refine zm rfl (zm rfl (zn rfl (zm rfl ?_)));refine WL.call hasF285 rfl rfl (stable_spec rb ba n vL L l _ hM hn) fun v w1 h' => ?_;refine WL.nil (kr1 _ _ _ ?_);refine bodyA.norm0 rfl ?_;exact h'

end

/- rank.Sort. No condition. -/
section
open Go Sx Wd Ss Fl

namespace Sx
section
variable {P : Program} {n : Nat} {D : List Deferred} {s : Sl} {w : World} {ops : Array Oper} {K : KK} {rest : List Oper} {ty : TypeId} {pos : String} {af : Array Edge} {d : Nat} {x y : Operand}
theorem madeI {z : Value} (hz : z.cells = #[.int .i64 0]) (n : Nat) : madeCells z.cells (n * 1) = ((List.replicate n 0).map i64n).toArray := by
  rw [hz, Nat.mul_one]
  apply Array.ext'
  simp [madeCells, List.map_replicate, i64n, Nat.mod_one, List.map_const']
theorem WL.makeI (j i : Nat) {t : TypeId} {e be : Nat} {kl kc : IntKind} {l c : Int} {sz by_ : Nat} {z : Value} [hT : HasT P t (.slice e) sz by_ z] [hE : HasT P e (.int .i64) 1 be (.int .i64 0)] (hx : opnd s x = some (.int kl l)) (hy : opnd s y = some (.int kc c))
    (hl : l = (j : Int)) (hc : c = (i : Int)) (hlc : j ≤ i) (hb : be * i ≤ 281474976710656) (h63 : i ≤ 281474976710656) (hd : Nat.blt d n = true)
    (k : ∀ b w', IB w' b e (List.replicate i 0) → Chg [] w w' → w.heap.size ≤ b → WL P ops K rest n D ((d, .slice (some ⟨b, 0, none⟩) j i) :: s) w') : WL P ops K (⟨some d, .makeSlice t x y, ty, pos, af, none⟩ :: rest) n D s w := by
  subst hl; subst hc
  refine WL.make (hT := hT) (hE := hE) hx hy (by omega) (by omega) (by rw [show (be : Int) * (i : Int) = ((be * i : Nat) : Int) by simp]; omega) (by omega) hd fun b w' hn => ?_
  have h1 := hn.at_
  rw [show (i : Int).toNat = i by omega, madeI (by rfl)] at h1
  exact k b w' h1 hn.chg hn.ge
theorem Ev.makeFuncC {f : FuncId} {v u : Value} (hx : opnd s x = some v) (hy : opnd s y = some u) : Ev P s (.makeFunc (.func f) #[] #[x, y]) ty w (.func (.func f) #[] #[v, u]) w := fun ρ d' pos af g hρ => by
  have e1 := hρ x _ hx
  have e2 := hρ y _ hy
  simp [execOp, Instr.makeFunc, e1, e2]
end
end Sx
theorem set_range {i n : Nat} (h : i < n) : (List.range i ++ List.replicate (n - i) 0).set i i = List.range (i + 1) ++ List.replicate (n - (i + 1)) 0 := by
  rw [List.set_append_right _ _ (by simp), List.length_range, Nat.sub_self, show n - i = (n - (i + 1)) + 1 by omega, List.replicate_succ, List.set_cons_zero, List.range_succ, List.append_assoc]
  rfl
structure KEi (b n : Nat) (w0 : World) (i : Nat) (w : World) : Prop where
  hi : i ≤ n
  hb : IB w b 3 (List.range i ++ List.replicate (n - i) 0)
  ge : w0.heap.size ≤ b
  ch : Chg [] w0 w

theorem rankOf1_spec (i : Nat) (w : World) : Ret Tryz.prog 202 [.int .i64 (i : Int)] w fun u w' => u = .int .i64 (i : Int) ∧ w = w' := by
 refine zE1 Tryz.func202 rfl ?_;refine Sr fun _ kh1 => za rfl (zz (kh1 (Sr fun _ kh3 => zm rfl (za rfl (zz (kh3 ?_))))));refine zr (zr1 rfl rfl ?_);exact ⟨rfl, rfl⟩

theorem eachI_spec (n : Nat) (w : World) (hn : n ≤ 35184372088832) : Ret Tryz.prog 201 [.int .i64 (n : Int), .func (.func 202) #[] #[]] w fun u w' => (∃ b, u = .slice (some ⟨b, 0, none⟩) n n ∧ IB w' b 3 (List.range n) ∧ w.heap.size ≤ b) ∧ Chg [] w w' := by
 have hch : Chg [] w w := Chg.refl _ _;refine zE2 Tryz.func201 rfl ?_;refine Sr fun _ kh1 => za rfl (zz (kh1 (Sr fun _ kh3 => zm rfl ?_)));refine WL.makeI n n rfl rfl rfl rfl (Nat.le_refl _) (by omega) (by omega) rfl fun b8 w8 hb8 hcm8 hge8 => ?_;have hch := hch.trans hcm8;refine za rfl (zz (kh3 (zc fun _ kh5 => Sr fun _ kh6 => zm rfl (zn rfl (zm rfl (zz (kh6 ?_)))))));refine CW.block ?_;refine CW.loop (S := fun i : Nat => [(1, .func (.func 202) #[] #[]), (5, .slice (some ⟨b8, 0, none⟩) n n), (10, .int .i64 (n : Int)), (11, .int .i64 (i : Int))]) (Inv := KEi b8 n w) (mu := fun i => n - i) (0) ?_ ?_ ?_
 ·exact ⟨Nat.zero_le _, by simpa using hb8, hge8, hch⟩
 ·exact SLp
 ·rintro i wr ⟨hi, hb, hge, hch⟩;refine Sr fun _ kh8 => ?_;refine WL.ev (Ev.lss rfl rfl) rfl ?_;refine zz (kh8 (zc fun _ kh10 => ?_));refine zy rfl ?_ ?_<;>intro hc1<;>try simp only [qs] at hc1
  ·have hin : i < n := by omega
   refine zkk ?_;refine kh10 (zc fun _ kh11 => ?_);refine CW.block ?_;refine Sr fun _ kh12 => zm rfl (za rfl (zz (kh12 ?_)));refine zR fun _ kr14 => ?_;refine zm rfl (zm rfl (zm rfl (zm rfl ?_)));refine WL.callV (cap := []) hasF202 rfl rfl rfl (by rw [List.append_nil]; exact rankOf1_spec i _) fun v18 w18 h18 => ?_;obtain ⟨rfl, rfl⟩ := h18;refine WL.ev (Ev.ixB (i) rfl rfl (by omega) (by omega)) rfl ?_;refine WL.storeI rfl rfl hb (by rw [List.length_append, List.length_range, List.length_replicate]; omega) fun ws1 hb hcs1 => ?_;rw [set_range hin] at hb;have hch := hch.step hcs1 (fun y hy => .inr (by rw [List.mem_singleton.1 hy]; exact hge));refine WL.nil (kr14 _ _ _ (kh11 ?_));refine zR fun _ kr15 => ?_;(first | refine zi rfl rfl ?_ | refine zo rfl rfl ?_);refine zm rfl ?_;refine WL.nil (kr15 _ _ _ ?_);refine ⟨rfl, i + 1, ?_, ?_, ?_⟩
   ·exact SLp
   ·exact ⟨by omega, hb, hge, hch⟩
   ·show n - (i + 1) < n - i; omega
  ·have hin : i = n := by omega
   subst hin;rw [Nat.sub_self, List.replicate_zero, List.append_nil] at hb;refine CW.exit ?_;refine kh5 (Sr fun _ kh16 => zm rfl (za rfl (zz (kh16 ?_))));refine zr (zr1 rfl rfl ?_);exact ⟨⟨b8, rfl, hb, hge⟩, hch⟩

theorem rankOf_spec (v : Value) (L : List Nat) (w : World) (hv : NF w v L) (hn : L.length ≤ 35184372088832) : Ret Tryz.prog 112 [v] w fun u w' => (∃ rb ba l', u = .pointer (some ⟨rb, 0, none⟩) ∧ SsM rb ba L.length v L w' l' ∧ l'.Perm (List.range L.length) ∧ So (kL L) l' 0 L.length ∧ w.heap.size ≤ rb) ∧ Chg [] w w' := by
 have hch : Chg [] w w := Chg.refl _ _;have hv0 := hv;have hov := hv.one;obtain ⟨⟨al, cl, rfl, hcap, hrl⟩, hWl, hll⟩ := hv;refine zE1 Tryz.func112 rfl ?_;refine Sr fun _ kh1 => za rfl (zz (kh1 (Sr fun _ kh3 => zm rfl (zm rfl (zn rfl ?_)))));refine WL.call hasF201 rfl rfl (eachI_spec L.length _ hn) fun v w1 h' => ?_;obtain ⟨⟨ba, rfl, hib, hgeb⟩, hC⟩ := h';have hgeb := Nat.le_trans hch.size hgeb;have hch := hch.ta hC;refine WL.ev (Ev.build (vs := _) (cs := [_, _]) rfl rfl) rfl ?_;refine WL.boxB rfl rfl rfl fun b9 wm9 hb9 hcm9 hge9 => ?_;have hge9 := Nat.le_trans hch.size hge9;have hch := hch.trans hcm9;have hib := hib.keep0 hcm9;have hM : SsM b9 ba L.length (.slice al L.length cl) L wm9 (List.range L.length) := ⟨hib, ⟨hb9, hv0.keep0 hch⟩, List.length_range, fun x hx => List.mem_range.1 hx⟩;refine za rfl (zz (kh3 (Sr fun _ kh5 => zm rfl ?_)));refine WL.ev (Ev.nilPtr rfl) rfl ?_;refine zf rfl ?_;refine WL.ev (Ev.load (v := .slice (some ⟨ba, 0, none⟩) L.length L.length) rfl rfl (hM.r.b.at_ rfl)) rfl ?_;refine zm rfl ?_;refine WL.ev (Ev.makeFuncB rfl) rfl ?_;refine WL.call hasF203 rfl rfl (SortStable_spec b9 ba L.length _ L _ _ hM (by omega)) fun v w2 h' => ?_;obtain ⟨⟨l2, hs2, hso2, hM2⟩, hC⟩ := h';have hch := hch.step hC (fun y hy => .inr (by rw [List.mem_singleton.1 hy]; exact hgeb));refine zz (kh5 (Sr fun _ kh7 => zm rfl (za rfl (zz (kh7 ?_)))));refine zr (zr1 rfl rfl ?_);exact ⟨⟨b9, ba, l2, rfl, hM2, hs2.p, hso2, hge9⟩, hch⟩

/-- A number as it is answered. -/
def toldP (x : Nat) : Nat := if isNaN x = true then 9221120237041090560 else x
structure KEf (b5 b1 b3 rb ba : Nat) (vL : Value) (L l' : List Nat) (w0 : World) (i : Nat) (w : World) : Prop where
  hi : i ≤ L.length
  hb : FB w b5 31 ((l'.take i).map (fun k => toldP (L.getD k 0)) ++ List.replicate (L.length - i) 0)
  h1 : BK w b1 32 [vL]
  h3 : BK w b3 174 [.pointer (some ⟨rb, 0, none⟩)]
  m : SsM rb ba L.length vL L w l'
  ge : w0.heap.size ≤ b5
  ch : Chg [] w0 w
theorem set_mid {f : Nat → Nat} {l : List Nat} {i n : Nat} (h : i < n) (hl : l.length = n) : ((l.take i).map f ++ List.replicate (n - i) 0).set i (f (l.getD i 0)) = (l.take (i + 1)).map f ++ List.replicate (n - (i + 1)) 0 := by
  rw [List.set_append_right _ _ (by simp; omega), List.length_map, List.length_take, Nat.min_eq_left (by omega), Nat.sub_self, show n - i = (n - (i + 1)) + 1 by omega, List.replicate_succ, List.set_cons_zero, take_step (by omega), List.map_append, List.append_assoc]
  rfl
theorem rankTold_spec (x : Nat) (w : World) : Ret Tryz.prog 115 [.float .f64 x] w fun u w' => u = .float .f64 (toldP x) ∧ w = w' := by
 refine zE1 Tryz.func115 rfl ?_;refine Sr fun _ kh1 => za rfl (zz (kh1 (zc fun _ kh3 => Sr fun _ kh4 => zm rfl ?_)));refine WL.call hasF124 rfl rfl (math_IsNaN_spec x _) fun v w1 h' => ?_;obtain ⟨rfl, rfl⟩ := h';refine zz (kh4 ?_);refine zy rfl ?_ ?_<;>intro hc1<;>try simp only [qs] at hc1
 ·have hq : isNaN x = true := by simpa using hc1
  refine Sr fun _ kh6 => ?_;refine WL.call hasF97 rfl rfl (bits_NaN_spec _) fun v w2 h' => ?_;obtain ⟨rfl, rfl⟩ := h';refine za rfl (zz (kh6 ?_));refine zr (zr1 rfl rfl ?_);refine ⟨?_, rfl⟩;unfold toldP; rw [if_pos hq]
 ·have hq : ¬ isNaN x = true := by simpa using hc1
  refine zkk ?_;refine kh3 (Sr fun _ kh8 => zm rfl (za rfl (zz (kh8 ?_))));refine zr (zr1 rfl rfl ?_);refine ⟨?_, rfl⟩;unfold toldP; rw [if_neg hq]

theorem rankSort1_spec (b1 b3 rb ba i : Nat) (vL : Value) (L l' : List Nat) (w : World) (h1 : BK w b1 32 [vL]) (h3 : BK w b3 174 [.pointer (some ⟨rb, 0, none⟩)]) (hM : SsM rb ba L.length vL L w l') (hi : i < L.length) : Ret Tryz.prog 114 [.int .i64 (i : Int), .pointer (some ⟨b1, 0, none⟩), .pointer (some ⟨b3, 0, none⟩)] w fun u w' => u = .float .f64 (toldP (L.getD (l'.getD i 0) 0)) ∧ Chg [] w w' := by
 have hch : Chg [] w w := Chg.refl _ _;have hat := hM.at_ (j := i) hi;have hat2 : l'[i]?.getD 0 < L.length := by simpa using hat
 have hlen := hM.len;obtain ⟨hb, hf⟩ := hM.r;obtain ⟨⟨al, cl, rfl, hcap, hrl⟩, hWl, hll⟩ := hf;have hi_ := hM.i;refine zE3 Tryz.func114 rfl ?_;refine Sr fun _ kh1 => za rfl (zz (kh1 (zc fun _ kh3 => ?_)));refine CW.regionHC 12 rfl hmix fun kR4 kr4 hS hdr => ?_;have hch := hch.ta hdr;have h1 := h1.keep0 hdr;have h3 := h3.keep0 hdr;have hb := hb.keep0 hdr;have hi_ := hi_.keep0 hdr;have hch_r := hch;have h1_r := h1;have h3_r := h3;have hb_r := hb;have hi__r := hi_;refine wh 0 rfl hS (fun _ hw' => Ev.load rfl rfl ((h1_r.keep0 hw').at_ rfl)) (wh 1 rfl hS (fun _ hw' => Ev.load rfl rfl ((h3_r.keep0 hw').at_ rfl)) (wh 2 rfl hS (fun _ _ => Ev.nilPtr rfl) (wh 3 rfl hS (fun _ _ => Ev.fieldAddr rfl) (wh 4 rfl hS (fun _ hw' => Ev.load rfl rfl ((hb_r.keep0 hw').at_ rfl)) (wh 5 rfl hS (fun _ _ => Ev.move rfl) (wh 6 rfl hS (fun _ _ => Ev.ixB (i) rfl rfl (by omega) (by omega)) (wh 7 rfl hS (fun _ hw' => Ev.load rfl rfl ((hi__r.keep0 hw').i64 (by first | omega | (simp; omega)))) (wh 8 rfl hS (fun _ hw' => Ev.ixR ((l').getD (i) 0) rfl rfl (hrl.keep0 (hch_r.trans hw')) (by omega) (by omega) (by simp; omega)) (wh 9 rfl hS (fun _ hw' => Ev.load rfl rfl ((hrl.keep0 (hch_r.trans hw')).f64 (by first | omega | (simp; omega)))) ?_)))))))));refine WH.oneCall 10 rfl (by kernel_rfl) hasF115 rfl rfl (rankTold_spec _ _) fun v w1 h' => ?_;obtain ⟨rfl, rfl⟩ := h';refine ⟨hS, ?_⟩;refine wh 11 rfl hS (fun _ _ => Ev.assign rfl) ?_;refine WH.done (by kernel_rfl) (kr4 _ _ _ ?_);refine kh3 ?_;refine zr (zr1 rfl rfl ?_);exact ⟨rfl, hch⟩

theorem eachF_spec (b1 b3 rb ba : Nat) (vL : Value) (L l' : List Nat) (w : World) (h1 : BK w b1 32 [vL]) (h3 : BK w b3 174 [.pointer (some ⟨rb, 0, none⟩)]) (hM : SsM rb ba L.length vL L w l') (hn : L.length ≤ 35184372088832) : Ret Tryz.prog 113 [.int .i64 (L.length : Int), .func (.func 114) #[] #[.pointer (some ⟨b1, 0, none⟩), .pointer (some ⟨b3, 0, none⟩)]] w fun u w' => (∃ b, u = .slice (some ⟨b, 0, none⟩) L.length L.length ∧ FB w' b 31 (l'.map (fun k => toldP (L.getD k 0))) ∧ w.heap.size ≤ b) ∧ Chg [] w w' := by
 have hch : Chg [] w w := Chg.refl _ _;have hvL := hM.r.f;refine zE2 Tryz.func113 rfl ?_;refine Sr fun _ kh1 => za rfl (zz (kh1 (Sr fun _ kh3 => zm rfl ?_)));refine WL.makeF L.length L.length rfl rfl rfl rfl (Nat.le_refl _) (by omega) (by omega) rfl fun b8 w8 hb8 hcm8 hge8 => ?_;have hch := hch.trans hcm8;have h1 := h1.keep0 hcm8;have h3 := h3.keep0 hcm8;have hM := hM.keep0 hcm8;refine za rfl (zz (kh3 (zc fun _ kh5 => Sr fun _ kh6 => zm rfl (zn rfl (zm rfl (zz (kh6 ?_)))))));refine CW.block ?_;refine CW.loop (S := fun i : Nat => [(1, .func (.func 114) #[] #[.pointer (some ⟨b1, 0, none⟩), .pointer (some ⟨b3, 0, none⟩)]), (5, .slice (some ⟨b8, 0, none⟩) L.length L.length), (10, .int .i64 (L.length : Int)), (11, .int .i64 (i : Int))]) (Inv := KEf b8 b1 b3 rb ba vL L l' w) (mu := fun i => L.length - i) (0) ?_ ?_ ?_
 ·exact ⟨Nat.zero_le _, by simpa using hb8, h1, h3, hM, hge8, hch⟩
 ·exact SLp
 ·rintro i wr ⟨hi, hb, h1, h3, hM, hge, hch⟩;have hlM := hM.len;refine Sr fun _ kh8 => ?_;refine WL.ev (Ev.lss rfl rfl) rfl ?_;refine zz (kh8 (zc fun _ kh10 => ?_));refine zy rfl ?_ ?_<;>intro hc1<;>try simp only [qs] at hc1
  ·have hin : i < L.length := by omega
   refine zkk ?_;refine kh10 (zc fun _ kh11 => ?_);refine CW.block ?_;refine Sr fun _ kh12 => zm rfl (za rfl (zz (kh12 ?_)));refine zR fun _ kr14 => ?_;refine zm rfl (zm rfl (zm rfl (zm rfl ?_)));refine WL.callV (cap := [.pointer (some ⟨b1, 0, none⟩), .pointer (some ⟨b3, 0, none⟩)]) hasF114 rfl rfl rfl (rankSort1_spec b1 b3 rb ba i vL L l' _ h1 h3 hM hin) fun v18 w18 h18 => ?_;obtain ⟨rfl, hC⟩ := h18;have hch := hch.trans hC;have h1 := h1.keep0 hC;have h3 := h3.keep0 hC;have hM := hM.keep0 hC;have hb := hb.keep0 hC;refine WL.ev (Ev.ixB (i) rfl rfl (by omega) (by omega)) rfl ?_;skip;refine WL.storeF rfl rfl hb (by rw [List.length_append, List.length_map, List.length_take, List.length_replicate]; omega) fun ws1 hb2 hcs1 => ?_;rw [set_mid hin hlM] at hb2;have hbk : BK _ b8 31 _ := hb;have hn1 := bk_neT hbk h1 (by decide);have hn3 := bk_neT hbk h3 (by decide);have hnr := bk_neT hbk hM.r.b (by decide);have hna := bk_neT hbk hM.i.bk (by decide);have h1 := h1.kq hcs1;have h3 := h3.kq hcs1;have hMf : NF ws1 vL L := hvL.keep0 (hch.step hcs1 (fun y hy => .inr (by rw [List.mem_singleton.1 hy]; exact hge)));have hM : SsM rb ba L.length vL L ws1 l' := ⟨hM.i.keep hcs1 (by simp; omega), ⟨hM.r.b.keep hcs1 (by simp; omega), hMf⟩, hM.len, hM.lt⟩;have hb := hb2;have hch := hch.step hcs1 (fun y hy => .inr (by rw [List.mem_singleton.1 hy]; exact hge));refine WL.nil (kr14 _ _ _ (kh11 ?_));refine zR fun _ kr15 => ?_;(first | refine zi rfl rfl ?_ | refine zo rfl rfl ?_);refine zm rfl ?_;refine WL.nil (kr15 _ _ _ ?_);refine ⟨rfl, i + 1, ?_, ?_, ?_⟩
   ·exact SLp
   ·exact ⟨by omega, hb, h1, h3, hM, hge, hch⟩
   ·show L.length - (i + 1) < L.length - i; omega
  ·have hin : i = L.length := by omega
   subst hin;rw [Nat.sub_self, List.replicate_zero, List.append_nil, ← hlM, List.take_length] at hb;refine CW.exit ?_;refine kh5 (Sr fun _ kh16 => zm rfl (za rfl (zz (kh16 ?_))));refine zr (zr1 rfl rfl ?_);exact ⟨⟨b8, rfl, hb, hge⟩, hch⟩

theorem rankSort_spec (v : Value) (L : List Nat) (w : World) (hv : NF w v L) (hn : L.length ≤ 35184372088832) : Ret Tryz.prog 37 [v] w fun u w' => (∃ b l', u = .slice (some ⟨b, 0, none⟩) L.length L.length ∧ FB w' b 31 (l'.map (fun k => toldP (L.getD k 0))) ∧ l'.Perm (List.range L.length) ∧ So (kL L) l' 0 L.length ∧ w.heap.size ≤ b) ∧ Chg [] w w' := by
 have hch : Chg [] w w := Chg.refl _ _;have hv0 := hv;have hov := hv.one;obtain ⟨⟨al, cl, rfl, hcap, hrl⟩, hWl, hll⟩ := id hv;refine zE1 Tryz.func37 rfl ?_;refine Sr fun _ kh1 => ?_;refine zBh rfl rfl rfl hch fun b1 wm1 hb1 hcm1 hge1 hgehch1 hch => ?_;refine za rfl (zz (kh1 (Sr fun _ kh3 => zl hb1 rfl rfl ?_)));refine WL.call hasF112 rfl rfl (rankOf_spec _ L _ (hv0.keep0 hch) hn) fun v w1 h' => ?_;obtain ⟨⟨rb, ba, l', rfl, hM, hp, hso, hger⟩, hC⟩ := h';have hch := hch.ta hC;have hb1 := hb1.k0 hC;refine WL.allocB (l := [.pointer none]) rfl rfl fun b3 wm3 hb3 hcm3 hge3 => ?_;have hn13 : b1 ≠ b3 := by have := hb1.lt; omega
 have hge3 := Nat.le_trans hch.size hge3;have hch := hch.trans hcm3;have hb1 := hb1.k0 hcm3;have hM := hM.keep0 hcm3;refine WL.storeC rfl rfl rfl hb3 (by simp) rfl fun ws1 hb3_ hcs1 => ?_;simp only [List.set_cons_zero] at hb3_;have hb1 := hb1.keep hcs1 (by simpa using hn13);have hch2 := hch.step hcs1 (fun y hy => .inr (by rw [List.mem_singleton.1 hy]; exact hge3));have hM : SsM rb ba L.length _ L ws1 l' := ⟨hM.i.keep hcs1 (by rw [List.mem_singleton]; exact bk_neT hM.i.bk hb3 (by decide)), ⟨hM.r.b.keep hcs1 (by rw [List.mem_singleton]; exact bk_neT hM.r.b hb3 (by decide)), hv0.keep0 hch2⟩, hM.len, hM.lt⟩;have hb3 := hb3_;have hch := hch2;refine zz (kh3 (Sr fun _ kh5 => zl hb1 rfl rfl (zn rfl ?_)));refine WL.ev (Ev.makeFuncC rfl rfl) rfl ?_;refine WL.call hasF113 rfl rfl (eachF_spec b1 b3 rb ba _ L l' _ hb1 hb3 hM hn) fun v w2 h' => ?_;obtain ⟨⟨b, rfl, hbf, hgef⟩, hC⟩ := h';have hgef := Nat.le_trans hch.size hgef;refine za rfl (zz (kh5 ?_));refine zr (zr1 rfl rfl ?_);exact ⟨⟨b, l', rfl, hbf, hp, hso, hgef⟩, hch.trans hC⟩

end

/- Medians: plain. No condition. -/
section
open Go Sx Wd Fl

set_option exponentiation.threshold 9000
open Ss

/-- Half of the exact sum S. -/
def halfD (S : Int) : Option Dy := formD (sumD S).neg (sumD S).m ((sumD S).e - 1)
/-- What Median says of a list in order. -/
def medR (s : List Nat) (mode : Int) (b : Nat) (e : Int) : Prop :=
  (s.getD ((s.length - 1) / 2) 0 = s.getD (s.length / 2) 0 ∧ b = s.getD ((s.length - 1) / 2) 0 ∧ e = 0) ∨
  (s.getD ((s.length - 1) / 2) 0 ≠ s.getD (s.length / 2) 0 ∧ RoundR (halfD (fvI (s.getD ((s.length - 1) / 2) 0) + fvI (s.getD (s.length / 2) 0))) mode b e)
/-- What Median says of finite numbers. -/
def medAll (l : List Nat) (mode : Int) (b : Nat) (e : Int) : Prop :=
  (¬ (0 ≤ mode ∧ mode ≤ 4) ∧ b = 0 ∧ e = 1) ∨ ((0 ≤ mode ∧ mode ≤ 4) ∧ ((65536 < l.length ∧ b = 0 ∧ e = 2) ∨ (l.length ≤ 65536 ∧ ((l = [] ∧ b = 0 ∧ e = 3) ∨ (l ≠ [] ∧ medR (sortP l) mode b e)))))
theorem add_in (x y : Nat) : InB (fvI x + fvI y) := by
  have h := sumI_in (l := [x, y]) (by simp)
  have e : sumI [x, y] = fvI x + fvI y := by simp [sumI]
  rw [e] at h
  exact h
theorem half_val {S : Int} (h : InB S) (h0 : S ≠ 0) : halfD S = some ⟨decide (S < 0), S.natAbs / 2 ^ tz S.natAbs, -2149 + (tz S.natAbs : Int)⟩ := by
  have hok := sumD_ok h.1 h.2
  have hf := sumD_form h.1 h.2 h0
  have hm : (sumD S).m ≠ 0 := fun z => h0 ((sumD_m0 h.1 h.2).1 z)
  have ht := tz_odd (hok.odd hm)
  have hl := hok.len
  have he := hok.e
  have hee : (sumD S).e = -2148 + tz S.natAbs := by rw [hf]
  have hmm : (sumD S).m = S.natAbs / 2 ^ tz S.natAbs := by rw [hf]
  have hnn : (sumD S).neg = decide (S < 0) := by rw [hf]
  unfold halfD
  rw [formD_some hm (by rw [ht, Nat.pow_zero, Nat.div_one]; omega), ht, Nat.pow_zero, Nat.div_one, hee, hmm, hnn]
  congr 2
  omega
theorem half_zero : halfD 0 = some Dy.zero := formD_zero _ _
theorem half_some {S : Int} (h : InB S) : ∃ d, halfD S = some d := by
  by_cases h0 : S = 0
  · rw [h0]; exact ⟨_, half_zero⟩
  · exact ⟨_, half_val h h0⟩
theorem num_self {b : Nat} (h : isNaN b = false) : (FloatKind.f64.format.order b b == some .eq) = true := by rw [order_self_eq, h]; rfl
/-- Half of a sum, rounded, is the mean of the two. -/
theorem half_mean {S : Int} (h : InB S) (h0 : S ≠ 0) {mode : Int} {b : Nat} {e : Int} (hm : 0 ≤ mode ∧ mode ≤ 4) (hR : RoundR (halfD S) mode b e) : e = 0 ∧ MeanQ S 2 mode b := by
  rw [half_val h h0] at hR
  have htz := (tz_spec (n := S.natAbs) (by omega)).2
  rcases hR with ⟨q, _⟩ | ⟨_, ⟨q, _⟩ | ⟨d, r, hd, hN, hr, hb, he⟩⟩
  · exact absurd hm q
  · cases q
  · cases hd
    dsimp only at hN hb
    refine ⟨he, r, ?_, hr, ?_⟩
    · have k := (near_forms (x := S.natAbs / 2 ^ tz S.natAbs) (y := 1) (ex := -2149 + (tz S.natAbs : Int)) (ey := 0) (s := tz S.natAbs) (t := 0) (u := 0) (v := 1074) (A := S.natAbs) (B := 2 * 2 ^ 1073) (neg := decide (S < 0)) (mode := mode) (r := r) (by decide) (by rw [Nat.pow_zero, Nat.mul_one]; exact htz) (by simp only [Nat.pow_zero, Nat.one_mul]) (by omega)).1
      rw [Int.sub_zero, Nat.one_mul] at k
      exact k hN
    · rw [hb]
      by_cases q : S < 0
      · simp [q]
      · simp [q]
theorem meanq_num {S : Int} {n : Nat} {mode : Int} {b : Nat} (h : MeanQ S n mode b) : isNaN b = false := by
  obtain ⟨r, _, hr, rfl⟩ := h
  unfold isNaN
  refine decide_eq_false ?_
  split <;> omega
theorem med_law {l : List Nat} (hf : finL l) (hw : ∀ x ∈ l, x < 18446744073709551616) {mode : Int} {b b' : Nat} {e e' : Int} (h : quantR l 1 2 3 mode b e) (h' : medAll l mode b' e') : e = e' ∧ (FloatKind.f64.format.order b b' == some .eq) = true := by
  have z0 : (FloatKind.f64.format.order 0 0 == some .eq) = true := num_self (by decide)
  rcases h' with ⟨hm, rfl, rfl⟩ | ⟨hm, h'⟩
  · rcases h with ⟨_, rfl, rfl⟩ | ⟨q, _⟩
    · exact ⟨rfl, z0⟩
    · exact absurd q.1 hm
  have hask : askQ 1 2 3 mode := ⟨hm, by decide, by decide, by decide, by decide⟩
  have hE : ∀ c, refuseE l = c → c ≠ 0 → b = 0 ∧ e = c := fun c hc h0 => by
    rcases h with ⟨q, _⟩ | ⟨_, ⟨_, hb, he⟩ | ⟨q, _⟩⟩
    · exact absurd hask q
    · exact ⟨hb, he.trans hc⟩
    · exact absurd (hc.symm.trans q) h0
  rcases h' with ⟨hl, rfl, rfl⟩ | ⟨hl, ⟨hn, rfl, rfl⟩ | ⟨hn, h'⟩⟩
  · obtain ⟨rfl, rfl⟩ := hE 2 (by unfold refuseE; rw [if_pos hl]) (by decide)
    exact ⟨rfl, z0⟩
  · obtain ⟨rfl, rfl⟩ := hE 3 (by unfold refuseE; rw [if_neg (by omega), if_neg (fun q => q hf), if_pos hn]) (by decide)
    exact ⟨rfl, z0⟩
  have hr : refuseE l = 0 := by unfold refuseE; rw [if_neg (by omega), if_neg (fun q => q hf), if_neg hn]
  have hA := quant_at h hask hr
  have hlen := sortP_length l
  have hpos : 0 < l.length := by cases l with
    | nil => exact absurd rfl hn
    | cons x l => simp
  have hfin : ∀ i, i < l.length → (splitP ((sortP l).getD i 0)).cls ≤ 2 ∧ (sortP l).getD i 0 < 18446744073709551616 := fun i hi => sort_fin hf hw hn i hi
  generalize sortP l = s at *
  unfold atR at hA
  unfold medR at h'
  rw [hlen] at hA h'
  simp only [show (1 : Int).toNat = 1 from rfl, show (2 : Int).toNat = 2 from rfl, Nat.mul_one] at hA
  obtain ⟨hfx, hx64⟩ := hfin ((l.length - 1) / 2) (by omega)
  by_cases ho : (l.length - 1) % 2 = 0
  · rw [if_pos (.inl ho)] at hA
    rw [show l.length / 2 = (l.length - 1) / 2 by omega] at h'
    obtain ⟨rfl, rfl⟩ := hA
    rcases h' with ⟨_, rfl, rfl⟩ | ⟨q, _⟩
    · exact ⟨rfl, num_self (fin_num hfx)⟩
    · exact absurd rfl q
  · rw [if_neg (fun q => q.elim ho (by decide)), if_pos trivial] at hA
    obtain ⟨hfy, hy64⟩ := hfin ((l.length - 1) / 2 + 1) (by omega)
    rw [show l.length / 2 = (l.length - 1) / 2 + 1 by omega] at h'
    have hM := mid_mean hA hm hfx hfy
    generalize s.getD ((l.length - 1) / 2) 0 = x at *
    generalize s.getD ((l.length - 1) / 2 + 1) 0 = y at *
    rcases h' with ⟨rfl, rfl, rfl⟩ | ⟨hne, hR⟩
    · obtain ⟨rfl, rfl⟩ := mean_like (n := 2) hM hfx hx64 (by decide) (by decide) hm
      exact ⟨rfl, num_self (fin_num hfx)⟩
    · have hf2 : finL [x, y] := by intro z hz; simp only [List.mem_cons, List.not_mem_nil, or_false] at hz; rcases hz with rfl | rfl <;> assumption
      obtain ⟨rfl, hh⟩ := mean_fin2 hM hf2 (by simp) (by simp) hm ⟨by decide, by decide⟩
      have eS : sumI [x, y] = fvI x + fvI y := by simp [sumI]
      rw [eS] at hh
      have hin := add_in x y
      generalize fvI x + fvI y = S at *
      rcases hh with ⟨h0, rfl⟩ | ⟨h0, hq⟩
      · rw [h0, half_zero] at hR
        obtain ⟨rfl, rfl⟩ : b' = 0 ∧ e' = 0 := by
          rcases hR with ⟨q, _⟩ | ⟨_, ⟨q, _⟩ | ⟨d, r, hd, hN, hr, hb, he⟩⟩
          · exact absurd hm q
          · cases q
          · cases hd
            refine ⟨?_, he⟩
            have h1 : IsNear (dyA Dy.zero.m Dy.zero.e) (dyB Dy.zero.e) Dy.zero.neg mode 0 := near_is (by decide) (dyB_pos _) (by unfold dyA; rw [show nz 0 = 0 from rfl, show Dy.zero.m = 0 from rfl]; simp)
            rw [hb, hN.unique (dyB_pos _) h1]
            rfl
        refine ⟨rfl, ?_⟩
        rw [order_zero]
        rcases nought_two (cntP [x, y]) mode with q | q <;> rw [q] <;> decide
      · obtain ⟨rfl, hq2⟩ := half_mean hin h0 hm hR
        have := MeanQ.unique (n := 2) (by decide) hq hq2
        subst this
        exact ⟨rfl, num_self (meanq_num hq)⟩
theorem sort_is {l l' : List Nat} (hp : l'.Perm (List.range l.length)) (hso : So (kL l) l' 0 l.length) (hf : finL l) (hw : ∀ x ∈ l, x < 18446744073709551616) : l'.map (fun k => toldP (l.getD k 0)) = sortP l := by
  have hlen : l'.length = l.length := by rw [hp.length_eq, List.length_range]
  have hlt : ∀ k ∈ l', k < l.length := fun k hk => List.mem_range.1 (hp.mem_iff.1 hk)
  have e1 : l'.map (fun k => toldP (l.getD k 0)) = l'.map (fun k => l.getD k 0) := List.map_congr_left fun k hk => by
    have hm : l.getD k 0 ∈ l := by rw [List.getD_eq_getElem?_getD, List.getElem?_eq_getElem (hlt k hk)]; exact List.getElem_mem _
    unfold toldP
    rw [if_neg (by rw [fin_num (hf _ hm)]; decide)]
  rw [e1]
  refine sortP_eq ?_ ?_ (fun x hx => ?_)
  · have h2 : (List.range l.length).map (fun k => l.getD k 0) = l := by
      apply List.ext_getElem (by simp)
      intro i h1 h2
      simp only [List.getElem_map, List.getElem_range]
      rw [List.getD_eq_getElem?_getD, List.getElem?_eq_getElem h2]; rfl
    have := hp.map (fun k => l.getD k 0)
    rwa [h2] at this
  · unfold Srt
    rw [List.pairwise_iff_getElem]
    intro i j hi hj hij
    simp only [List.length_map] at hi hj
    have := hso i j (Nat.zero_le _) hij (by omega)
    unfold kL at this
    simp only [List.getElem_map]
    have a1 : l'.getD i 0 = l'[i] := by rw [List.getD_eq_getElem?_getD, List.getElem?_eq_getElem hi]; rfl
    have a2 : l'.getD j 0 = l'[j] := by rw [List.getD_eq_getElem?_getD, List.getElem?_eq_getElem hj]; rfl
    rw [a1, a2] at this
    exact this
  · exact ⟨hw _ hx, fin_num (hf _ hx)⟩

end

/- Slices against nil; an empty slice that is laid and grows. No condition. -/
section
open Go Sx Wd
section
variable {P : Program} {n : Nat} {D : List Deferred} {s : Sl} {w : World} {ops : Array Oper} {K : KK} {rest : List Oper} {ty : TypeId} {pos : String} {af : Array Edge} {d : Nat} {x y : Operand}
theorem eqGuard_slice (op : BinOp) (t : TypeId) (x y : Operand) (a b : Option Addr) (i j k l : Nat) : (eqGuard op t x y (.slice a i j) (.slice b k l)).run P w = .ok () w := by
  unfold eqGuard; split <;> simp
/-- A slice against nil. -/
theorem Ev.eqlSliceNil {t t' e : TypeId} {sz by_ : Nat} {z : Value} {a : Option Addr} {m c : Nat} [hT : HasT P t (.slice e) sz by_ z] (hx : opnd s x = some (.slice a m c)) (hy : opnd s y = some (.slice none 0 0)) : Ev P s (.binOp .eql t x y t') ty w (.bool a.isNone) w :=
  run_bin hx hy (fun _ _ => eqGuard_slice _ _ _ _ _ _ _ _ _ _) (by
    have := run_eqIn (P := P) (w := w) (t := t) (u := .slice a m c) (v := .slice none 0 0) (r := a.isNone) (fun d => by cases a <;> simp [Op.equalIn, hT.underlying])
    simp only [binOp]
    simp [this])
/-- An empty slice of one's own. -/
theorem WL.emptySlice {t e : TypeId} {de : TypeDesc} {sz by_ es be : Nat} {z ze : Value} {f : Nat → Value} {lo : Nat} {X : List Nat} [hT : HasT P t (.slice e) sz by_ z] [hE : HasT P e de es be ze] (hlo : lo ≤ w.heap.size) (hX : ∀ b ∈ X, b < w.heap.size) (hd : Nat.blt d n = true)
    (k : ∀ v w', GR w' e f lo X v [] → Chg [] w w' → WL P ops K rest n D ((d, v) :: s) w') : WL P ops K (⟨some d, .buildSlice t 0 #[], ty, pos, af, none⟩ :: rest) n D s w := by
  refine WL.ev (v := .slice (some ⟨w.heap.size, 0, none⟩) 0 0) (w' := w.alloc (.cells #[] e)) (fun ρ d' pos af g hρ => ?_) hd (k _ _ ?_ (new_alloc w _).chg)
  · simp [execOp, Instr.buildSlice, hT.underlying, hE.sizeOf, Instr.fill, newRow]
    rw [show Array.range 0 = #[] from by decide, Array.map_empty]
  · refine ⟨⟨by simp, .inr ⟨w.heap.size, 0, #[], rfl, Nat.zero_le _, ?_, Nat.le_refl _, by unfold maxLen; omega, by simp, by simp⟩⟩, fun b hb => ?_⟩
    · exact (new_alloc w (.cells #[] e)).at_
    · cases hb
      exact ⟨hlo, fun hm => Nat.lt_irrefl _ (hX _ hm)⟩
end
theorem GR.own {w : World} {e : TypeId} {f : Nat → Value} {lo : Nat} {X : List Nat} {v : Value} {l : List Nat} (h : GR w e f lo X v l) (hne : l ≠ []) : ∃ b c cur, v = .slice (some ⟨b, 0, none⟩) l.length c ∧ w.heap[b]? = some (.cells cur e (0, 0)) ∧ l.length ≤ c ∧ c ≤ maxLen ∧ cur.size = c ∧ cur.toList.take l.length = l.map f ∧ lo ≤ b ∧ b ∉ X := by
  obtain ⟨⟨_, hcase⟩, hb⟩ := h
  rcases hcase with ⟨_, h0⟩ | ⟨g, cp, cur, rfl, _, hheap, hnc, hcm, hcs, htake⟩
  · exact absurd (List.length_eq_zero_iff.1 h0) hne
  · obtain ⟨h1, h2⟩ := hb g rfl
    rw [Nat.mul_one] at hcs htake
    exact ⟨g, cp, cur, rfl, hheap, hnc, hcm, hcs, htake, h1, h2⟩
end

/- Shards: what is refused, Sum, Mean, the ends. No condition. -/
section
open Go Sx Wd Fl

end

/- Package moment: times, by, Of; Shards: Var. No condition. -/
section
open Go Sx Wd Fl

end

/- Package moment: Of; Shards: Var. No condition. -/
section
open Go Sx Wd Fl

def carSh (s : SP) (pn pi : Int) : Prop := (0 < s.na ∧ pn = 0) ∨ (0 < s.up + s.dn ∧ pi = 0)
instance (s : SP) (pn pi : Int) : Decidable (carSh s pn pi) := by unfold carSh; exact inferInstance
end

/- Equality of numbers' parts. No condition. -/
section
open Go Sx

theorem fieldsOf_of {P : Program} {t : TypeId} {fs : Array Field} (h : P.underlying t = some (.struct fs)) : P.fieldsOf t = fs := by unfold Program.fieldsOf; rw [h]
theorem run_eqParts (n1 n2 : Bool) (c1 c2 e1 e2 f1 f2 : Int) (w : World) : (Op.equalIn 10000 276 (.agg [.bool n1, .int .i64 c1, .int .i64 e1, .int .u64 f1].toArray) (.agg [.bool n2, .int .i64 c2, .int .i64 e2, .int .u64 f2].toArray)).run Tryz.prog w = .ok (n1 == n2 && (c1 == c2 && (e1 == e2 && f1 == f2))) w := by
  have hu := Tryz.underlying276
  have hf := fieldsOf_of hu
  have ht : Tryz.prog.underlying 276 = some (.struct (Program.fieldsOf Tryz.prog 276)) := by rw [hf]; exact hu
  rw [run_equalIn_struct w 9999 _ _ _ ht (by kernel_rfl), hf]
  have b1 : (isAgg 4).run Tryz.prog w = .ok false w := (inferInstance : HasT Tryz.prog 4 _ _ _ _).isAgg
  have b2 : (isAgg 3).run Tryz.prog w = .ok false w := (inferInstance : HasT Tryz.prog 3 _ _ _ _).isAgg
  have b3 : (isAgg 112).run Tryz.prog w = .ok false w := (inferInstance : HasT Tryz.prog 112 _ _ _ _).isAgg
  have q1 : ∀ a b : Bool, (Op.equalIn 9999 4 (.bool a) (.bool b)).run Tryz.prog w = .ok (a == b) w := fun a b => run_equalIn_bool' w 9998 _ a b Tryz.underlying4
  have q2 : ∀ a b : Int, (Op.equalIn 9999 3 (.int .i64 a) (.int .i64 b)).run Tryz.prog w = .ok (a == b) w := fun a b => run_equalIn_int w 9998 _ .i64 .i64 a b Tryz.underlying3
  have q3 : ∀ a b : Int, (Op.equalIn 9999 112 (.int .u64 a) (.int .u64 b)).run Tryz.prog w = .ok (a == b) w := fun a b => run_equalIn_int w 9998 _ .u64 .u64 a b Tryz.underlying112
  cases h1 : (n1 == n2) <;> cases h2 : (c1 == c2) <;> cases h3 : (e1 == e2) <;> cases h4 : (f1 == f2) <;> simp [Op.eqFields, part, b1, b2, b3, q1, q2, q3, h1, h2, h3, h4]
theorem Ev.eqlParts {s : Sl} {w : World} {ty t' : TypeId} {x y : Operand} {n1 n2 : Bool} {c1 c2 e1 e2 f1 f2 : Int} (hx : opnd s x = some (.agg [.bool n1, .int .i64 c1, .int .i64 e1, .int .u64 f1].toArray)) (hy : opnd s y = some (.agg [.bool n2, .int .i64 c2, .int .i64 e2, .int .u64 f2].toArray)) :
    Ev Tryz.prog s (.binOp .eql 276 x y t') ty w (.bool (n1 == n2 && (c1 == c2 && (e1 == e2 && f1 == f2)))) w :=
  run_bin hx hy (fun _ _ => run_eqGuard_agg _ _ _ _ _ _ _ (by kernel_rfl)) (by rw [run_eql_struct, run_eqParts]; rfl)
end

/- Package dyad: Of. No condition. -/
section
open Go Sx Wd Fl

theorem parts_eq (n b : Bool) (c f : Nat) (e : Int) : (n == b && ((c : Int) == 0 && (e == e && (f : Int) == 0))) = ((n == b) && decide (c = 0 ∧ f = 0)) := by
  have h1 : ((c : Int) == 0) = decide (c = 0) := by rw [Bool.eq_iff_iff]; simp
  have h2 : ((f : Int) == 0) = decide (f = 0) := by rw [Bool.eq_iff_iff]; simp
  rw [h1, h2, beq_self_eq_true, Bool.true_and, Bool.decide_and]
theorem cls0_frac {x : Nat} : (splitP x).cls = 0 → (splitP x).frac = 0 := by
  unfold splitP
  by_cases a : x / 4503599627370496 % 2048 = 2047 ∧ x % 4503599627370496 ≠ 0
  · rw [if_pos a]; simp
  · rw [if_neg a]
    by_cases b : x / 4503599627370496 % 2048 = 2047
    · rw [if_pos b]; simp
    · rw [if_neg b]
      by_cases d : 0 < x / 4503599627370496 % 2048
      · rw [if_pos d]; simp
      · rw [if_neg d]
        by_cases f : 0 < x % 4503599627370496
        · rw [if_pos f]; simp
        · rw [if_neg f]; simp
theorem splitP_frac (x : Nat) : (splitP x).frac < 9007199254740992 := by
  unfold splitP
  split
  · simp
  · split
    · simp
    · split
      · dsimp only; omega
      · split
        · dsimp only; omega
        · simp
theorem splitP_range (x : Nat) : -5000 ≤ (splitP x).exp ∧ (splitP x).exp ≤ 5000 := by
  unfold splitP
  split
  · simp
  · split
    · simp
    · split
      · dsimp only; omega
      · split
        · dsimp only; omega
        · simp

theorem dOf_spec (x : Nat) (w : World) (hx : x < 18446744073709551616) (hg : GW w) : Ret Tryz.prog 127 [.float .f64 x] w fun u w' => (((splitP x).cls ≤ 2 ∧ ∃ r, u = .tuple [.agg [.bool (sumD (fvI x)).neg, r, .int .i64 (sumD (fvI x)).e].toArray, .int .i64 0].toArray ∧ NU w' r (wd (sumD (fvI x)).m)) ∨ (¬ (splitP x).cls ≤ 2 ∧ u = .tuple [.agg [.bool false, .slice none 0 0, .int .i64 0].toArray, .int .i64 30].toArray)) ∧ Chg [] w w' := by
 have hch : Chg [] w w := Chg.refl _ _;refine zE1 Tryz.func127 rfl ?_;refine Sr fun _ kh1 => ?_;refine zAh rfl rfl hch fun b2 wm2 hb2 hcm2 hge2 hgehch2 hch => ?_;refine za rfl (zz (kh1 (Sr fun _ kh3 => zm rfl ?_)));refine WL.call hasF212 rfl rfl (Split_spec x _ hx) fun v w1 h' => ?_;obtain ⟨rfl, hC⟩ := h';have hch := hch.ta hC;have hb2 := hb2.k0 hC;refine WL.allocB (l := [.bool false, .int .i64 0, .int .i64 0, .int .u64 0]) rfl rfl fun b4 wm4 hb4 hcm4 hge4 => ?_;have hgehch4 := Nat.le_trans hch.size hge4;have hch := hch.ta hcm4;have hneb24 := zdd hb2.lt hge4;have hb2 := hb2.k0 hcm4;refine zss rfl rfl ao hb4 rfl fun ws1 hb4_ hcs1 => ?_;(try simp only [Sx.splice, qt] at hb4_);have hch := hch.s1 hcs1;have hb2 := hb2.kq hcs1;have hb4 := hb4_;refine zz (kh3 (Sr fun _ kh5 => zf rfl (zl hb4 rfl rfl ?_)));refine WL.ev (Ev.build (vs := _) (cs := [_, _, _, _]) rfl rfl) rfl ?_;refine WL.allocB (l := [.bool false, .int .i64 0, .int .i64 0, .int .u64 0]) rfl rfl fun b5 wm5 hb5 hcm5 hge5 => ?_;have hgehch5 := Nat.le_trans hch.size hge5;have hch := hch.ta hcm5;have hneb25 := zdd hb2.lt hge5;have hb2 := hb2.k0 hcm5;have hneb45 := zdd hb4.lt hge5;have hb4 := hb4.k0 hcm5;refine zss rfl rfl ao hb5 rfl fun ws2 hb5_ hcs2 => ?_;(try simp only [Sx.splice, qt] at hb5_);have hch := hch.s1 hcs2;have hb2 := hb2.kq hcs2;have hb4 := hb4.kq hcs2;have hb5 := hb5_;refine zz (kh5 (Sr fun _ kh7 => zg hb5 rfl ?_));refine WL.allocB (l := [.bool false, .int .i64 0, .int .i64 0, .int .u64 0]) rfl rfl fun b6 wm6 hb6 hcm6 hge6 => ?_;have hgehch6 := Nat.le_trans hch.size hge6;have hch := hch.ta hcm6;have hneb26 := zdd hb2.lt hge6;have hb2 := hb2.k0 hcm6;have hneb46 := zdd hb4.lt hge6;have hb4 := hb4.k0 hcm6;have hneb56 := zdd hb5.lt hge6;have hb5 := hb5.k0 hcm6;refine zss rfl rfl ao hb6 rfl fun ws3 hb6_ hcs3 => ?_;(try simp only [Sx.splice, qt] at hb6_);have hch := hch.s1 hcs3;have hb2 := hb2.kq hcs3;have hb4 := hb4.kq hcs3;have hb5 := hb5.kq hcs3;have hb6 := hb6_;refine zz (kh7 (Sr fun _ kh9 => zf rfl ?_));refine WL.storeC rfl rfl o1 hb6 (by simp) rfl fun ws4 hb6_ hcs4 => ?_;(try simp only [Sx.splice, qt] at hb6_);have hch := hch.s1 hcs4;have hb2 := hb2.kq hcs4;have hb4 := hb4.kq hcs4;have hb5 := hb5.kq hcs4;have hb6 := hb6_;refine zz (kh9 (zc fun _ kh11 => ?_));refine CW.block ?_;refine CW.seqM 14 (decide ((splitP x).cls = 3 ∨ (splitP x).cls = 4)) ?_ ?_
 ·refine zR fun _ kr12 => ?_;refine zf rfl (zl hb4 rfl rfl (zq rfl rfl (zm rfl ?_)));refine zb ?_ ?_<;>intro hg1<;>try simp only [qs] at hg1
  ·refine zv rfl (zv rfl (zv rfl (zt rfl rfl (za rfl ?_))));refine WL.nil (kr12 _ _ _ ?_);refine ⟨rfl, rfl, Subs.consB rfl ?_ ?_⟩
   ·first | (simp; omega) | (simp_all; done) | (refine decide_eq_decide.2 ?_; omega)
   ·exact SMg
  ·refine zw rfl (zf rfl (zw rfl (zl hb4 rfl rfl (zw rfl (zq rfl rfl (ze rfl rfl (za rfl ?_)))))));refine WL.nil (kr12 _ _ _ ?_);refine ⟨rfl, rfl, Subs.consB rfl ?_ ?_⟩
   ·first | (simp; omega) | (simp_all; done) | (refine decide_eq_decide.2 ?_; omega)
   ·exact SMg
 ·refine zy rfl ?_ ?_<;>intro hc2<;>try simp only [qs] at hc2
  ·have hodd : ¬ (splitP x).cls ≤ 2 := by have := hc2; omega
   refine Sr fun _ kh13 => ?_;refine WL.ev (Ev.build (vs := _) (cs := [_, _, _]) rfl rfl) rfl ?_;refine zss rfl rfl ao hb2 rfl fun ws5 hb2_ hcs5 => ?_;(try simp only [Sx.splice, qt] at hb2_);have hch := hch.s1 hcs5;have hb2 := hb2_;refine za rfl (zz (kh13 ?_));refine zr (bodyA.retR2 rfl (RVal.cell rfl (hb2.varA rfl rfl)) (RVal.tmp rfl) ?_);exact ⟨.inr ⟨hodd, rfl⟩, hch⟩
  ·have hfx : (splitP x).cls ≤ 2 := by have := hc2; have := splitP_cls x; omega
   refine CW.seqM 24 (decide ((splitP x).cls = 0 ∧ (splitP x).frac = 0)) ?_ ?_
   ·refine zR fun _ kr15 => ?_;refine zg hb4 rfl (zg hb5 rfl ?_);refine WL.ev (Ev.eqlParts rfl rfl) rfl ?_;rw [parts_eq];refine zm rfl ?_;refine zb ?_ ?_<;>intro hg3<;>try simp only [qs] at hg3
    ·refine zv rfl (zv rfl (zv rfl (zt rfl rfl (za rfl ?_))));refine WL.nil (kr15 _ _ _ ?_);refine ⟨rfl, rfl, Subs.consB rfl ?_ ?_⟩
     ·generalize (splitP x).neg = nn at *
      by_cases hP : (splitP x).cls = 0 ∧ (splitP x).frac = 0
      · (try rw [decide_eq_true hP] at *) <;> cases nn <;> simp_all
      · (try rw [decide_eq_false hP] at *) <;> cases nn <;> simp_all
     ·exact SMg
    ·refine zw rfl (zg hb4 rfl (zw rfl (zg hb6 rfl (zw rfl ?_))));refine WL.ev (Ev.eqlParts rfl rfl) rfl ?_
     rw [parts_eq];refine ze rfl rfl (za rfl ?_);refine WL.nil (kr15 _ _ _ ?_);refine ⟨rfl, rfl, Subs.consB rfl ?_ ?_⟩
     ·generalize (splitP x).neg = nn at *
      by_cases hP : (splitP x).cls = 0 ∧ (splitP x).frac = 0
      · (try rw [decide_eq_true hP] at *) <;> cases nn <;> simp_all
      · (try rw [decide_eq_false hP] at *) <;> cases nn <;> simp_all
     ·exact SMg
   ·refine zy rfl ?_ ?_<;>intro hc4<;>try simp only [qs] at hc4
    ·have hq : (splitP x).cls = 0 ∧ (splitP x).frac = 0 := hc4
     refine Sr fun _ kh16 => ?_;refine WL.ev (Ev.build (vs := _) (cs := [_, _, _]) rfl rfl) rfl ?_;refine zss rfl rfl ao hb2 rfl fun ws6 hb2_ hcs6 => ?_;(try simp only [Sx.splice, qt] at hb2_);have hch := hch.s1 hcs6;have hb2 := hb2_;refine za rfl (zz (kh16 ?_));refine zr (bodyA.retR2 rfl (RVal.cell rfl (hb2.varA rfl rfl)) (RVal.tmp rfl) ?_);refine ⟨.inl ⟨hfx, ?_⟩, hch⟩;have hz : fvI x = 0 := fvI_zero (by omega);rw [hz];exact ⟨.slice none 0 0, rfl, by rw [show (sumD 0).m = 0 from rfl, wd_zero]; exact NU.nil⟩
    ·have hq : (splitP x).cls = 1 ∨ (splitP x).cls = 2 := by have := hc4; have h2 := cls0_frac (x := x); omega
     have hff := fin_form hq;have hfl := splitP_frac x;have hex := splitP_range x;refine zkk ?_;refine kh11 (zc fun _ kh18 => ?_);refine CW.regionKC 10 12 rfl hmix fun kR19 kr19 hS hdr => ?_;have hch := hch.ta hdr;have hb2 := hb2.k0 hdr;have hb4 := hb4.k0 hdr;have hb4_r := hb4;refine wk 0 rfl hS (fun _ _ => Ev.fieldAddr rfl) (wk 1 rfl hS (fun _ hw' => Ev.load rfl rfl ((hb4_r.keep0 hw').at_ rfl)) (wk 2 rfl hS (fun _ _ => Ev.fieldAddr rfl) (wk 3 rfl hS (fun _ hw' => Ev.load rfl rfl ((hb4_r.keep0 hw').at_ rfl)) (wk 5 rfl hS (fun _ _ => Ev.fieldAddr rfl) (wk 6 rfl hS (fun _ hw' => Ev.load rfl rfl ((hb4_r.keep0 hw').at_ rfl)) ?_)))));refine WK.oneCall 4 rfl (by kernel_rfl) hasF213 rfl rfl (Of_spec (splitP x).frac _ (by omega)) fun v w2 h' => ?_;obtain ⟨hN, hC⟩ := h';have hch := hch.ta hC;have hb2 := hb2.k0 hC;have hS := hS.trans hC;refine ⟨hS, ?_⟩;refine WK.oneCall 7 rfl (by kernel_rfl) hasF173 rfl rfl (form_spec (splitP x).neg _ (wd (splitP x).frac) (splitP x).exp _ hN (hg.keep0 hch) (by omega)) fun v w3 h' => ?_;obtain ⟨hD, hC⟩ := h';rw [val_wd, hff] at hD;obtain ⟨r, d, hd, rfl, hNr⟩ := hD.resolve_right (fun q => by cases q.1);cases hd;have hch := hch.ta hC;have hb2 := hb2.k0 hC;have hS := hS.trans hC;refine ⟨hS, ?_⟩;refine wk 8 rfl hS (fun _ _ => Ev.extract rfl rfl) (wk 9 rfl hS (fun _ _ => Ev.extract rfl rfl) ?_);refine WK.storeB 10 rfl (by kernel_rfl) (by kernel_rfl) rfl rfl rfl ao hb2 (by simp) rfl fun ws7 hb2_ hcs7 => ?_;(try simp only [Sx.splice, qt] at hb2_);have hch := hch.s1 hcs7;have hNr := hNr.keepBK hb2 hcs7 an;have hb2 := hb2_;refine WK.after 11 rfl (by kernel_rfl) (by kernel_rfl) (Ev.assign rfl) rfl ?_;refine WK.done (by kernel_rfl) (kr19 _ _ _ ?_);refine kh18 ?_;refine zr (bodyA.retR2 rfl (RVal.cell rfl (hb2.varA rfl rfl)) (RVal.tmp rfl) ?_);exact ⟨.inl ⟨hfx, r, rfl, hNr⟩, hch⟩

end

/- Shards: Add. No condition. -/
section
open Go Sx Wd Fl

/-- A number's dyad; nought's, if there is none. -/
def fdy (x : Nat) : Dy := if (splitP x).cls ≤ 2 then sumD (fvI x) else Dy.zero
/-- The shard of one number. -/
def Sh.one (x : Nat) : Sh := ⟨cntP [x], fdy x, (mulD (fdy x) (fdy x)).getD Dy.zero, x, x⟩
end

/- Reference of layer 21: New, some, finite, Merge. No condition. -/
section
open Go Sx Wd Fl

/-- The ends are numbers, where there is something that is one. -/
def Sh.num (S : Sh) : Prop := S.some → isNaN S.lo = false ∧ isNaN S.hi = false

end

/- Reference of layer 21: Merge. No condition. -/
section
open Go Sx Wd Fl

end

/- Two lists in order, put together. No condition. -/
section
open Go Sx Wd Fl

end

/- Not above, by value: of a finite number and one that may be infinite. No condition. -/
section
open Go Sx Wd Fl
set_option exponentiation.threshold 9000

end

/- References of layers 3 and 6: the difference; counts of a list. No condition. -/
section
open Go Sx Wd Fl

end

/- Reference of layer 21: Add. No condition. -/
section
open Go Sx Wd Fl

end

/- Reference of layer 21: what is refused, Mean, Var, the ends. No condition. -/
section
open Go Sx Wd Fl

end

/- Reference of layer 3: below, half, Nearby, Round. No condition. -/
section
open Go Sx Wd

end

/- Reference of layer 3: Nearby, Round. No condition. -/
section
open Go Sx Wd

end

/- Reference of layer 21: Sum. No condition. -/
section
open Go Sx Wd Fl

end

/- Lists of integers; rows that grow within a drawn region. No condition. -/
section
open Go Sx Wd Fl

def i64v (z : Int) : Value := .int .i64 z
namespace Sx
section
variable {P : Program} {A : AQ} {n : Nat} {D : List Deferred} {s : Sl} {w : World} {ops : Array Oper} {K : KK} {S : World → Prop} {fuel : Nat} {listed : Array Bool}
variable {op : Op} {ty : TypeId} {pos : String} {af : Array Edge} {d : Nat} {v : Value} {x y : Operand}
end
end Sx
end

/- Lists that came out: SameList, Book.Reads. No condition. -/
section
open Go Sx Wd Fl

end

/- Two rows that grow beside one another; appends in a drawn region whose last store is late. No condition. -/
section
open Go Sx Wd Fl

namespace Sx
section
variable {P : Program} {A : AQ} {n : Nat} {D : List Deferred} {s : Sl} {w : World} {ops : Array Oper} {K : KK} {S : World → Prop} {z fuel : Nat} {listed : Array Bool}
variable {op : Op} {ty : TypeId} {pos : String} {af : Array Edge} {d : Nat} {v : Value} {x y : Operand}
end
end Sx
end

/- A store into a row that grows. No condition. -/
section
open Go Sx Wd Fl

namespace Sx
section
variable {P : Program} {n : Nat} {D : List Deferred} {s : Sl} {w : World} {ops : Array Oper} {K : KK} {rest : List Oper} {ty : TypeId} {pos : String} {af : Array Edge} {x y : Operand}
end
end Sx
end

/- Lists that came out: Book.Take. No condition. -/
section
open Go Sx Wd Fl

end

/- What grows leaves the part that was there before readable where it lay. No condition. -/
section
open Go Sx Wd Fl
namespace Sx
section
variable {P : Program} {n : Nat} {D : List Deferred} {s : Sl} {w : World} {ops : Array Oper} {K : KK} {rest : List Oper} {ty : TypeId} {pos : String} {af : Array Edge} {d : Nat} {x y : Operand}
end
end Sx
end

/- Rows that keep clear of a block that changes. No condition. -/
section
open Go Sx Wd Fl

/-- No two of the values have one block. -/
def Apart (val : Nat → Value) (n : Nat) : Prop := ∀ p q b, p < n → q < n → p ≠ q → (val p).ownBlock = some b → (val q).ownBlock ≠ some b
/-- All rows, each with its list. -/
def Rows_ (w : World) (e : TypeId) (lo : Nat) (X : List Nat) (val : Nat → Value) (L : Nat → List Nat) (n : Nat) : Prop := ∀ p, p < n → GR w e f64v lo X (val p) (L p)
def lput (L : Nat → List Nat) (p : Nat) (l : List Nat) (q : Nat) : List Nat := if q = p then l else L q
end

/- Copies of numbers. No condition. -/
namespace Sx
open Go
section
variable {P : Program} {n : Nat} {D : List Deferred} {s : Sl} {w : World} {ops : Array Oper} {K : KK} {rest : List Oper} {ty : TypeId} {pos : String} {af : Array Edge} {d : Nat} {x y : Operand}
end
end Sx

/- Copies of lists of numbers; parts of them. No condition. -/
section
open Go Sx Wd Fl

theorem GR.nf {w : World} {e : TypeId} {lo : Nat} {X : List Nat} {v : Value} {l : List Nat} (h : GR w e f64v lo X v l) (hw : ∀ x ∈ l, x < 18446744073709551616) (hl : l.length ≤ 70368744177664) : NF w v l := by
  obtain ⟨a, c, rfl, hc, hr⟩ := h.row
  exact ⟨⟨a, c, rfl, hc, hr⟩, hw, hl⟩
theorem CloneF_spec (v : Value) (l : List Nat) (w : World) (hv : NF w v l) (hlm : l.length ≤ 1000000) : Ret Tryz.prog 208 [v] w fun u w' => GR w' 31 f64v w.heap.size [] u l ∧ Chg [] w w' := by
 obtain ⟨⟨al, cl, rfl, hcap, hrl⟩, hWl, hll⟩ := hv;have hch : Chg [] w w := Chg.refl _ _;refine zE1 Tryz.func208 rfl ?_;refine Sr fun _ kh1 => za rfl (zz (kh1 (zc fun _ kh3 => Sr fun _ kh4 => zm rfl ?_)));refine WL.ev (Ev.eqlSliceNil rfl rfl) rfl ?_;refine zz (kh4 ?_);refine zy rfl ?_ ?_<;>intro hc1<;>try simp only [qs] at hc1
 ·obtain rfl : al = none := by simpa using hc1
  have hl0 : l = [] := by cases l with | nil => rfl | cons x r => obtain ⟨ad, e1, _⟩ := hrl 0 _ rfl; cases e1
  subst hl0;refine Sr fun _ kh6 => za rfl (zz (kh6 ?_));refine zr (zr1 rfl rfl ?_);exact ⟨GR.nil, hch⟩
 ·refine zkk ?_
  refine kh3 (Sr fun _ kh8 => ?_);refine WL.emptySlice (f := f64v) (lo := w.heap.size) (X := []) hch.size (by simp) rfl fun v5 w5 hg5 hcm5 => ?_;have hch := hch.ta hcm5;refine zm rfl ?_;refine WL.growR (f := f64v) (lo := w.heap.size) (X := []) (l := []) (news := l) (by rfl) (fun i => rfl) rfl rfl hg5 (by first | rfl | (simp; done) | (simp; omega) | omega) (hrl.keep0 hch) (by first | omega | exact hch.size | exact hcr.size | exact Nat.le_refl _) (by simp) (by simp only [List.length_append, List.length_cons, List.length_nil]; omega) (by simp only [List.length_append, List.length_cons, List.length_nil]; omega) rfl fun v7 w7 hg7 hcg7 => ?_;have hch := GR.frame hg5 hcg7 hch (by first | omega | exact Nat.le_refl _);have hg5 := hg7;rw [show ([] ++ l) = l from by simp] at hg5;refine za rfl (zz (kh8 ?_));refine zr (zr1 rfl rfl ?_);exact ⟨hg5, hch⟩

end

/- Blocks from a bound on; a Book's lists while marks are written into them. No condition. -/
section
open Go Sx Wd Fl

/-- The old blocks from lo on. -/
def upF (lo : Nat) (w : World) : List Nat := List.range' lo (w.heap.size - lo)
/-- All lists of a Book while marks are written: the i-th of what came out and the i-th of what is wanted are one list. -/
structure MI (e lo n : Nat) (X : List Nat) (val : Nat → Value) (L : Nat → List Nat) (w : World) : Prop where
  rows : Rows_ w e lo X val L (n + n)
  eq : ∀ i, i < n → L (n + i) = L i
  len : ∀ i, (L i).length ≤ 1000000
  wd : ∀ i, ∀ x ∈ L i, x < 18446744073709551616
end

/- A Book's lists while its lists grow. No condition. -/
section
open Go Sx Wd Fl

/-- The two have not one block. -/
def Sep (v u : Value) : Prop := ∀ b, v.ownBlock = some b → u.ownBlock ≠ some b
/-- Where a row has grown: it lies where it lay, or anew. -/
def Grew (w : World) (v v' : Value) : Prop := ∀ b, v'.ownBlock = some b → v.ownBlock = some b ∨ w.heap.size ≤ b
/-- All old blocks but the row's own. -/
def butB (w : World) (v : Value) : List Nat := (List.range w.heap.size).filter fun b => decide (v.ownBlock ≠ some b)
namespace Sx
section
variable {P : Program} {n : Nat} {D : List Deferred} {s : Sl} {w : World} {ops : Array Oper} {K : KK} {rest : List Oper} {ty : TypeId} {pos : String} {af : Array Edge} {d : Nat} {x y : Operand}
end
end Sx
/-- What is still to grow: from i on. -/
structure PE (i n k lo : Nat) (fO fW : Nat → Value) (L : Nat → List Nat) (w : World) : Prop where
  g : ∀ p, i ≤ p → p < n → GR w 31 f64v lo [] (fO p) (L p)
  len : ∀ p, i ≤ p → p < n → (L p).length ≤ 1000000
  s : ∀ p, i ≤ p → p < n → ∀ q, q < k → (q ≠ p → Sep (fO q) (fO p)) ∧ Sep (fW q) (fO p)
section
variable {i n k kO kW lo bk : Nat} {vO vW : Value} {fO fW : Nat → Value} {L : Nat → List Nat} {vl vw v' : Value} {l1 l2 l3 : List Nat} {w w' : World}
end
end

/- Reference of layer 21: Var. No condition. -/
section
open Go Sx Wd Fl

end

/- Bytes, the low one first; what a shard is as bytes. No condition. -/
section
open Go Sx Wd Fl

/-- A number in k bytes, the low one first. -/
def leB (n k : Nat) : List Nat := (List.range k).map fun i => n / 256 ^ i % 256
/-- A growing row of bytes: what it was, what it is. -/
structure YG (lo : Nat) (v0 : Value) (w0 : World) (v : Value) (L : List Nat) (w : World) : Prop where
  g : GR w 5 u8v lo [] v L
  ch : Chg v0.ownBlock.toList w0 w
  gr : Grew w0 v0 v
end

/- Lists that came out: Book.Owned. No condition. -/
section
open Go Sx Wd Fl

end

/- A Book of two lists. No condition. -/
section
open Go Sx Wd Fl

end

/- The document: a dyad as bytes, a shard as bytes. No condition. -/
section
open Go Sx Wd Fl

end

/- The document: a shard as bytes. No condition. -/
section
open Go Sx Wd Fl

structure Sh.ex (S : Sh) : Prop where
  v : -4096 ≤ S.V.e ∧ S.V.e ≤ 61439
  q : -4096 ≤ S.Q.e ∧ S.Q.e ≤ 61439
  lv : (wd S.V.m).length ≤ 160
  lq : (wd S.Q.m).length ≤ 160
end

/- Own blocks of bytes: make, store, copy. No condition. -/
section
open Go Sx Wd

def YB (w : World) (b : Nat) (E : TypeId) (l : List Nat) : Prop := w.heap[b]? = some (.cells (l.map u8v).toArray E (0, 0))
section
variable {w w' : World} {b : Nat} {E : TypeId} {l : List Nat} {T : List Nat}
end
namespace Sx
section
variable {P : Program} {n : Nat} {D : List Deferred} {s : Sl} {w : World} {ops : Array Oper} {K : KK} {rest : List Oper} {ty : TypeId} {pos : String} {af : Array Edge} {d : Nat} {x y : Operand}
end
end Sx
end

/- The program: numbers as bytes. No condition. -/
section
open Go Sx Wd Fl

end

/- The program: a dyad as bytes. No condition. -/
section
open Go Sx Wd Fl

end

/- The program: a shard as bytes. No condition. -/
section
open Go Sx Wd Fl

end

/- Bytes that are read: a tape. No condition. -/
section
open Go Sx Wd Fl

/-- A number out of its bytes, the low one first. -/
def leV : List Nat → Nat
  | [] => 0
  | x :: l => x + 256 * leV l
def B8 (l : List Nat) : Prop := ∀ x ∈ l, x < 256
/-- What a reading of k bytes answers: the number, where it stands then, whether something was wrong. -/
def rdN (bs : List Nat) (p : Nat) (bad : Bool) (k : Nat) : Nat × Nat × Bool := if bad = true ∨ bs.length - p < k then (0, p, true) else (leV ((bs.drop p).take k), p + k, false)
/-- One of the counts. -/
def rdC (bs : List Nat) (p : Nat) (bad : Bool) : Nat × Nat × Bool := if 1099511627776 < (rdN bs p bad 8).1 then (0, (rdN bs p bad 8).2.1, true) else rdN bs p bad 8
def isU8 : Value → Bool
  | .int .u8 _ => true
  | _ => false
/-- A tape in memory: it stands at p of its bytes. -/
def TpM (lo : Nat) (w : World) (bt : Nat) (bs : List Nat) (p : Nat) (bad : Bool) : Prop := ∃ a c, BK w bt 145 [.slice a (bs.length - p) c, .bool bad] ∧ RW w a ((bs.drop p).map u8v) ∧ p ≤ bs.length ∧ bs.length - p ≤ c ∧ bt < lo ∧ ∀ ad, a = some ad → ad.block < lo
end

/- Bytes that are read: number, count. No condition. -/
section
open Go Sx Wd Fl

end

/- Bytes that are read: a dyad. No condition. -/
section
open Go Sx Wd Fl

/-- Words that are read: they, where it stands then, whether something was wrong. -/
def rdW (bs : List Nat) (p : Nat) (bad : Bool) : Nat → List Nat × Nat × Bool
  | 0 => ([], p, bad)
  | n + 1 => ((rdW bs p bad n).1 ++ [(rdN bs (rdW bs p bad n).2.1 (rdW bs p bad n).2.2 4).1], (rdN bs (rdW bs p bad n).2.1 (rdW bs p bad n).2.2 4).2)
/-- A dyad that is read: its sign, words, Exp; where it stands then; whether something was wrong. -/
def rdD (bs : List Nat) (p : Nat) (bad : Bool) : Bool × List Nat × Int × Nat × Bool :=
  match rdN bs p bad 1 with
  | (n1, p1, d1) => match rdN bs p1 d1 2 with
    | (n2, p2, d2) => match rdN bs p2 d2 2 with
      | (n3, p3, d3) => if 1 < n1 ∨ 160 < n3 then (false, [], 0, p3, true) else
        match rdW bs p3 d3 n3 with
        | (ws, q, bd) => (decide ((n1 : Int) = 1), ws, (n2 : Int) - 4096, q, if n3 = 0 then decide (bd = true ∨ (n1 : Int) = 1 ∨ (n2 : Int) - 4096 ≠ 0) else decide (bd = true ∨ ws.getD 0 0 % 2 = 0 ∨ ws.getD (n3 - 1) 0 = 0))
end

/- Means where signs are turned. No condition. -/
section
open Go Sx Wd
set_option exponentiation.threshold 9000

/-- A number's bits with the other sign. -/
def ngB (x : Nat) : Nat := if x < 9223372036854775808 then x + 9223372036854775808 else x - 9223372036854775808
theorem negFloat_eq {x : Nat} (h : x < 18446744073709551616) : Op.negFloat .f64 x = ngB x := by
  unfold ngB
  by_cases q : x < 9223372036854775808
  · rw [if_pos q]; exact negF q
  · rw [if_neg q]
    have e := negF (x := x - 9223372036854775808) (by omega)
    rw [show x - 9223372036854775808 + 9223372036854775808 = x by omega] at e
    have e' : (x - 9223372036854775808) ^^^ 2 ^ 63 = x := e
    show x ^^^ 2 ^ 63 = _
    calc x ^^^ 2 ^ 63 = ((x - 9223372036854775808) ^^^ 2 ^ 63) ^^^ 2 ^ 63 := by rw [e']
      _ = x - 9223372036854775808 := by rw [Nat.xor_assoc, Nat.xor_self, Nat.xor_zero]
end

/- Package bits: neighbours. No condition. -/
section
open Go Sx Wd Fl

end

/- The ends of a shard that is read. No condition. -/
section
open Go Sx Wd Fl

def isInfP (x : Nat) (s : Int) : Prop := if s = 0 then x % 9223372036854775808 = 9218868437227405312 else if s < 0 then x = 18442240474082181120 else x = 9218868437227405312
instance (x : Nat) (s : Int) : Decidable (isInfP x s) := by unfold isInfP; exact inferInstance
theorem read_max : Ieee.double.read 9218868437227405311 = .number false 9007199254740991 971 := by decide +kernel
theorem order_max {x : Nat} (hx : x < 18446744073709551616) : (FloatKind.f64.format.order x 9218868437227405311 == some .gt) = decide (x = 9218868437227405312) := by
  by_cases h : (splitP x).cls ≤ 2
  · have hm := fin_mod h
    have hne : ¬ x = 9218868437227405312 := by omega
    rw [order_fin h (by decide +kernel), fcmp_gt, decide_eq_false hne]
    refine decide_eq_false ?_
    rw [fv_pos (r := 9218868437227405311) (by decide), fvI_nz h hx]
    have hmn := Nat.mul_le_mul_right (2 ^ 1074) (nz_le (show x % 9223372036854775808 ≤ 9218868437227405311 by omega))
    split <;> omega
  · have hm : ¬ x % 9223372036854775808 < 9218868437227405312 := fun z => h ((cls_le2 x).2 z)
    show ((Ieee.double.read x).order (Ieee.double.read 9218868437227405311) == some .gt) = _
    rw [read_max]
    unfold Ieee.Format.read
    simp only [double_sign, double_inf, double_bin]
    split
    · omega
    · split
      · simp only [Ieee.Datum.order]
        by_cases hs : x < 9223372036854775808
        · have e : (x / 9223372036854775808 % 2 == 1) = false := by simp; omega
          rw [e, decide_eq_true (by omega)]; rfl
        · have e : (x / 9223372036854775808 % 2 == 1) = true := by simp; omega
          rw [e, decide_eq_false (by omega)]; rfl
      · rw [decide_eq_false (by omega)]; rfl
theorem and_abs (x : Nat) : x &&& (2 ^ IntKind.u64.bits - 1 - 9223372036854775808) = x % 9223372036854775808 := Nat.and_two_pow_sub_one_eq_mod x 63
theorem ngB_lt2 {x : Nat} (h : x < 18446744073709551616) : ngB x < 18446744073709551616 := by unfold ngB; split <;> omega

theorem fAbs_spec (x : Nat) (w : World) (hx : x < 18446744073709551616) : Ret Tryz.prog 211 [.float .f64 x] w fun u w' => u = .float .f64 (x % 9223372036854775808) ∧ w = w' := by
 refine zE1 Tryz.func211 rfl ?_;refine Sr fun _ kh1 => za rfl (zz (kh1 (Sr fun _ kh3 => zm rfl ?_)));refine WL.ev (Ev.ext rfl (ext65 _ _)) rfl ?_;refine WL.ev (Ev.andNotU (a := x) (b := 9223372036854775808) rfl rfl rfl (by simp only [IntKind.bits]; omega) (by decide)) rfl ?_;rw [and_abs];refine WL.ev (Ev.ext rfl (ext87 _ _)) rfl ?_;refine za rfl (zz (kh3 ?_));refine zr (zr1 rfl rfl ?_);exact ⟨congrArg (Value.float .f64) (by first | rfl | omega), rfl⟩

theorem fInf_spec (x : Nat) (s : Int) (w : World) (hx : x < 18446744073709551616) (hs : s = -1 ∨ s = 0 ∨ s = 1) : Ret Tryz.prog 126 [.float .f64 x, .int .i64 s] w fun u w' => u = .bool (decide (isInfP x s)) ∧ w = w' := by
 refine zE2 Tryz.func126 rfl ?_;refine Sr fun _ kh1 => za rfl (zz (kh1 (zc fun _ kh3 => Sr fun _ kh4 => zm rfl (zq rfl rfl (zz (kh4 ?_))))));refine zy rfl ?_ ?_<;>intro hc1<;>try simp only [qs] at hc1
 ·have h0 : s = 0 := hc1
  refine zR fun _ kr6 => ?_;refine zm rfl ?_;refine WL.call hasF211 rfl rfl (fAbs_spec x _ hx) fun v w1 h' => ?_;obtain ⟨rfl, rfl⟩ := h';refine za rfl ?_;refine WL.nil (kr6 _ _ _ (kh3 ?_));refine Sr fun _ kh7 => zm rfl ?_;refine WL.ev (Ev.fgtr rfl rfl) rfl ?_;refine za rfl (zz (kh7 ?_));refine zr (zr1 rfl rfl ?_);refine ⟨congrArg Value.bool ((order_max (by omega)).trans (decide_eq_decide.2 ?_)), rfl⟩;unfold isInfP; rw [if_pos h0]
 ·have h0 : ¬ s = 0 := hc1
  refine Sr fun _ kh9 => zm rfl ?_;refine WL.ev (Ev.lss rfl rfl) rfl ?_;refine zz (kh9 ?_);refine zy rfl ?_ ?_<;>intro hc2<;>try simp only [qs] at hc2
  ·have h1 : s < 0 := hc2
   refine zR fun _ kr11 => ?_;refine zm rfl ?_;refine WL.ev (Ev.fneg rfl) rfl ?_;rw [negFloat_eq hx];refine za rfl ?_;refine WL.nil (kr11 _ _ _ (kh3 ?_));refine Sr fun _ kh12 => zm rfl ?_;refine WL.ev (Ev.fgtr rfl rfl) rfl ?_;refine za rfl (zz (kh12 ?_));refine zr (zr1 rfl rfl ?_);refine ⟨congrArg Value.bool ((order_max (ngB_lt2 hx)).trans (decide_eq_decide.2 ?_)), rfl⟩;unfold isInfP ngB; rw [if_neg h0, if_pos h1]; split <;> omega
  ·have h1 : ¬ s < 0 := by have := hc2; omega
   refine zkk ?_;refine kh3 (Sr fun _ kh14 => zm rfl ?_);refine WL.ev (Ev.fgtr rfl rfl) rfl ?_;refine za rfl (zz (kh14 ?_));refine zr (zr1 rfl rfl ?_);refine ⟨congrArg Value.bool ((order_max hx).trans (decide_eq_decide.2 ?_)), rfl⟩;unfold isInfP; rw [if_neg h0, if_neg h1]

end

/- Strings: appended to bytes, made of bytes; rows of records. No condition. -/
section
open Go Sx Wd

/-- A string's bytes; a string of bytes. -/
def sB (s : ByteArray) : List Nat := s.data.toList.map UInt8.toNat
def bA (l : List Nat) : ByteArray := ⟨(l.map UInt8.ofNat).toArray⟩
namespace Sx
section
variable {P : Program} {n : Nat} {D : List Deferred} {s : Sl} {w : World} {ops : Array Oper} {K : KK} {rest : List Oper} {ty : TypeId} {pos : String} {af : Array Edge} {d : Nat} {x y : Operand}
end
end Sx
section
variable {w w' : World} {e es lo m : Nat} {X : List Nat} {v : Value} {l : List Value}
end
end

/- The ends of a shard that is read: end, ends. No condition. -/
section
open Go Sx Wd Fl

/-- May x be the end on a side? -/
def endP (x : Nat) (side : Int) (there beyond noughts : Nat) (S : Sh) : Prop :=
  if 0 < there then isInfP x side else if S.fin = 0 then 0 < beyond ∧ isInfP x (-side) else if isInfP x 0 then False else if 0 < S.pln then True else x % 9223372036854775808 = 0 ∧ (9223372036854775808 ≤ x ↔ (side < 0 ↔ 0 < noughts))
instance (x : Nat) (side : Int) (a b c : Nat) (S : Sh) : Decidable (endP x side a b c S) := by unfold endP; exact inferInstance
def endsP (S : Sh) : Prop := ¬ (isNaN S.lo = true ∨ isNaN S.hi = true ∨ key S.hi < key S.lo) ∧ endP S.lo (-1) S.s.dn S.s.up S.s.mi S ∧ endP S.hi 1 S.s.up S.s.dn S.s.pl S
instance (S : Sh) : Decidable (endsP S) := by unfold endsP; exact inferInstance
end

/- The ends of a shard that is read: ends. No condition. -/
section
open Go Sx Wd Fl

end

/- The sums of a shard that is read. No condition. -/
section
open Go Sx Wd Fl

def cmpY (x y : Dy) : Int := cmpD x.neg x.m x.e y.neg y.m y.e
def topD : Dy := ⟨false, 1, 2048⟩
/-- May the sums be those of so many? -/
def sumsP (S : Sh) : Prop :=
  if S.pln = 0 then S.V.m = 0 ∧ S.Q.m = 0 else
    ¬ (sgD S.Q.neg S.Q.m ≤ 0 ∨ S.Q.e < -2148 ∨ (S.V.m ≠ 0 ∧ S.V.e < -1074)) ∧ cmpY S.Q ((mulD (intD S.pln) topD).getD Dy.zero) < 0 ∧ cmpY ((mulD S.V S.V).getD Dy.zero) ((mulD (intD S.pln) S.Q).getD Dy.zero) ≤ 0
instance (S : Sh) : Decidable (sumsP S) := by unfold sumsP; exact inferInstance
end

/- A shard that is read: what it is. No condition. -/
section
open Go Sx Wd Fl

/-- Counts that are read: they, where it stands then, whether something was wrong. -/
def rdK (bs : List Nat) : Nat → List Nat × Nat × Bool
  | 0 => ([], 0, false)
  | n + 1 => ((rdK bs n).1 ++ [(rdC bs (rdK bs n).2.1 (rdK bs n).2.2).1], (rdC bs (rdK bs n).2.1 (rdK bs n).2.2).2)
/-- The ends, if there are some. -/
def rdE (sm : Bool) (bs : List Nat) (p : Nat) (bad : Bool) : Nat × Nat × Nat × Bool := if sm = true then ((rdN bs p bad 8).1, (rdN bs (rdN bs p bad 8).2.1 (rdN bs p bad 8).2.2 8).1, (rdN bs (rdN bs p bad 8).2.1 (rdN bs p bad 8).2.2 8).2) else (0, 0, p, bad)
def spOf (l : List Nat) : SP := ⟨l.getD 0 0, l.getD 1 0, l.getD 2 0, l.getD 3 0, l.getD 4 0, l.getD 5 0⟩
def shOf (s : SP) (v q : Bool × List Nat × Int × Nat × Bool) (lo hi : Nat) : Sh := ⟨s, ⟨v.1, val v.2.1, v.2.2.1⟩, ⟨q.1, val q.2.1, q.2.2.1⟩, lo, hi⟩
def decE (bs : List Nat) (s : SP) (v q : Bool × List Nat × Int × Nat × Bool) (e : Nat × Nat × Nat × Bool) : Option Sh :=
  if e.2.2.2 = true ∨ 0 < bs.length - e.2.2.1 ∨ ¬ sumsP (shOf s v q e.1 e.2.1) ∨ ((shOf s v q e.1 e.2.1).some ∧ ¬ endsP (shOf s v q e.1 e.2.1)) then none else some (shOf s v q e.1 e.2.1)
def decV (bs : List Nat) (s : SP) (v q : Bool × List Nat × Int × Nat × Bool) : Option Sh := decE bs s v q (rdE (decide (s.na < s.al)) bs q.2.2.2.1 q.2.2.2.2)
def decD (bs : List Nat) (s : SP) (v : Bool × List Nat × Int × Nat × Bool) : Option Sh := decV bs s v (rdD bs v.2.2.2.1 v.2.2.2.2)
/-- The shard that bytes are, or none. -/
def decS (bs : List Nat) : Option Sh :=
  if (rdK bs 6).2.2 = true ∨ (Sh.mk (spOf (rdK bs 6).1) Dy.zero Dy.zero 0 0).fin < ((spOf (rdK bs 6).1).mi : Int) + (spOf (rdK bs 6).1).pl then none else decD bs (spOf (rdK bs 6).1) (rdD bs (rdK bs 6).2.1 (rdK bs 6).2.2)
end

/- A shard's bytes, read again, are the shard. No condition. -/
section
open Go Sx Wd Fl

/-- From p on the bytes read r. -/
def AtB (bs : List Nat) (p : Nat) (r : List Nat) : Prop := p ≤ bs.length ∧ bs.drop p = r
theorem wd_last {n : Nat} (h : n ≠ 0) : (wd n).getD ((wd n).length - 1) 0 ≠ 0 := by
  induction n using Nat.strongRecOn with
  | _ n ih =>
    rw [wd_pos h]
    by_cases h2 : n / 4294967296 = 0
    · rw [h2, wd_zero]; simp; omega
    · have h3 := ih _ (by omega) h2
      have h4 : 0 < (wd (n / 4294967296)).length := by rw [wd_pos h2]; simp
      rw [List.length_cons, show (wd (n / 4294967296)).length + 1 - 1 = ((wd (n / 4294967296)).length - 1) + 1 by omega]
      simpa using h3
end

/- Store: sizes, sums, records as bytes. No condition. -/
section
open Go Sx Wd Fl

/-- The sum of bytes. -/
def fnv (l : List Nat) : Nat := l.foldl (fun h c => (h ^^^ c) * 16777619 % 4294967296) 2166136261
end

/- Store: a record as bytes. No condition. -/
section
open Go Sx Wd Fl

end

/- Logs in memory. No condition. -/
section
open Go Sx Wd Fl

/-- A record that is kept: its name, its data, the slice that holds them. -/
abbrev RG := ByteArray × List Nat × Value
def recC (G : List RG) : List Value := (G.map fun g => [Value.string g.1, g.2.2]).flatten
/-- A record's size; all records'. -/
def szG (g : RG) : Nat := 8 + (sB g.1).length + g.2.1.length
def totG (G : List RG) : Nat := (G.map szG).sum
/-- A log in memory: its records. -/
structure LgM (lo : Nat) (w : World) (b : Nat) (G : List RG) : Prop where
  ex : ∃ v, BK w b 194 [v, .int .i64 ((totG G : Nat) : Int)] ∧ GRc w 121 2 lo [] v G.length (recC G)
  dat : ∀ g ∈ G, GR w 5 u8v 0 [] g.2.2 g.2.1 ∧ B8 g.2.1
  tot : totG G ≤ 1048576
namespace Sx
section
variable {P : Program} {n : Nat} {D : List Deferred} {s : Sl} {w : World} {ops : Array Oper} {K : KK} {rest : List Oper} {ty : TypeId} {pos : String} {af : Array Edge} {d : Nat} {x y : Operand} {S : World → Prop} {z fuel : Nat} {listed : Array Bool}
end
end Sx

end

/- Store: New, add. No condition. -/
section
open Go Sx Wd Fl

/-- All data lie as they lie. -/
def DatM (w : World) (G : List RG) : Prop := ∀ g ∈ G, GR w 5 u8v 0 [] g.2.2 g.2.1 ∧ B8 g.2.1
end

/- Store: Append, Bytes. No condition. -/
section
open Go Sx Wd Fl

end

/- A shard that is read: Decode. No condition. -/
section
open Go Sx Wd Fl

end

/- Store: reading a record. No condition. -/
section
open Go Sx Wd Fl

/-- What reading the first record of some bytes comes to: 0, its name, its data; or why there is none. -/
def rdRec (bs : List Nat) : Nat × List Nat × List Nat :=
  if bs.getD 0 0 < 1 ∨ 64 < bs.getD 0 0 then (1, [], []) else if bs.length < 4 + bs.getD 0 0 then (2, [], []) else
  if bs.length < 4 + bs.getD 0 0 + leV ((bs.drop (1 + bs.getD 0 0)).take 3) + 4 then (2, [], []) else
  if (bs.drop (4 + bs.getD 0 0 + leV ((bs.drop (1 + bs.getD 0 0)).take 3))).take 4 ≠ leB (fnv (bs.take (4 + bs.getD 0 0 + leV ((bs.drop (1 + bs.getD 0 0)).take 3)))) 4 then (3, [], []) else
  if decS ((bs.drop (4 + bs.getD 0 0)).take (leV ((bs.drop (1 + bs.getD 0 0)).take 3))) = none then (4, [], []) else (0, (bs.drop 1).take (bs.getD 0 0), (bs.drop (4 + bs.getD 0 0)).take (leV ((bs.drop (1 + bs.getD 0 0)).take 3)))
/-- The store's errors lie where they lie. -/
structure GE (w : World) (ev : Nat → Value) : Prop where
  a : w.cell? ⟨2, 0, none⟩ = some (ev 1)
  b : w.cell? ⟨3, 0, none⟩ = some (ev 2)
  c : w.cell? ⟨4, 0, none⟩ = some (ev 3)
  d : w.cell? ⟨5, 0, none⟩ = some (ev 4)
namespace Sx
section
variable {P : Program} {s : Sl} {w : World} {ty : TypeId} {x : Operand}
section
variable {P : Program} {ops : Array Oper} {K : KK} {fuel : Nat} {listed : Array Bool} {n : Nat} {D : List Deferred} {s : Sl} {w : World} {ty : TypeId} {pos : String} {af : Array Edge}
end
end
end Sx

end

/- A range over a function: its rounds, the calls of yield. No condition. -/
namespace Sx
open Go

/-- Every function is let in; the frame is a round's, or a plain one. -/
abbrev RO (r : Option Nat) : Fence := { Fence.wide with round := r }
def noDef (l : List Oper) : Bool := l.all fun o => match o.op with
  | .defer _ => false
  | _ => true
section
variable {P : Program} {r : Option Nat} {m : Nat}
/-! ### Code in a round's frame -/
def CWI (r : Option Nat) (P : Program) (c : Code) (A : AQ) (n : Nat) (D : List Deferred) (s : Sl) (w : World) : Prop := ∀ a, Fr n D s a → c.wpIn (RO r) 3 P (liftA n A) a w
def WLI (r : Option Nat) (P : Program) (ops : Array Oper) (K : KK) (l : List Oper) (n : Nat) (D : List Deferred) (s : Sl) (w : World) : Prop := ∀ a, Fr n D s a → wpListIn (RO r) 3 P ops (post n K) l a w
variable {A : AQ} {n : Nat} {D : List Deferred} {s : Sl} {w : World} {ops : Array Oper} {K : KK}
/-! ### A call of yield -/
variable {rest : List Oper} {ty : TypeId} {pos : String} {af : Array Edge} {d : Nat}
/-! ### The loop's record -/
structure LoopAt (n : Nat) (s : Sl) (ps : Array Tmp) (assign body : Code) (st : LoopState) (pend : Option Code) (l k : Nat) (w : World) : Prop where
  rec_ : ∃ x : Loop, w.heap[l]? = some (.loop x) ∧ x.state = st ∧ x.pending = pend ∧ x.params = ps ∧ x.assign = assign ∧ x.body = body ∧ Fr n [] s { tmps := x.tmps, defers := [] }
  dfr : w.heap[k]? = some (.deferred (some []))
variable {ps : Array Tmp} {assign body : Code} {st : LoopState} {pend : Option Code} {l k : Nat}
abbrev mk_ (k : Nat) : Deferred := { target := .collected k, args := #[] }
/-! ### A function that holds such a statement -/
def bodyM (P : Program) (fn : Func) (n : Nat) (R : Value → World → Prop) : AQ
  | .normal, D, s, w | .ret, D, s, w => (D = [] ∧ ∃ v, ResS P fn n D s w v ∧ R v w) ∨ (∃ k, D = [mk_ k] ∧ w.heap[k]? = some (.deferred (some [])) ∧ ∀ w', Chg [k] w w' → ∃ v, ResS P fn n D s w' v ∧ R v w')
  | _, _, _, _ => False
end
end Sx

/- Store: walk. No condition. -/
section
open Go Sx Wd Fl

namespace Sx
section
variable {P : Program} {s : Sl} {w : World} {ty : TypeId} {x : Operand}
end
end Sx
/-- Records that were read, up to place p. -/
inductive Wk (bs : List Nat) : List (ByteArray × List Nat) → Nat → Prop
  | nil : Wk bs [] 0
  | step {R : List (ByteArray × List Nat)} {p : Nat} {nm dat : List Nat} : Wk bs R p → p < bs.length → rdRec (bs.drop p) = (0, nm, dat) → Wk bs (R ++ [(bA nm, dat)]) (p + (8 + nm.length + dat.length))
end

/- Store: what Replay needs. No condition. -/
section
open Go Sx Wd Fl

/-- No cells lie there. -/
def NoC (w : World) (k : Nat) : Prop := ∀ c e z, w.heap[k]? ≠ some (.cells c e z)
section
variable {w w' : World} {k : Nat}
end
namespace Sx
section
variable {P : Program} {n : Nat} {D : List Deferred} {s : Sl} {w : World} {ty : TypeId} {x : Operand} {fn : Func} {R : Value → World → Prop}
end
end Sx

end

/- Store: Replay of bytes that are whole records. No condition. -/
section
open Go Sx Wd Fl

def tellG (G : List RG) : List (ByteArray × List Nat) := G.map fun g => (g.1, g.2.1)
/-- Replay's loop between two rounds. -/
structure RepJ (w : World) (bl b2 b3 b4 b5 cb m cl : Nat) (al : Option Addr) (LA : LoopState → Option Code → World → Prop) (R : List (ByteArray × List Nat)) (p : Nat) (W : World) : Prop where
  ex : ∃ G, tellG G = R ∧ LgM w.heap.size W bl G ∧ totG G = p
  la : LA .ready none W
  h2 : BK W b2 46 [.pointer none]
  h3 : BK W b3 3 [.int .i64 0]
  h4 : BK W b4 47 [.int .i64 0]
  h5 : BK W b5 46 [.pointer (some ⟨bl, 0, none⟩)]
  hc : BK W cb 35 [.slice al m cl]
  ch : Chg [] w W
structure RepE (lo bl k : Nat) (G : List RG) (w : World) : Prop where
  lg : LgM lo w bl G
  kd : w.heap[k]? = some (.deferred (some []))
end

/- Store: Total. No condition. -/
section
open Go Sx Wd Fl

namespace Sx
end Sx
end

/- Package steelyardlaw22: one. No condition. -/
section
open Go Sx Wd Fl

end

/- What a shard of some numbers is: by its list. No condition. -/
section
open Go Sx Wd Fl
set_option exponentiation.threshold 9000

/-- How many numbers of a kind there are. -/
def cntK (j : Nat) (L : List Nat) : Nat := (L.filter fun x => kindP x == j).length
/-- A number's square, in units of two to the power of -2148. -/
def sqI (x : Nat) : Int := if kindP x = 0 then thv (prodP x x) else 0
def sqS (L : List Nat) : Int := (L.map sqI).sum
end

/- A shard of some numbers is one that its bytes give back. No condition. -/
section
open Go Sx Wd Fl

/-- A shard of the numbers of a list. -/
structure Mk (S : Sh) (L : List Nat) : Prop where
  w : ∀ x ∈ L, x < 18446744073709551616
  n : L.length ≤ 1099511627776
  s : S.s = ⟨cntK 5 L, cntK 3 L, cntK 4 L, cntK 1 L, cntK 2 L, L.length⟩
  V : S.V = sumD (sumI L)
  Q : S.Q = sumD (sqS L)
  e : cntK 5 L = L.length ∨ (S.lo ∈ L ∧ kindP S.lo ≠ 5 ∧ S.hi ∈ L ∧ kindP S.hi ≠ 5 ∧ ∀ y ∈ L, kindP y ≠ 5 → key S.lo ≤ key y ∧ key y ≤ key S.hi)
/-- Where all are no numbers, the ends are noughts. -/
def Sh.noE (S : Sh) : Prop := ¬ S.some → S.lo = 0 ∧ S.hi = 0
end

/- A shard of some numbers: its bytes give it back. No condition. -/
section
open Go Sx Wd Fl
set_option exponentiation.threshold 9000

theorem kd {x : Nat} (hx : x < 18446744073709551616) : (kindP x = 5 ↔ 9218868437227405312 < x % 9223372036854775808) ∧ (kindP x = 4 ↔ x = 18442240474082181120) ∧ (kindP x = 3 ↔ x = 9218868437227405312) ∧ (kindP x = 1 ↔ x = 9223372036854775808) ∧ (kindP x = 2 ↔ x = 0) := by
  rw [kindP_bits hx]
  refine ⟨?_, ?_, ?_, ?_, ?_⟩ <;> (repeat' split) <;> constructor <;> intro h <;> omega
end

/- A sum told two ways: what is counted, one answer only. No condition. -/
section
open Go Sx Wd

end

/- What moment.Var says of a list: plain. No condition. -/
section
open Go Sx Wd
set_option exponentiation.threshold 300000

/-- Two small forms have a product. -/
structure Sm1 (d : Dy) : Prop where
  ok : d.ok
  m : ∀ c, c = 4300 → d.m < 2 ^ c
  e : -2500 ≤ d.e ∧ d.e ≤ 4300
end

/- Package moment: of, total and what it adds. No condition. -/
section
open Go Sx Wd Fl

namespace Sx
section
variable {P : Program} {n : Nat} {D : List Deferred} {s : Sl} {w : World} {ops : Array Oper} {K : KK} {rest : List Oper} {ty : TypeId} {pos : String} {af : Array Edge} {d : Nat} {x y : Operand} {S : World → Prop} {fuel : Nat} {listed : Array Bool} {z : Nat}
end
end Sx
end

/- Medians: Median. No condition. -/
section
open Go Sx Wd Fl

structure KIs (l : List Nat) (w0 : World) (i : Nat) (w : World) : Prop where
  hi : i ≤ l.length
  ch : Chg [] w0 w
theorem fin_inf {x : Nat} (h : (splitP x).cls ≤ 2) {s : Int} (hs : s = -1 ∨ s = 0 ∨ s = 1) : ¬ isInfP x s := by
  rw [cls_le2] at h
  unfold isInfP
  rcases hs with rfl | rfl | rfl
  · rw [if_neg (by decide), if_pos (by decide)]; omega
  · rw [if_pos rfl]; omega
  · rw [if_neg (by decide), if_neg (by decide)]; omega
theorem finL_get {l : List Nat} (h : finL l) {i : Nat} (hi : i < l.length) : (splitP (l.getD i 0)).cls ≤ 2 := h _ (by rw [List.getD_eq_getElem?_getD, List.getElem?_eq_getElem hi]; exact List.getElem_mem _)

theorem IndexNaN_spec (v : Value) (l : List Nat) (w : World) (hv : NF w v l) (hf : finL l) : Ret Tryz.prog 210 [v, .func (.func 124) #[] #[]] w fun u w' => u = .int .i64 (-1) ∧ Chg [] w w' := by
 obtain ⟨⟨al, cl, rfl, hcap, hrl⟩, hWl, hll⟩ := hv;have hch : Chg [] w w := Chg.refl _ _;refine zE2 Tryz.func210 rfl ?_;refine Sr fun _ kh1 => za rfl (zz (kh1 (zc fun _ kh3 => Sr fun _ kh4 => zm rfl (zn rfl (zm rfl (zz (kh4 ?_)))))));refine CW.block ?_;refine CW.loop (S := fun i : Nat => [(0, .slice al l.length cl), (1, .func (.func 124) #[] #[]), (7, .int .i64 (l.length : Int)), (8, .int .i64 (i : Int))]) (Inv := KIs l w) (mu := fun i => l.length - i) (0) ?_ ?_ ?_
 ·exact ⟨Nat.zero_le _, hch⟩
 ·exact SLp
 ·rintro i wr ⟨hi, hch⟩;refine Sr fun _ kh6 => ?_;refine WL.ev (Ev.lss rfl rfl) rfl ?_;refine zz (kh6 (zc fun _ kh8 => ?_));refine zy rfl ?_ ?_<;>intro hc1<;>try simp only [qs] at hc1
  ·have hfx := finL_get hf (i := i) (by omega);refine zkk ?_
   refine kh8 (zc fun _ kh9 => ?_);refine CW.block ?_;refine Sr fun _ kh10 => zm rfl (za rfl (zz (kh10 (Sr fun _ kh12 => zm rfl (zm rfl (zm rfl ?_))))));refine WL.ev (Ev.ixR (i) rfl rfl (hrl.keep0 hch) (by omega) (by omega) (by simp; omega)) rfl ?_;refine WL.ev (Ev.load rfl rfl ((hrl.keep0 hch).f64 (by first | omega | (simp; omega)))) rfl ?_;refine WL.callV (cap := []) hasF124 rfl rfl rfl (by rw [List.append_nil]; exact math_IsNaN_spec (l.getD i 0) _) fun v16 w16 h16 => ?_;obtain ⟨rfl, rfl⟩ := h16;rw [fin_num hfx];refine zz (kh12 ?_);refine CW.condF rfl ?_;refine zkk ?_;refine kh9 ?_;refine zR fun _ kr14 => ?_;(first | refine zi rfl rfl ?_ | refine zo rfl rfl ?_);refine zm rfl ?_;refine WL.nil (kr14 _ _ _ ?_);refine ⟨rfl, i + 1, ?_, ?_, ?_⟩
   ·exact SLp
   ·exact ⟨by omega, hch⟩
   ·show l.length - (i + 1) < l.length - i; omega
  ·refine CW.exit ?_
   refine kh3 (Sr fun _ kh15 => za rfl (zz (kh15 ?_)));refine zr (zr1 rfl rfl ?_);exact ⟨rfl, hch⟩

theorem ContainsNaN_spec (v : Value) (l : List Nat) (w : World) (hv : NF w v l) (hf : finL l) : Ret Tryz.prog 123 [v, .func (.func 124) #[] #[]] w fun u w' => u = .bool false ∧ Chg [] w w' := by
 have hch : Chg [] w w := Chg.refl _ _;refine zE2 Tryz.func123 rfl ?_;refine Sr fun _ kh1 => za rfl (zz (kh1 (Sr fun _ kh3 => zm rfl (zm rfl ?_))));refine WL.call hasF210 rfl rfl (IndexNaN_spec v l _ hv hf) fun v w1 h' => ?_;obtain ⟨rfl, hC7⟩ := h';have hch := hch.ta hC7;refine WL.ev (Ev.geq rfl rfl) rfl ?_;refine za rfl (zz (kh3 ?_));refine zr (zr1 rfl rfl ?_);refine ⟨?_, hch⟩
 rfl

theorem bitsSame_spec (x y : Nat) (w : World) (hx : (splitP x).cls ≤ 2) (hy : (splitP y).cls ≤ 2) : Ret Tryz.prog 125 [.float .f64 x, .float .f64 y] w fun u w' => u = .bool (decide (x = y)) ∧ w = w' := by
 refine zE2 Tryz.func125 rfl ?_;refine Sr fun _ kh1 => za rfl (zz (kh1 (Sr fun _ kh3 => zm rfl ?_)));refine WL.ev (Ev.ext rfl (ext65 _ _)) rfl ?_;refine zm rfl ?_;refine WL.ev (Ev.ext rfl (ext65 _ _)) rfl ?_;refine zq rfl rfl (zm rfl ?_);refine zb ?_ ?_<;>intro hg1<;>try simp only [qs] at hg1
 ·refine zv rfl (zv rfl (zv rfl (zv rfl (zu rfl (zu rfl (zu rfl (zv rfl (zt rfl rfl (za rfl (zz (kh3 ?_)))))))))));refine zr (zr1 rfl rfl ?_);refine ⟨congrArg Value.bool ?_, rfl⟩
  first | (simp_all; done) | (refine decide_eq_decide.2 ?_; omega) | (refine (decide_eq_true ?_).symm; omega) | (refine (decide_eq_false ?_).symm; omega)
 ·refine zw rfl (zm rfl (zw rfl (zm rfl (zw rfl ?_))));refine WL.ev (Ev.fneq rfl rfl) rfl ?_
  rw [show (FloatKind.f64.format.order x x != some .eq) = false from (order_self x).trans (fin_num hx)];refine zw rfl (zm rfl (zv rfl (zv rfl (zv rfl (zw rfl (ze rfl rfl (ze rfl rfl (za rfl (zz (kh3 ?_))))))))));refine zr (zr1 rfl rfl ?_);refine ⟨congrArg Value.bool ?_, rfl⟩
  first | (simp_all; done) | (refine decide_eq_decide.2 ?_; omega) | (refine (decide_eq_true ?_).symm; omega) | (refine (decide_eq_false ?_).symm; omega)

theorem Median_spec (v : Value) (l : List Nat) (mode : Int) (w : World) (hv : NF w v l) (hf : finL l) (hg : GW w) : Ret Tryz.prog 41 [v, .int .i64 mode] w fun u w' => (∃ b e, u = .tuple [.float .f64 b, .int .i64 e].toArray ∧ medAll l mode b e) ∧ Chg [] w w' := by
 have hch : Chg [] w w := Chg.refl _ _;have hv0 := hv;have hg0 := hg;obtain ⟨⟨al, cl, rfl, hcap, hrl⟩, hWl, hll⟩ := id hv;refine zE2 Tryz.func41 rfl ?_;refine Sr fun _ kh1 => za rfl (za rfl (zz (kh1 (zc fun _ kh3 => ?_))));refine CW.block ?_;refine CW.seqM 18 (decide (¬ (0 ≤ mode ∧ mode ≤ 4))) ?_ ?_
 ·refine zR fun _ kr4 => ?_;refine zm rfl ?_;refine WL.ev (Ev.lss rfl rfl) rfl ?_;refine zm rfl ?_;refine zb ?_ ?_<;>intro hg1<;>try simp only [qs] at hg1
  ·refine zv rfl (zv rfl (zt rfl rfl (za rfl ?_)));refine WL.nil (kr4 _ _ _ ?_);refine ⟨rfl, rfl, Subs.consB rfl ?_ ?_⟩
   ·first | (simp_all; done) | (refine decide_eq_decide.2 ?_; omega) | (refine (decide_eq_true ?_).symm; omega) | (refine (decide_eq_false ?_).symm; omega)
   ·exact SMg
  ·refine zw rfl (zm rfl (zw rfl ?_));refine WL.ev (Ev.gtr rfl rfl) rfl ?_
   refine ze rfl rfl (za rfl ?_);refine WL.nil (kr4 _ _ _ ?_);refine ⟨rfl, rfl, Subs.consB rfl ?_ ?_⟩
   ·first | (simp_all; done) | (refine decide_eq_decide.2 ?_; omega) | (refine (decide_eq_true ?_).symm; omega) | (refine (decide_eq_false ?_).symm; omega)
   ·exact SMg
 ·refine zy rfl ?_ ?_<;>intro hc2<;>try simp only [qs] at hc2
  ·have hm : ¬ (0 ≤ mode ∧ mode ≤ 4) := hc2
   refine Sr fun _ kh5 => za rfl (za rfl (zz (kh5 ?_)));refine zr (zr2 rfl rfl rfl ?_);refine ⟨⟨_, _, rfl, ?_⟩, hch⟩;exact .inl ⟨hm, rfl, rfl⟩
  ·have hm : 0 ≤ mode ∧ mode ≤ 4 := by have := hc2; omega
   refine Sr fun _ kh7 => zm rfl (zn rfl ?_);refine WL.ev (Ev.gtr rfl rfl) rfl ?_;refine za rfl (zz (kh7 ?_));refine zy rfl ?_ ?_<;>intro hc3<;>try simp only [qs] at hc3
   ·have hl : 65536 < l.length := by have := hc3; omega
    refine Sr fun _ kh9 => za rfl (za rfl (zz (kh9 ?_)));refine zr (zr2 rfl rfl rfl ?_);refine ⟨⟨_, _, rfl, ?_⟩, hch⟩;exact .inr ⟨hm, .inl ⟨hl, rfl, rfl⟩⟩
   ·have hl : l.length ≤ 65536 := by have := hc3; omega
    refine Sr fun _ kh11 => zm rfl ?_;refine WL.call hasF123 rfl rfl (ContainsNaN_spec _ l _ (hv0.keep0 hch) hf) fun v w1 h' => ?_;obtain ⟨rfl, hC⟩ := h';have hch := hch.ta hC;refine za rfl (zz (kh11 ?_));refine CW.condF rfl ?_;refine Sr fun _ kh13 => zm rfl (zn rfl (zq rfl rfl (za rfl (zz (kh13 ?_)))));refine zy rfl ?_ ?_<;>intro hc4<;>try simp only [qs] at hc4
    ·have hn : l = [] := List.length_eq_zero_iff.1 (by omega);refine Sr fun _ kh15 => za rfl (za rfl (zz (kh15 ?_)));refine zr (zr2 rfl rfl rfl ?_);refine ⟨⟨_, _, rfl, ?_⟩, hch⟩;exact .inr ⟨hm, .inr ⟨hl, .inl ⟨hn, rfl, rfl⟩⟩⟩
    ·have hn0 : l.length ≠ 0 := by omega
     have hn : l ≠ [] := fun q => hn0 (by rw [q]; rfl);have hlen := sortP_length l;refine zkk ?_;refine kh3 (Sr fun _ kh17 => zm rfl ?_);refine WL.call hasF37 rfl rfl (rankSort_spec _ l _ (hv0.keep0 hch) (by omega)) fun v w2 h' => ?_;obtain ⟨⟨bs, l', rfl, hFB, hp, hso, hgs⟩, hC⟩ := h';rw [sort_is hp hso hf hWl] at hFB;obtain ⟨s, hs⟩ : ∃ s, s = sortP l := ⟨_, rfl⟩;rw [← hs] at hFB hlen;have hrs := hFB.row;have hch := hch.ta hC;refine za rfl (zz (kh17 (Sr fun _ kh19 => zm rfl (zn rfl (za rfl (zz (kh19 (zc fun _ kh21 => ?_))))))));refine CW.regionSC hmix (by kernel_rfl) fun kR22 kr22 hdr => ?_;have hch := hch.ta hdr;refine ym rfl (ym rfl ?_)
     first | refine WS.ev (Ev.subIn rfl rfl (by omega)) rfl ?_ | refine WS.ev (Ev.sub rfl rfl) rfl ?_
     first | refine WS.ev (Ev.quoIn rfl rfl (by omega) (by simp only [IntKind.max, IntKind.signed, IntKind.bits]; omega) (by omega)) rfl ?_ | refine WS.ev (Ev.quo rfl rfl (by omega)) rfl ?_
     refine WS.ev (Ev.ixR (((l.length - 1) / 2)) rfl rfl hrs (by omega) (by omega) (by simp; omega)) rfl ?_;refine WS.ev (Ev.load rfl rfl (hrs.f64 (by first | omega | (simp; omega)))) rfl ?_;refine ym rfl (ym rfl ?_)
     first | refine WS.ev (Ev.quoIn rfl rfl (by omega) (by simp only [IntKind.max, IntKind.signed, IntKind.bits]; omega) (by omega)) rfl ?_ | refine WS.ev (Ev.quo rfl rfl (by omega)) rfl ?_
     refine WS.ev (Ev.ixR ((l.length / 2)) rfl rfl hrs (by omega) (by omega) (by simp; omega)) rfl ?_;refine WS.ev (Ev.load rfl rfl (hrs.f64 (by first | omega | (simp; omega)))) rfl ?_;refine ya rfl (ya rfl ?_);refine WS.nil (kr22 _ _ ?_);have hx : (splitP (s.getD ((l.length - 1) / 2) 0)).cls ≤ 2 ∧ s.getD ((l.length - 1) / 2) 0 < 18446744073709551616 := by rw [hs]; exact sort_fin hf hWl hn _ (by omega)
     have hy : (splitP (s.getD (l.length / 2) 0)).cls ≤ 2 ∧ s.getD (l.length / 2) 0 < 18446744073709551616 := by rw [hs]; exact sort_fin hf hWl hn _ (by omega)
     obtain ⟨x, hX⟩ : ∃ x, x = s.getD ((l.length - 1) / 2) 0 := ⟨_, rfl⟩;obtain ⟨y, hY⟩ : ∃ y, y = s.getD (l.length / 2) 0 := ⟨_, rfl⟩;rw [← hX] at hx;rw [← hY] at hy;rw [← hX, ← hY];obtain ⟨hx, hx64⟩ := hx;obtain ⟨hy, hy64⟩ := hy;have hM : ∀ b e, (x = y ∧ b = x ∧ e = 0) ∨ (x ≠ y ∧ RoundR (halfD (fvI x + fvI y)) mode b e) → medR (sortP l) mode b e := fun b e q => by unfold medR; rw [← hs, hlen, ← hX, ← hY]; exact q
     refine kh21 (zc fun _ kh23 => ?_);refine CW.block ?_;refine Sr fun _ kh24 => zm rfl (zm rfl ?_);refine WL.call hasF125 rfl rfl (bitsSame_spec x y _ hx hy) fun v w3 h' => ?_;obtain ⟨rfl, rfl⟩ := h';refine za rfl (zz (kh24 ?_));refine zy rfl ?_ ?_<;>intro hc5<;>try simp only [qs] at hc5
     ·have hxy : x = y := (by simpa using hc5);refine Sr fun _ kh26 => zm rfl (za rfl (za rfl (zz (kh26 ?_))));refine zr (zr2 rfl rfl rfl ?_);refine ⟨⟨_, _, rfl, ?_⟩, hch⟩;exact .inr ⟨hm, .inr ⟨hl, .inr ⟨hn, hM _ _ (.inl ⟨hxy, rfl, rfl⟩)⟩⟩⟩
     ·have hxy : ¬ x = y := by simpa using hc5
      have hin := add_in x y;obtain ⟨d, hd⟩ := half_some hin;have hokx := rsumD_ok (fvI_in x);have hoky := rsumD_ok (fvI_in y);have hoks := sumD_ok hin.1 hin.2;have hokd : d.ok := formD_ok hd;refine Sr fun _ kh28 => zm rfl ?_;refine WL.call hasF126 rfl rfl (fInf_spec x (-1) _ hx64 (by omega)) fun v w4 h' => ?_;obtain ⟨rfl, rfl⟩ := h';rw [decide_eq_false (fin_inf hx (by omega))];refine zm rfl (zv rfl (zv rfl (ze rfl rfl (za rfl (zz (kh28 ?_))))));refine CW.condF rfl ?_;refine Sr fun _ kh30 => zm rfl ?_;refine WL.call hasF126 rfl rfl (fInf_spec x 0 _ hx64 (by omega)) fun v w5 h' => ?_;obtain ⟨rfl, rfl⟩ := h';rw [decide_eq_false (fin_inf hx (by omega))];refine za rfl (zz (kh30 ?_));refine CW.condF rfl ?_;refine Sr fun _ kh32 => zm rfl ?_;refine WL.call hasF126 rfl rfl (fInf_spec y 0 _ hy64 (by omega)) fun v w6 h' => ?_;obtain ⟨rfl, rfl⟩ := h';rw [decide_eq_false (fin_inf hy (by omega))];refine za rfl (zz (kh32 ?_));refine CW.condF rfl ?_;refine zkk ?_;refine kh23 (Sr fun _ kh34 => zm rfl ?_);refine WL.call hasF127 rfl rfl (dOf_spec x _ hx64 (hg0.keep0 hch)) fun v w7 h' => ?_;obtain ⟨hD, hC⟩ := h';obtain ⟨-, ra, rfl, hNra⟩ := hD.resolve_right (fun q => q.1 hx);have hora := hNra.one;have hch := hch.ta hC;refine zm rfl (zx rfl rfl (zx rfl rfl ?_));refine zAh rfl rfl hch fun b10 wm10 hb10 hcm10 hge10 hgehch10 hch => ?_;have hNra := hNra.keep0 hcm10;refine zss rfl rfl ao hb10 rfl fun ws1 hb10_ hcs1 => ?_;(try simp only [Sx.splice, qt] at hb10_);have hch := hch.s1 hcs1;have hNra := hNra.keepBK hb10 hcs1 an;have hb10 := hb10_;refine za rfl (zz (kh34 (Sr fun _ kh36 => zm rfl ?_)));refine WL.call hasF127 rfl rfl (dOf_spec y _ hy64 (hg0.keep0 hch)) fun v w8 h' => ?_;obtain ⟨hD, hC⟩ := h';obtain ⟨-, rb, rfl, hNrb⟩ := hD.resolve_right (fun q => q.1 hy);have horb := hNrb.one;have hch := hch.ta hC;have hb10 := hb10.k0 hC;have hNra := hNra.keep0 hC;refine zm rfl (zx rfl rfl (zx rfl rfl ?_));refine zAh rfl rfl hch fun b12 wm12 hb12 hcm12 hge12 hgehch12 hch => ?_;have hNra := hNra.keep0 hcm12;have hNrb := hNrb.keep0 hcm12;have hneb1012 := zdd hb10.lt hge12;have hb10 := hb10.k0 hcm12;refine zss rfl rfl ao hb12 rfl fun ws2 hb12_ hcs2 => ?_;(try simp only [Sx.splice, qt] at hb12_);have hch := hch.s1 hcs2;have hb10 := hb10.kq hcs2;have hNra := hNra.keepBK hb12 hcs2 an;have hNrb := hNrb.keepBK hb12 hcs2 an;have hb12 := hb12_;refine za rfl (zz (kh36 (Sr fun _ kh38 => zg hb10 rfl (zg hb12 rfl ?_))));refine WL.call hasF83 rfl rfl (Add_dspec _ _ _ _ _ _ _ _ _ hNra hNrb (hg0.keep0 hch) (ok_i64 hokx) (ok_i64 hoky)) fun v w9 h' => ?_;obtain ⟨hD, hC⟩ := h';rw [both_ok hokx hoky, addD_sum (fvI_in x) (fvI_in y) hin] at hD;obtain ⟨rs, ks, hve, hNs⟩ := hD.cells;rw [Option.getD_some] at hve hNs
      subst hve;have hos := hNs.one;have hch := hch.ta hC;refine zm rfl (zx rfl rfl (zx rfl rfl ?_));refine zAh rfl rfl hch fun b14 wm14 hb14 hcm14 hge14 hgehch14 hch => ?_;have hNs := hNs.keep0 hcm14;refine zss rfl rfl ao hb14 rfl fun ws3 hb14_ hcs3 => ?_;(try simp only [Sx.splice, qt] at hb14_);have hch := hch.s1 hcs3;have hNs := hNs.keepBK hb14 hcs3 an;have hb14 := hb14_;refine za rfl (zz (kh38 (Sr fun _ kh40 => zf rfl (zl hb14 rfl rfl (zf rfl (zl hb14 rfl rfl (zf rfl (zl hb14 rfl rfl ?_))))))));refine WL.ev (Ev.subIn rfl rfl (by have := hoks.e; omega)) rfl ?_;refine WL.call hasF128 rfl rfl (Make_spec _ _ _ _ _ hNs (hg0.keep0 hch) (by have := hoks.e; omega)) fun v w10 h' => ?_;obtain ⟨hD, hC⟩ := h';rw [val_wd] at hD
      change DR _ _ (halfD (fvI x + fvI y)) at hD
      rw [hd] at hD;obtain ⟨rh, kh, hve, hNh⟩ := hD.cells;rw [Option.getD_some] at hve hNh;subst hve;have hoh := hNh.one;have hch := hch.ta hC;refine zm rfl (zx rfl rfl (zx rfl rfl ?_));refine zAh rfl rfl hch fun b16 wm16 hb16 hcm16 hge16 hgehch16 hch => ?_;have hNh := hNh.keep0 hcm16;refine zss rfl rfl ao hb16 rfl fun ws4 hb16_ hcs4 => ?_;(try simp only [Sx.splice, qt] at hb16_);have hch := hch.s1 hcs4;have hNh := hNh.keepBK hb16 hcs4 an;have hb16 := hb16_;refine za rfl (zz (kh40 (Sr fun _ kh42 => zg hb16 rfl (zm rfl ?_))));refine WL.call hasF95 rfl rfl (Round_dspec _ _ _ _ mode _ hNh (hg0.keep0 hch) (ok_i64 hokd)) fun v w11 h' => ?_;obtain ⟨⟨b, e, rfl, hR⟩, hC⟩ := h';rw [val_wd, formD_self hokd, ← hd] at hR;have hch := hch.ta hC;refine zx rfl rfl (zx rfl rfl (za rfl (za rfl (zz (kh42 ?_)))));refine zr (zr2 rfl rfl rfl ?_);refine ⟨⟨_, _, rfl, ?_⟩, hch⟩;exact .inr ⟨hm, .inr ⟨hl, .inr ⟨hn, hM _ _ (.inr ⟨hxy, hR⟩)⟩⟩⟩

end

end Go.Proofs.YtnbipejaidbihaaGreatDoor
/-
  DERIVED: THE SHELF's CONTRACTS AT THIS DUMP, IN PLAIN WORDS (tools/lay-plain.mjs out of 'TmpSortLayF.lean', which tools/lay-shelf.mjs wrote): THE SAME DECLARATIONS UNDER THE SAME NAMES: 'import', 'namespace', 'open', 'def', 'theorem' AND NOTHING ELSE: no command of the shelf's: FOR A HAND-IN. Each laying: the table of numbers ('.._ren') and one theorem, a field a fact of the dump's own or the kernel's comparison; each contract: ONE APPLICATION.
-/
namespace Go.Proofs
open Go.Shelf
def Tryz.laySortLayF_ren : Go.Shelf.Ren := ⟨fun | 6 => 209 | 15 => 215 | 14 => 286 | 28 => 267 | 29 => 298 | 20 => 324 | 21 => 325 | 22 => 326 | 23 => 327 | 24 => 328 | 25 => 329 | 26 => 330 | 27 => 331 | 46 => 351 | 47 => 333 | 48 => 334 | 49 => 352 | 50 => 353 | 57 => 358 | n => n, fun | 22 => 32 | 24 => 31 | 25 => 140 | 3 => 3 | 39 => 265 | 0 => 0 | 53 => 209 | 55 => 112 | 4 => 4 | 46 => 349 | 45 => 348 | 50 => 354 | 5 => 5 | 9 => 9 | 66 => 385 | 70 => 146 | 76 => 400 | 77 => 401 | n => n, fun | n => n⟩
theorem Tryz.laySortLayF : Go.Proofs.SlLaysF.n6 Tryz.prog Tryz.laySortLayF_ren := {
  mixed := by kernel_rfl
  f6 := ⟨Tryz.f209.name, by decide, Tryz.func209.trans (congrArg some (by kernel_rfl))⟩
  f14 := ⟨Tryz.f286.name, by decide, Tryz.func286.trans (congrArg some (by kernel_rfl))⟩
  f15 := Tryz.func215.trans (congrArg some (by kernel_rfl))
  f20 := ⟨Tryz.f324.name, by decide, Tryz.func324.trans (congrArg some (by kernel_rfl))⟩
  f21 := ⟨Tryz.f325.name, by decide, Tryz.func325.trans (congrArg some (by kernel_rfl))⟩
  f22 := ⟨Tryz.f326.name, by decide, Tryz.func326.trans (congrArg some (by kernel_rfl))⟩
  f23 := ⟨Tryz.f327.name, by decide, Tryz.func327.trans (congrArg some (by kernel_rfl))⟩
  f24 := ⟨Tryz.f328.name, by decide, Tryz.func328.trans (congrArg some (by kernel_rfl))⟩
  f25 := ⟨Tryz.f329.name, by decide, Tryz.func329.trans (congrArg some (by kernel_rfl))⟩
  f26 := ⟨Tryz.f330.name, by decide, Tryz.func330.trans (congrArg some (by kernel_rfl))⟩
  f27 := ⟨Tryz.f331.name, by decide, Tryz.func331.trans (congrArg some (by kernel_rfl))⟩
  f28 := Tryz.func267.trans (congrArg some (by kernel_rfl))
  f29 := Tryz.func298.trans (congrArg some (by kernel_rfl))
  f46 := ⟨Tryz.f351.name, by decide, Tryz.func351.trans (congrArg some (by kernel_rfl))⟩
  f47 := Tryz.func333.trans (congrArg some (by kernel_rfl))
  f48 := Tryz.func334.trans (congrArg some (by kernel_rfl))
  f49 := ⟨Tryz.f352.name, by decide, Tryz.func352.trans (congrArg some (by kernel_rfl))⟩
  f50 := ⟨Tryz.f353.name, by decide, Tryz.func353.trans (congrArg some (by kernel_rfl))⟩
  f57 := ⟨Tryz.f358.name, by decide, Tryz.func358.trans (congrArg some (by kernel_rfl))⟩
  t0 := Tryz.underlying0
  a0 := Tryz.isAgg0
  z0 := Tryz.sizeOf0
  v0 := Tryz.zeroValue0
  t3 := Tryz.underlying3
  a3 := Tryz.isAgg3
  z3 := Tryz.sizeOf3
  v3 := Tryz.zeroValue3
  t4 := Tryz.underlying4
  a4 := Tryz.isAgg4
  z4 := Tryz.sizeOf4
  v4 := Tryz.zeroValue4
  t5 := Tryz.underlying5
  a5 := Tryz.isAgg5
  z5 := Tryz.sizeOf5
  v5 := Tryz.zeroValue5
  t9 := Tryz.underlying9
  a9 := Tryz.isAgg9
  z9 := Tryz.sizeOf9
  v9 := Tryz.zeroValue9
  t22 := Tryz.underlying32
  a22 := Tryz.isAgg32
  z22 := Tryz.sizeOf32
  v22 := Tryz.zeroValue32
  a24 := Tryz.isAgg31
  z24 := Tryz.sizeOf31
  t25 := Tryz.underlying140
  a25 := Tryz.isAgg140
  z25 := Tryz.sizeOf140
  v25 := Tryz.zeroValue140
  t39 := Tryz.underlying265
  a39 := Tryz.isAgg265
  z39 := Tryz.sizeOf265
  v39 := Tryz.zeroValue265
  t45 := Tryz.underlying348
  a45 := Tryz.isAgg348
  z45 := Tryz.sizeOf348
  v45 := Tryz.zeroValue348
  t46 := Tryz.underlying349
  a46 := Tryz.isAgg349
  z46 := Tryz.sizeOf349
  v46 := Tryz.zeroValue349
  t50 := Tryz.underlying354
  a50 := Tryz.isAgg354
  z50 := Tryz.sizeOf354
  v50 := Tryz.zeroValue354
  t53 := Tryz.underlying209
  a53 := Tryz.isAgg209
  z53 := Tryz.sizeOf209
  v53 := Tryz.zeroValue209
  t55 := Tryz.underlying112
  a55 := Tryz.isAgg112
  z55 := Tryz.sizeOf112
  v55 := Tryz.zeroValue112
  t66 := Tryz.underlying385
  a66 := Tryz.isAgg385
  z66 := Tryz.sizeOf385
  v66 := Tryz.zeroValue385
  t70 := Tryz.underlying146
  a70 := Tryz.isAgg146
  z70 := Tryz.sizeOf146
  v70 := Tryz.zeroValue146
  t76 := Tryz.underlying400
  a76 := Tryz.isAgg400
  z76 := Tryz.sizeOf400
  v76 := Tryz.zeroValue400
  t77 := Tryz.underlying401
  a77 := Tryz.isAgg401
  z77 := Tryz.sizeOf401
  v77 := Tryz.zeroValue401 }
end Go.Proofs

namespace Go.Proofs.YtnbipejaidbihaaGreatDoor
/- slices.SortFunc over numbers by the numbers' order: the row holds the numbers in order. No condition but that each number has 64 bits. -/
section
open Go Sx Fl Go.Sort Go.Shelf

abbrev F64 := {b : Nat // b < 18446744073709551616}
instance f64Inh : Inhabited F64 := ⟨⟨0, by decide⟩⟩
def encF (x : F64) : Value := .float .f64 x.1
def cfF (x y : F64) : Int := cmpI (key x.1) (key y.1)
theorem ltF (x y : F64) : ltOf cfF x y = decide (key x.1 < key y.1) := by
  unfold ltOf cfF cmpI
  by_cases h1 : key x.1 < key y.1
  · simp [h1]
  · by_cases h2 : key y.1 < key x.1 <;> simp [h1, h2]
theorem swoF : SWO (ltOf cfF) where
  irrefl x := by rw [ltF]; simp
  trans x y z h1 h2 := by rw [ltF] at *; simp at *; omega
  ntrans x y z h1 h2 := by rw [ltF] at *; simp at *; omega
theorem cmpLaysF (blk off size : Nat) (w : World) : CmpLays1 Tryz.prog 82 #[] encF cfF blk off size w := fun _ _ _ _ x y =>
  Calls.mono (bits_Order_spec _ _ x.2 y.2 _) fun e w' ⟨v, he, hv, hw⟩ => ⟨by rw [he, hv]; rfl, 0, #[], by rw [grow_empty]; exact hw.symm⟩
def f64s (l : List Nat) (h : ∀ p ∈ l, p < 18446744073709551616) : List F64 := l.attach.map fun x => ⟨x.1, h x.1 x.2⟩
theorem f64s_val (l : List Nat) (h : ∀ p ∈ l, p < 18446744073709551616) : (f64s l h).map (·.1) = l := by
  unfold f64s
  rw [List.map_map]
  exact List.attach_map_subtype_val l
theorem f64s_get {l : List Nat} {h : ∀ p ∈ l, p < 18446744073709551616} {j : Nat} (hj : j < l.length) : encF ((f64s l h).toArray[j]!) = f64v (l[j]'hj) := by
  have hl : j < (f64s l h).toArray.size := by simpa [f64s] using hj
  rw [getElem!_pos _ j hl]
  simp [f64s, encF, f64v]
theorem sortWorldF_heap {w : World} {blk n : Nat} {d : Array F64} {os : Array Obj} {cur : Array Value} {T : TypeId} (h : w.heap[blk]? = some (.cells cur T (0, 0))) :
    Chg [blk] w (sortWorld encF w blk 0 n d os) ∧ (sortWorld encF w blk 0 n d os).heap[blk]? = some (.cells (putCells encF 0 d cur) T (0, 0)) := by
  have hlt := lt_of_heap h
  unfold sortWorld grow putRow mapBlock Go.Sort.ahead
  refine ⟨⟨rfl, rfl, rfl, by simp, fun k hk hn => ?_⟩, ?_⟩
  · simp only [List.mem_singleton] at hn
    rw [Array.getElem?_append_left (by simpa using hk), Array.getElem?_modify, if_neg (fun e => hn e.symm)]
  · rw [Array.getElem?_append_left (by simpa using hlt), Array.getElem?_modify, if_pos rfl, h]; rfl
/-- THE SORT: a row of one's own comes in order. -/
theorem sortF_spec (w : World) (v : Value) (l : List Nat) (lo : Nat) (X : List Nat) (hl : ∀ p ∈ l, p < 18446744073709551616) (hne : l ≠ []) (hsz : l.length < 4611686018427387904) (hown : GR w 31 f64v lo X v l) :
    Ret Tryz.prog 209 [v, .func (.func 82) #[] #[]] w fun u w' =>
      ∃ l' : List Nat, l'.Perm l ∧ Srt l' ∧ Chg v.ownBlock.toList w w' ∧ GR w' 31 f64v lo X v l' := by
  obtain ⟨blk, cap, cur, rfl, hheap, hnc, hcm, hcs, htake, hlo, hX⟩ := hown.own hne
  have hd : (f64s l hl).toArray.size = l.length := by simp [f64s]
  have hblk := lt_of_heap hheap
  have hH : Holds encF w blk 0 (f64s l hl).toArray := by
    intro j hj
    have hj' : j < l.length := by rw [← hd]; exact hj
    refine ⟨?_, by rw [Nat.zero_add]; exact frozen_no hheap⟩
    rw [Nat.zero_add, cell_at' hheap, f64s_get hj']
    have : cur.toList[j]? = (l.map f64v)[j]? := by
      rw [← htake, List.getElem?_take, if_pos (by omega)]
    rw [← Array.getElem?_toList, this]
    simp [hj']
  have eg : ∀ args w, (callFunc 82 args).run Tryz.prog w = .ok (.enter 82 args) w := fun args w => HasF.run hasF82 args
  have hcon := Any.slices_SortFunc Tryz.laySortLayF encF (fun x => rfl) cfF swoF 82 #[] blk 0 cap (f64s l hl).toArray w eg (cmpLaysF blk 0 _ w) hH hblk (by rw [hd]; exact hsz)
  rw [hd] at hcon
  refine Calls.mono hcon fun e w' ⟨he, d', n, os, hp, hs, hw⟩ => ⟨_, he, ?_⟩
  obtain ⟨hps, _, hpp⟩ := hp
  have hsz' : d'.size = l.length := by rw [hps, hd]
  have hperm : d'.toList.Perm (f64s l hl) := by
    have e1 : d'.extract 0 l.length = d' := by rw [← hsz']; simp
    have e2 : (f64s l hl).toArray.extract 0 l.length = (f64s l hl).toArray := by rw [← hd]; simp
    rw [e1, e2] at hpp
    exact hpp
  subst hw
  obtain ⟨hc, hh⟩ := sortWorldF_heap (n := n) (d := d') (os := os) hheap
  have hlen : (d'.toList.map (·.1)).length = l.length := by simp [hsz']
  refine ⟨d'.toList.map (·.1), ?_, ?_, hc, ?_⟩
  · have := hperm.map Subtype.val
    rw [f64s_val] at this
    exact this
  · unfold Srt
    rw [List.pairwise_iff_getElem]
    intro i j hi hj hij
    have := hs i j (Nat.zero_le _) hij (by simpa [hsz'] using hj)
    rw [ltF] at this
    have hi' : i < d'.size := by simpa using hi
    have hj' : j < d'.size := by simpa using hj
    rw [getElem!_pos d' i hi', getElem!_pos d' j hj'] at this
    simp at this
    simpa using this
  · refine ⟨⟨by simp, .inr ⟨blk, cap, _, ?_, Nat.zero_le _, hh, ?_, hcm, ?_, ?_⟩⟩, fun b hb => ?_⟩
    · rw [hlen]
    · rw [hlen]; exact hnc
    · simp [putCells, hcs]
    · rw [hlen, Nat.mul_one]
      apply List.ext_getElem?
      intro i
      rw [List.getElem?_take]
      by_cases hi : i < l.length
      · rw [if_pos hi]
        have hi' : i < d'.size := by rw [hsz']; exact hi
        have hc' : i < cur.size := by rw [hcs]; exact Nat.lt_of_lt_of_le hi hnc
        simp [putCells, hi', hc', encF, f64v]
      · rw [if_neg hi, List.getElem?_eq_none (by rw [List.length_map, hlen]; omega)]
    · cases hb; exact ⟨hlo, hX⟩
end

/- Package mean: Trimmed. No condition. -/
section
open Go Sx Wd Fl

end

/- Package quant: what is refused, lists in order. No condition. -/
section
open Go Sx Wd Fl

structure KRf (l : List Nat) (w0 : World) (i : Nat) (w : World) : Prop where
  hi : i ≤ l.length
  f : finL (l.take i)
  ch : Chg [] w0 w

theorem refused_spec (v : Value) (l : List Nat) (w : World) (hv : NF w v l) : Ret Tryz.prog 120 [v] w fun u w' => u = .int .i64 (refuseE l) ∧ Chg [] w w' := by
 have hv0 := hv;obtain ⟨⟨al, cl, rfl, hcapl, hrl⟩, hWl, hll⟩ := hv;have hch : Chg [] w w := Chg.refl _ _;refine zE1 Tryz.func120 rfl ?_;refine Sr fun _ kh1 => za rfl (zz (kh1 (zc fun _ kh3 => Sr fun _ kh4 => zm rfl (zn rfl ?_))));refine WL.ev (Ev.gtr rfl rfl) rfl ?_;refine zz (kh4 ?_);refine zy rfl ?_ ?_<;>intro hc1<;>try simp only [qs] at hc1
 ·have hlong : 65536 < l.length := by omega
  refine Sr fun _ kh6 => za rfl (zz (kh6 ?_));refine zr (zr1 rfl rfl ?_);refine ⟨?_, hch⟩;unfold refuseE;rw [if_pos hlong]
 ·have hlong : ¬ 65536 < l.length := by omega
  refine zkk ?_;refine kh3 (zc fun _ kh8 => Sr fun _ kh9 => zm rfl (zn rfl (zm rfl (zz (kh9 ?_)))));refine CW.block ?_;refine CW.loop (S := fun i : Nat => [(0, .slice al l.length cl), (8, .int .i64 (l.length : Int)), (9, .int .i64 (i : Int))]) (Inv := KRf l w) (mu := fun i => l.length - i) (0) ?_ ?_ ?_
  ·exact ⟨Nat.zero_le _, fun x hx => (by simp at hx), hch⟩
  ·exact SLp
  ·rintro i wr ⟨hi, hf, hch⟩;refine Sr fun _ kh11 => ?_;refine WL.ev (Ev.lss rfl rfl) rfl ?_;refine zz (kh11 (zc fun _ kh13 => ?_));refine zy rfl ?_ ?_<;>intro hc2<;>try simp only [qs] at hc2
   ·have hx := D_getD hWl i
    refine zkk ?_;refine kh13 (zc fun _ kh14 => ?_);refine CW.block ?_;refine Sr fun _ kh15 => zm rfl (za rfl (zz (kh15 (Sr fun _ kh17 => zm rfl (zm rfl ?_)))));refine WL.ev (Ev.ixR (i) rfl rfl (hrl.keep0 hch) (by omega) (by omega) (by simp; omega)) rfl ?_;refine WL.ev (Ev.load rfl rfl ((hrl.keep0 hch).f64 (by first | omega | (simp; omega)))) rfl ?_;refine WL.call hasF205 rfl rfl (Class_spec (l.getD i 0) _ hx) fun v w1 h' => ?_;obtain ⟨rfl, hC⟩ := h';have hch := hch.ta hC;refine WL.ev (Ev.gtr rfl rfl) rfl ?_;refine zz (kh17 ?_);refine zy rfl ?_ ?_<;>intro hc3<;>try simp only [qs] at hc3
    ·have hnf : ¬ finL l := fun q => by have := finL_getD2 q (i := i) (by omega); omega
     refine Sr fun _ kh19 => za rfl (zz (kh19 ?_));refine zr (zr1 rfl rfl ?_);refine ⟨?_, hch⟩;unfold refuseE;rw [if_neg hlong, if_pos hnf]
    ·refine zkk ?_
     refine kh14 ?_;refine zR fun _ kr21 => ?_;(first | refine zi rfl rfl ?_ | refine zo rfl rfl ?_);refine zm rfl ?_;refine WL.nil (kr21 _ _ _ ?_);refine ⟨rfl, i + 1, ?_, ?_, ?_⟩
     ·exact SLp
     ·exact ⟨by omega, (finL_step (by omega)).2 ⟨hf, by omega⟩, hch⟩
     ·show l.length - (i + 1) < l.length - i; omega
   ·have hiX : i = l.length := by omega
    subst hiX;rw [List.take_length] at hf;refine CW.exit ?_;refine kh8 (zc fun _ kh22 => Sr fun _ kh23 => zm rfl (zn rfl (zq rfl rfl (zz (kh23 ?_)))));refine zy rfl ?_ ?_<;>intro hc4<;>try simp only [qs] at hc4
    ·have h0 : l = [] := List.length_eq_zero_iff.1 (by omega);refine Sr fun _ kh25 => za rfl (zz (kh25 ?_));refine zr (zr1 rfl rfl ?_);refine ⟨?_, hch⟩;unfold refuseE;rw [if_neg hlong, if_neg (fun q => q hf), if_pos h0]
    ·have h0 : l ≠ [] := fun q => by rw [q] at hc4; exact hc4 rfl
     refine zkk ?_;refine kh22 (Sr fun _ kh27 => za rfl (zz (kh27 ?_)));refine zr (zr1 rfl rfl ?_);refine ⟨?_, hch⟩;unfold refuseE;rw [if_neg hlong, if_neg (fun q => q hf), if_neg h0]

theorem qsorted_spec (v : Value) (l : List Nat) (w : World) (hv : NF w v l) (hl : l.length ≤ 65536) (hf : finL l) (hne : l ≠ []) : Ret Tryz.prog 122 [v] w fun u w' => GR w' 31 f64v w.heap.size [] u (sortP l) ∧ Chg [] w w' := by
 have hv0 := hv;obtain ⟨⟨al, cl, rfl, hcapl, hrl⟩, hWl, hll⟩ := hv;have hch : Chg [] w w := Chg.refl _ _;refine zE1 Tryz.func122 rfl ?_;refine Sr fun _ kh1 => za rfl (zz (kh1 (Sr fun _ kh3 => zm rfl ?_)));refine WL.call hasF208 rfl rfl (CloneF_spec _ l _ (hv0.keep0 hch) (by omega)) fun v w1 h' => ?_;obtain ⟨hgc, hC⟩ := h';have hch := hch.ta hC;refine za rfl (zz (kh3 (Sr fun _ kh5 => zm rfl ?_)));refine WL.call hasF209 rfl rfl (sortF_spec _ v l _ _ hWl hne (by omega) hgc) fun v w2 h' => ?_;obtain ⟨ls, hperm, hsrt, hcs, hgs⟩ := h';have hch := GR.frame hgc hcs hch (Nat.le_refl _);have hls : ls = sortP l := sortP_eq hperm hsrt (finL_nums hf hWl);subst hls;refine zz (kh5 (Sr fun _ kh7 => zm rfl (za rfl (zz (kh7 ?_)))));refine zr (zr1 rfl rfl ?_);exact ⟨hgs, hch⟩

theorem qmay_spec (rule mode : Int) (w : World) : Ret Tryz.prog 119 [.int .i64 rule, .int .i64 mode] w fun u w' => u = .bool (decide ((0 ≤ mode ∧ mode ≤ 4) ∧ (0 ≤ rule ∧ rule ≤ 4))) ∧ w = w' := by
 refine zE2 Tryz.func119 rfl ?_;refine Sr fun _ kh1 => za rfl (zz (kh1 (Sr fun _ kh3 => zm rfl ?_)));refine WL.ev (Ev.geq rfl rfl) rfl ?_;refine zm rfl ?_;refine zb ?_ ?_<;>intro hg1<;>try simp only [qs] at hg1
 ·refine zw rfl (zm rfl (zw rfl ?_));refine WL.ev (Ev.leq rfl rfl) rfl ?_
  refine zt rfl rfl (zm rfl ?_);refine zb ?_ ?_<;>intro hg2<;>try simp only [qs] at hg2
  ·refine zw rfl (zm rfl (zw rfl ?_));refine WL.ev (Ev.geq rfl rfl) rfl ?_
   refine zt rfl rfl (zm rfl ?_);refine zb ?_ ?_<;>intro hg3<;>try simp only [qs] at hg3
   ·refine zw rfl (zm rfl (zw rfl ?_));refine WL.ev (Ev.leq rfl rfl) rfl ?_
    refine zt rfl rfl (za rfl (zz (kh3 ?_)));refine zr (zr1 rfl rfl ?_);refine ⟨congrArg Value.bool ?_, rfl⟩
    first | exact (decide_eq_true (by omega)).symm | exact (decide_eq_false (by omega)).symm | exact decide_eq_decide.2 (by omega)
   ·refine zv rfl (zv rfl (ze rfl rfl (za rfl (zz (kh3 ?_)))));refine zr (zr1 rfl rfl ?_);refine ⟨congrArg Value.bool ?_, rfl⟩
    first | exact (decide_eq_true (by omega)).symm | exact (decide_eq_false (by omega)).symm | exact decide_eq_decide.2 (by omega)
  ·refine zv rfl (zv rfl (ze rfl rfl (zm rfl (zv rfl (zv rfl (ze rfl rfl (za rfl (zz (kh3 ?_)))))))));refine zr (zr1 rfl rfl ?_);refine ⟨congrArg Value.bool ?_, rfl⟩
   first | exact (decide_eq_true (by omega)).symm | exact (decide_eq_false (by omega)).symm | exact decide_eq_decide.2 (by omega)
 ·refine zv rfl (zv rfl (ze rfl rfl (zm rfl (zv rfl (zv rfl (ze rfl rfl (zm rfl (zv rfl (zv rfl (ze rfl rfl (za rfl (zz (kh3 ?_)))))))))))));refine zr (zr1 rfl rfl ?_);refine ⟨congrArg Value.bool ?_, rfl⟩
  first | exact (decide_eq_true (by omega)).symm | exact (decide_eq_false (by omega)).symm | exact decide_eq_decide.2 (by omega)

end

/- Package quant: between two numbers. No condition. -/
section
open Go Sx Wd Fl

theorem qline_spec (x y num den : Nat) (mode : Int) (w : World) (hx : x < 18446744073709551616) (hy : y < 18446744073709551616) (hfx : (splitP x).cls ≤ 2) (hfy : (splitP y).cls ≤ 2) (hn : 1 ≤ num) (hnd : num < den) (hd : den ≤ 2147483648) (hg : GW w) : Ret Tryz.prog 207 [.float .f64 x, .float .f64 y, .int .i64 (num : Int), .int .i64 (den : Int), .int .i64 mode] w fun u w' => (∃ bits e, u = .tuple [.float .f64 bits, .int .i64 e].toArray ∧ lineR x y num den mode bits e) ∧ Chg [] w w' := by
 have hch : Chg [] w w := Chg.refl _ _;have hg0 := hg;have hokX := rsumD_ok (fvI_in x);have hokY := rsumD_ok (fvI_in y);have hokm := intD_ok (n := ((den - num : Nat) : Int)) (by omega);have hokn := intD_ok (n := (num : Int)) (by omega);have hokd := intD_ok (n := (den : Int)) (by omega);have hPx := fv_small x (n := den - num) (by omega);have hPy := fv_small y (n := num) (by omega);have hV := lineV_in (x := x) (y := y) (num := num) (den := den) (by omega) hd;have hokPx := rsumD_ok hPx;have hokPy := rsumD_ok hPy;have hokV := rsumD_ok hV;have hsf := (sift_fin (l := [x, y]) (pn := 0) (pi := 0) (by intro z hz; simp only [List.mem_cons, List.not_mem_nil, or_false] at hz; rcases hz with rfl | rfl <;> assumption) (by simp) ⟨by decide, by decide⟩).1;refine zE5 Tryz.func207 rfl ?_;refine Sr fun _ kh1 => za rfl (za rfl (zz (kh1 (Sr fun _ kh3 => zm rfl ?_))));refine WL.call hasF127 rfl rfl (dOf_spec (x) _ hx (hg0.keep0 hch)) fun v w1 h' => ?_;obtain ⟨hD, hC⟩ := h';obtain ⟨-, rx, rfl, hNx⟩ := hD.resolve_right (fun q => q.1 hfx);have hch := hch.ta hC;refine zm rfl (zx rfl rfl (zx rfl rfl ?_));refine zAh rfl rfl hch fun b12 wm12 hb12 hcm12 hge12 hgehch12 hch => ?_;have hNx := hNx.keep0 hcm12;refine zss rfl rfl ao hb12 rfl fun ws1 hb12_ hcs1 => ?_;(try simp only [Sx.splice, qt] at hb12_);have hch := hch.s1 hcs1;have hNx := hNx.keepBK hb12 hcs1 an;have hb12 := hb12_;refine za rfl (zz (kh3 (Sr fun _ kh5 => zm rfl ?_)));refine WL.call hasF127 rfl rfl (dOf_spec (y) _ hy (hg0.keep0 hch)) fun v w2 h' => ?_;obtain ⟨hD, hC⟩ := h';obtain ⟨-, ry, rfl, hNy⟩ := hD.resolve_right (fun q => q.1 hfy);have hch := hch.ta hC;have hb12 := hb12.k0 hC;have hNx := hNx.keep0 hC;refine zm rfl (zx rfl rfl (zx rfl rfl ?_));refine zAh rfl rfl hch fun b14 wm14 hb14 hcm14 hge14 hgehch14 hch => ?_;have hNx := hNx.keep0 hcm14;have hNy := hNy.keep0 hcm14;have hneb1214 := zdd hb12.lt hge14;have hb12 := hb12.k0 hcm14;refine zss rfl rfl ao hb14 rfl fun ws2 hb14_ hcs2 => ?_;(try simp only [Sx.splice, qt] at hb14_);have hch := hch.s1 hcs2;have hb12 := hb12.kq hcs2;have hNx := hNx.keepBK hb14 hcs2 an;have hNy := hNy.keepBK hb14 hcs2 an;have hb14 := hb14_;refine za rfl (zz (kh5 (zc fun _ kh7 => ?_)));refine CW.regionKC 9 10 rfl hmix fun kR8 kr8 hS hdr => ?_;have hch := hch.ta hdr;have hb12 := hb12.k0 hdr;have hb14 := hb14.k0 hdr;have hNx := hNx.keep0 hdr;have hNy := hNy.keep0 hdr;have hb12_r := hb12;have hb14_r := hb14;refine wk 0 rfl hS (fun _ hw' => Ev.loadA rfl rfl (hb12_r.keep0 hw') rfl) (wk 1 rfl hS (fun _ _ => Ev.move rfl) (wk 2 rfl hS (fun _ _ => Ev.move rfl) (wk 3 rfl hS (fun _ _ => Ev.subIn rfl rfl (by omega)) ?_)));rw [show (den : Int) - (num : Int) = ((den - num : Nat) : Int) by omega]
 refine WK.oneCall 4 rfl (by kernel_rfl) hasF179 rfl rfl (Int_spec ((den - num : Nat) : Int) _ (hg0.keep0 hch) (by omega)) fun v w3 h' => ?_;obtain ⟨⟨ria, rfl, hNia⟩, hC⟩ := h';have hch := hch.ta hC;have hb12 := hb12.k0 hC;have hb14 := hb14.k0 hC;have hNx := hNx.keep0 hC;have hNy := hNy.keep0 hC;have hS := hS.trans hC;refine ⟨hS, ?_⟩;refine WK.oneCall 5 rfl (by kernel_rfl) hasF132 rfl rfl (Mul_dspec (sumD (fvI x)).neg (intD ((den - num : Nat) : Int)).neg _ _ (wd (sumD (fvI x)).m) (wd (intD ((den - num : Nat) : Int)).m) (sumD (fvI x)).e (intD ((den - num : Nat) : Int)).e _ hNx hNia (hg0.keep0 hch) (ok_e hokX) (ok_e hokm)) fun v w4 h' => ?_;obtain ⟨hD, hC⟩ := h';rw [val_wd, val_wd, formD_sumD (fvI_in x), formD_self hokm, show both2 mulD (some (sumD (fvI x))) (some (intD ((den - num : Nat) : Int))) = mulD (sumD (fvI x)) (intD ((den - num : Nat) : Int)) from rfl, mulD_int (fvI_in x) (by omega) (by omega) hPx] at hD;obtain ⟨rpx, dpx, hdpx, rfl, hNpx⟩ := hD.resolve_right (fun q => by cases q.1);cases hdpx;have hch := hch.ta hC;have hb12 := hb12.k0 hC;have hb14 := hb14.k0 hC;have hNy := hNy.keep0 hC;have hS := hS.trans hC;refine ⟨hS, ?_⟩;refine wk 6 rfl hS (fun _ _ => Ev.move rfl) (wk 7 rfl hS (fun _ _ => Ev.extract rfl rfl) ?_);refine WK.takeT 8 rfl (by kernel_rfl) (by kernel_rfl) (by kernel_rfl) (by kernel_rfl) (fun _ => hS) (fun w' => Ev.extract rfl rfl) rfl ?_;refine WK.storeB 9 rfl (by kernel_rfl) (by kernel_rfl) rfl rfl rfl ao hb12 (by simp) rfl fun ws3 hb12_ hcs3 => ?_;(try simp only [Sx.splice, qt] at hb12_);have hch := hch.s1 hcs3;have hb14 := hb14.kq hcs3;have hNy := hNy.keepBK hb12 hcs3 an;have hNpx := hNpx.keepBK hb12 hcs3 an;have hb12 := hb12_;refine WK.done (by kernel_rfl) (kr8 _ _ _ ?_);refine kh7 (zc fun _ kh9 => ?_);refine CW.regionKC 7 8 rfl hmix fun kR10 kr10 hS hdr => ?_;have hch := hch.ta hdr;have hb12 := hb12.k0 hdr;have hb14 := hb14.k0 hdr;have hNy := hNy.keep0 hdr;have hNpx := hNpx.keep0 hdr;have hb14_r := hb14;refine wk 0 rfl hS (fun _ hw' => Ev.loadA rfl rfl (hb14_r.keep0 hw') rfl) (wk 1 rfl hS (fun _ _ => Ev.move rfl) ?_);refine WK.oneCall 2 rfl (by kernel_rfl) hasF179 rfl rfl (Int_spec ((num : Nat) : Int) _ (hg0.keep0 hch) (by omega)) fun v w5 h' => ?_;obtain ⟨⟨rib, rfl, hNib⟩, hC⟩ := h';have hch := hch.ta hC;have hb12 := hb12.k0 hC;have hb14 := hb14.k0 hC;have hNy := hNy.keep0 hC;have hNpx := hNpx.keep0 hC;have hS := hS.trans hC;refine ⟨hS, ?_⟩;refine WK.oneCall 3 rfl (by kernel_rfl) hasF132 rfl rfl (Mul_dspec (sumD (fvI y)).neg (intD ((num : Nat) : Int)).neg _ _ (wd (sumD (fvI y)).m) (wd (intD ((num : Nat) : Int)).m) (sumD (fvI y)).e (intD ((num : Nat) : Int)).e _ hNy hNib (hg0.keep0 hch) (ok_e hokY) (ok_e hokn)) fun v w6 h' => ?_;obtain ⟨hD, hC⟩ := h';rw [val_wd, val_wd, formD_sumD (fvI_in y), formD_self hokn, show both2 mulD (some (sumD (fvI y))) (some (intD ((num : Nat) : Int))) = mulD (sumD (fvI y)) (intD ((num : Nat) : Int)) from rfl, mulD_int (fvI_in y) (by omega) (by omega) hPy] at hD
 obtain ⟨rpy, dpy, hdpy, rfl, hNpy⟩ := hD.resolve_right (fun q => by cases q.1);cases hdpy;have hch := hch.ta hC;have hb12 := hb12.k0 hC;have hb14 := hb14.k0 hC;have hNpx := hNpx.keep0 hC;have hS := hS.trans hC;refine ⟨hS, ?_⟩;refine wk 4 rfl hS (fun _ _ => Ev.move rfl) (wk 5 rfl hS (fun _ _ => Ev.extract rfl rfl) ?_);refine WK.takeT 6 rfl (by kernel_rfl) (by kernel_rfl) (by kernel_rfl) (by kernel_rfl) (fun _ => hS) (fun w' => Ev.extract rfl rfl) rfl ?_;refine WK.storeB 7 rfl (by kernel_rfl) (by kernel_rfl) rfl rfl rfl ao hb14 (by simp) rfl fun ws4 hb14_ hcs4 => ?_;(try simp only [Sx.splice, qt] at hb14_);have hch := hch.s1 hcs4;have hb12 := hb12.kq hcs4;have hNpx := hNpx.keepBK hb14 hcs4 an;have hNpy := hNpy.keepBK hb14 hcs4 an;have hb14 := hb14_;refine WK.done (by kernel_rfl) (kr10 _ _ _ ?_);refine kh9 (Sr fun _ kh11 => zg hb12 rfl (zg hb14 rfl ?_));refine WL.call hasF83 rfl rfl (Add_dspec (sumD (fvI x * ((den - num : Nat) : Int))).neg (sumD (fvI y * ((num : Nat) : Int))).neg _ _ (wd (sumD (fvI x * ((den - num : Nat) : Int))).m) (wd (sumD (fvI y * ((num : Nat) : Int))).m) (sumD (fvI x * ((den - num : Nat) : Int))).e (sumD (fvI y * ((num : Nat) : Int))).e _ hNpx hNpy (hg0.keep0 hch) (ok_e hokPx) (ok_e hokPy)) fun v w7 h' => ?_;obtain ⟨hD, hC⟩ := h';rw [val_wd, val_wd, formD_sumD hPx, formD_sumD hPy, show both2 addD (some (sumD (fvI x * ((den - num : Nat) : Int)))) (some (sumD (fvI y * ((num : Nat) : Int)))) = addD (sumD (fvI x * ((den - num : Nat) : Int))) (sumD (fvI y * ((num : Nat) : Int))) from rfl, addD_sum hPx hPy hV, show (fvI x * ((den - num : Nat) : Int)) + (fvI y * ((num : Nat) : Int)) = lineV x y num den from rfl] at hD;obtain ⟨rv, dv, hdv, rfl, hNv⟩ := hD.resolve_right (fun q => by cases q.1);cases hdv;have hch := hch.ta hC;refine zm rfl (zx rfl rfl (zx rfl rfl ?_));refine zAh rfl rfl hch fun b16 wm16 hb16 hcm16 hge16 hgehch16 hch => ?_;have hNv := hNv.keep0 hcm16;refine zss rfl rfl ao hb16 rfl fun ws5 hb16_ hcs5 => ?_;(try simp only [Sx.splice, qt] at hb16_);have hch := hch.s1 hcs5;have hNv := hNv.keepBK hb16 hcs5 an;have hb16 := hb16_;refine za rfl (zz (kh11 (zc fun _ kh13 => Sr fun _ kh14 => zg hb16 rfl ?_)));refine WL.call hasF93 rfl rfl (Sign_dspec (sumD (lineV x y num den)).neg _ (wd (sumD (lineV x y num den)).m) (sumD (lineV x y num den)).e _ hNv) fun v w8 h' => ?_;obtain ⟨rfl, hC⟩ := h';rw [val_wd];have hch := hch.ta hC;have hb16 := hb16.k0 hC;have hNv := hNv.keep0 hC;refine zq rfl rfl (zz (kh14 ?_));refine zy rfl ?_ ?_<;>intro hc1<;>try simp only [qs] at hc1
 ·have hz : (sumD (lineV x y num den)).m = 0 := sgD_zero.1 hc1
  refine Sr fun _ kh16 => zm rfl (zm rfl ?_);refine WL.buildSlice (m := 2) (cs := [f64v (x), f64v (y)]) (by decide) (by decide) rfl (by kernel_rfl) rfl fun b59 w59 hn59 => ?_;have hcm59 := hn59.chg;have hge59 := hn59.ge;have hb59 : FB w59 b59 _ [x, y] := hn59.at_;have hgehch59 := Nat.le_trans hch.size hge59;have hch := hch.ta hcm59;refine WL.call hasF131 rfl rfl (Plain_spec _) fun v w9 h' => ?_;obtain ⟨rfl, hC⟩ := h';have hch := hch.ta hC;have hb59 := hb59.k0 hC;refine WL.call hasF105 rfl rfl (Sift_spec _ [x, y] 0 0 _ ((NF.of_row hb59.row (by intro z hz; simp only [List.mem_cons, List.not_mem_nil, or_false] at hz; rcases hz with rfl | rfl <;> assumption) (by simp) rfl (by simp)))) fun v w10 h' => ?_;obtain ⟨-, v2, hNf, rfl, hC⟩ := h'.resolve_left (fun q => q.1 hsf);have ho2 := hNf.one;unfold SP.cells;have hch := hch.ta hC;refine zm rfl (zx rfl rfl (zx rfl rfl (zx rfl rfl ?_)));refine WL.allocB (l := [.int .i64 0, .int .i64 0, .int .i64 0, .int .i64 0, .int .i64 0, .int .i64 0]) rfl rfl fun b19 wm19 hb19 hcm19 hge19 => ?_;have hgehch19 := Nat.le_trans hch.size hge19;have hch := hch.ta hcm19;refine za rfl ?_;refine zss rfl rfl ao hb19 rfl fun ws6 hb19_ hcs6 => ?_;(try simp only [Sx.splice, qt] at hb19_);have hch := hch.s1 hcs6;have hb19 := hb19_;refine za rfl (zz (kh16 (Sr fun _ kh18 => zg hb19 rfl (zm rfl ?_))));refine WL.call hasF94 rfl rfl (Nought_spec (cntP [x, y]) mode _ ((cnt_le [x, y]).mono (by simp))) fun v w11 h' => ?_;obtain ⟨rfl, hC⟩ := h';have hch := hch.ta hC;refine za rfl (za rfl (zz (kh18 ?_)));refine zr (zr2 rfl rfl rfl ?_);exact ⟨⟨_, _, rfl, .inl ⟨hz, rfl, rfl⟩⟩, hch⟩
 ·have hz : (sumD (lineV x y num den)).m ≠ 0 := fun q => hc1 (sgD_zero.2 q);refine zkk ?_
  refine kh13 (zc fun _ kh20 => ?_);refine CW.regionHC 10 rfl hmix fun kR21 kr21 hS hdr => ?_;have hch := hch.ta hdr;have hb16 := hb16.k0 hdr;have hNv := hNv.keep0 hdr;have hb16_r := hb16;refine wh 0 rfl hS (fun _ hw' => Ev.loadA rfl rfl (hb16_r.keep0 hw') rfl) (wh 1 rfl hS (fun _ _ => Ev.move rfl) (wh 4 rfl hS (fun _ _ => Ev.move rfl) ?_));refine WH.oneCall 2 rfl (by kernel_rfl) hasF179 rfl rfl (Int_spec ((den : Nat) : Int) _ (hg0.keep0 hch) (by omega)) fun v w12 h' => ?_;obtain ⟨⟨ric, rfl, hNic⟩, hC⟩ := h';have hch := hch.ta hC;have hNv := hNv.keep0 hC;have hS := hS.trans hC;refine ⟨hS, ?_⟩;refine wh 3 rfl hS (fun _ _ => Ev.build (vs := _) (cs := [_, _, _, _, _, _]) rfl rfl) ?_;refine WH.oneCall 5 rfl (by kernel_rfl) hasF110 rfl rfl (Quot_spec (sumD (lineV x y num den)).neg (intD (den : Int)).neg _ _ (wd (sumD (lineV x y num den)).m) (wd (intD (den : Int)).m) (sumD (lineV x y num den)).e (intD (den : Int)).e mode _ hNv hNic (hg0.keep0 hch) (ok_e hokV) (ok_e hokd)) fun v w13 h' => ?_;obtain ⟨⟨bits, e, rfl, hQ⟩, hC⟩ := h';rw [val_wd, val_wd] at hQ;have hch := hch.ta hC;have hS := hS.trans hC;refine ⟨hS, ?_⟩;refine wh 6 rfl hS (fun _ _ => Ev.extract rfl rfl) (wh 7 rfl hS (fun _ _ => Ev.extract rfl rfl) (wh 8 rfl hS (fun _ _ => Ev.assign rfl) (wh 9 rfl hS (fun _ _ => Ev.assign rfl) ?_)));refine WH.done (by kernel_rfl) (kr21 _ _ _ ?_);refine kh20 ?_;refine zr (zr2 rfl rfl rfl ?_);exact ⟨⟨_, _, rfl, .inr ⟨hz, hQ⟩⟩, hch⟩

end

/- Package quant: at a share. No condition. -/
section
open Go Sx Wd Fl

theorem qat_spec (v : Value) (s : List Nat) (num den : Nat) (rule mode : Int) (w : World) (hv : NF w v s) (hs : Row s) (hl : s.length ≤ 65536) (hn : num ≤ den) (hd : 1 ≤ den ∧ den ≤ 2147483648) (hg : GW w) : Ret Tryz.prog 121 [v, .int .i64 (num : Int), .int .i64 (den : Int), .int .i64 rule, .int .i64 mode] w fun u w' => (∃ bits e, u = .tuple [.float .f64 bits, .int .i64 e].toArray ∧ atR s num den rule mode bits e) ∧ Chg [] w w' := by
 have hv0 := hv;obtain ⟨⟨al, cl, rfl, hcapl, hrl⟩, hWl, hll⟩ := hv;have hch : Chg [] w w := Chg.refl _ _;have hg0 := hg;have hpos := hs.pos;obtain ⟨p1, p2⟩ := place_lt (m := s.length - 1) (num := num) hd.1 hn;have hplb : (s.length - 1) * num ≤ 65536 * 2147483648 := Nat.mul_le_mul (by omega) (by omega);generalize hpl : (s.length - 1) * num = pl at *;have hpl := hpl.symm;refine zE5 Tryz.func121 rfl ?_;refine Sr fun _ kh1 => za rfl (za rfl (zz (kh1 (Sr fun _ kh3 => zm rfl (zn rfl ?_)))));refine WL.ev (Ev.subIn rfl rfl (by omega)) rfl ?_;rw [show ((s.length : Nat) : Int) - 1 = ((s.length - 1 : Nat) : Int) by omega];refine zm rfl ?_;refine WL.ev (Ev.mulIn rfl rfl (by rw [← Int.natCast_mul, ← hpl]; omega)) rfl ?_;rw [← Int.natCast_mul, ← hpl];refine za rfl (zz (kh3 (zc fun _ kh5 => ?_)));refine CW.regionSC hmix (by kernel_rfl) fun kR6 kr6 hdr => ?_;have hch := hch.ta hdr;refine ym rfl (ym rfl ?_);refine WS.ev (Ev.quoIn rfl rfl (by omega) (by simp only [IntKind.max, IntKind.signed, IntKind.bits]; omega) (by omega)) rfl ?_;rw [show (pl : Int) / (den : Int) = ((pl / den : Nat) : Int) from rfl];refine ym rfl (ym rfl ?_);refine WS.ev (Ev.remIn rfl rfl (by omega) (by omega)) rfl ?_;rw [show (pl : Int) % (den : Int) = ((pl % den : Nat) : Int) from rfl];have hm1 := Nat.mod_lt pl (show den > 0 by omega);generalize hi : pl / den = i at *;generalize hr : pl % den = r at *;have hx := lt_getD2 hWl i;have hfx := finL_getD2 hs.fin (i := i) (by omega);refine ya rfl (ya rfl ?_);refine WS.nil (kr6 _ _ ?_);refine kh5 (zc fun _ kh7 => ?_);refine CW.seqM 34 (decide (r = 0 ∨ rule = 0)) ?_ ?_
 ·refine zR fun _ kr8 => ?_;refine zm rfl (zq rfl rfl (zm rfl ?_));refine zb ?_ ?_<;>intro hg1<;>try simp only [qs] at hg1
  ·refine zv rfl (zv rfl (zt rfl rfl ?_));refine WL.nil (kr8 _ _ _ ?_);refine ⟨rfl, rfl, Subs.consB rfl ?_ ?_⟩
   ·first | (simp; omega) | (simp_all; done) | (refine decide_eq_decide.2 ?_; omega)
   ·exact SMg
  ·refine zw rfl (zm rfl (zw rfl (zq rfl rfl (ze rfl rfl ?_))));refine WL.nil (kr8 _ _ _ ?_);refine ⟨rfl, rfl, Subs.consB rfl ?_ ?_⟩
   ·first | (simp; omega) | (simp_all; done) | (refine decide_eq_decide.2 ?_; omega)
   ·exact SMg
 ·refine zy rfl ?_ ?_<;>intro hc2<;>try simp only [qs] at hc2
  ·have hq : r = 0 ∨ rule = 0 := hc2
   refine Sr fun _ kh9 => zm rfl (zm rfl ?_);refine WL.ev (Ev.ixR (i) rfl rfl (hrl.keep0 hch) (by omega) (by omega) (by simp; omega)) rfl ?_;refine WL.ev (Ev.load rfl rfl ((hrl.keep0 hch).f64 (by first | omega | (simp; omega)))) rfl ?_;refine za rfl (za rfl (zz (kh9 ?_)));refine zr (zr2 rfl rfl rfl ?_);refine ⟨⟨_, _, rfl, ?_⟩, hch⟩;unfold atR;rw [← hpl, hi, hr, if_pos hq];exact ⟨rfl, rfl⟩
  ·have hq : ¬ (r = 0 ∨ rule = 0) := hc2
   have hi2 := p2 (fun q => hq (.inl q));have hy := lt_getD2 hWl (i + 1);have hfy := finL_getD2 hs.fin (i := i + 1) (by omega);refine zkk ?_;refine kh7 (zc fun _ kh11 => ?_);refine CW.regionSC hmix (by kernel_rfl) fun kR12 kr12 hdr => ?_;have hch := hch.ta hdr;refine ym rfl (ym rfl ?_);refine WS.ev (Ev.ixR (i) rfl rfl (hrl.keep0 hch) (by omega) (by omega) (by simp; omega)) rfl ?_;refine WS.ev (Ev.load rfl rfl ((hrl.keep0 hch).f64 (by first | omega | (simp; omega)))) rfl ?_;refine ym rfl (ym rfl ?_)
   first | refine WS.ev (Ev.addIn rfl rfl (by omega)) rfl ?_ | refine WS.ev (Ev.add rfl rfl) rfl ?_
   refine WS.ev (Ev.ixR ((i + 1)) rfl rfl (hrl.keep0 hch) (by omega) (by omega) (by simp; omega)) rfl ?_;refine WS.ev (Ev.load rfl rfl ((hrl.keep0 hch).f64 (by first | omega | (simp; omega)))) rfl ?_;refine ya rfl (ya rfl ?_);refine WS.nil (kr12 _ _ ?_);refine kh11 (zc fun _ kh13 => Sr fun _ kh14 => zm rfl (zz (kh14 ?_)));refine CW.block ?_;refine Sr fun _ kh16 => zq rfl rfl (za rfl (zz (kh16 ?_)));refine zy rfl ?_ ?_<;>intro hc3<;>try simp only [qs] at hc3
   ·have h3 : rule = 3 := hc3
    refine Sr fun _ kh18 => zm rfl (zm rfl (zm rfl ?_));refine WL.call hasF206 rfl rfl (Middle_spec (s.getD i 0) (s.getD (i + 1) 0) mode _ hx hy (hg0.keep0 hch)) fun v w1 h' => ?_;obtain ⟨⟨bits, e, rfl, hM⟩, hC⟩ := h';have hch := hch.ta hC;refine zx rfl rfl (zx rfl rfl (za rfl (za rfl (zz (kh18 ?_)))));refine zr (zr2 rfl rfl rfl ?_);refine ⟨⟨_, _, rfl, ?_⟩, hch⟩;unfold atR;rw [← hpl, hi, hr, if_neg hq, if_pos h3];exact hM
   ·have h3 : ¬ rule = 3 := hc3
    refine Sr fun _ kh20 => zq rfl rfl (za rfl (zz (kh20 ?_)));refine zy rfl ?_ ?_<;>intro hc4<;>try simp only [qs] at hc4
    ·have h4 : rule = 4 := hc4
     refine Sr fun _ kh22 => zm rfl (zm rfl (zm rfl (zm rfl (zm rfl ?_))));refine WL.call hasF207 rfl rfl (qline_spec (s.getD i 0) (s.getD (i + 1) 0) r den mode _ hx hy hfx hfy (by omega) hm1 (by omega) (hg0.keep0 hch)) fun v w2 h' => ?_;obtain ⟨⟨bits, e, rfl, hM⟩, hC⟩ := h';have hch := hch.ta hC;refine zx rfl rfl (zx rfl rfl (za rfl (za rfl (zz (kh22 ?_)))));refine zr (zr2 rfl rfl rfl ?_);refine ⟨⟨_, _, rfl, ?_⟩, hch⟩;unfold atR;rw [← hpl, hi, hr, if_neg hq, if_neg h3, if_pos h4];exact hM
    ·have h4 : ¬ rule = 4 := hc4
     refine Sr fun _ kh24 => zq rfl rfl (za rfl (zz (kh24 ?_)));refine zy rfl ?_ ?_<;>intro hc5<;>try simp only [qs] at hc5
     ·have h2 : rule = 2 := hc5
      refine Sr fun _ kh26 => zm rfl ?_;refine WL.ev (Ev.mulIn rfl rfl (by omega)) rfl ?_;refine zm rfl ?_;refine WL.ev (Ev.subIn rfl rfl (by omega)) rfl ?_;refine za rfl (zz (kh26 ?_));refine CW.seqM 83 (decide (2 * r < den ∨ (2 * r = den ∧ i % 2 = 0))) ?_ ?_
      ·refine zR fun _ kr28 => ?_;refine zm rfl ?_;refine WL.ev (Ev.lss rfl rfl) rfl ?_;refine zm rfl ?_;refine zb ?_ ?_<;>intro hg6<;>try simp only [qs] at hg6
       ·refine zv rfl (zv rfl (zv rfl (zu rfl (zu rfl (zu rfl (zv rfl (zt rfl rfl ?_)))))));refine WL.nil (kr28 _ _ _ ?_);refine ⟨rfl, rfl, Subs.consB rfl ?_ ?_⟩
        ·first | exact (decide_eq_true (by omega)).symm | exact (decide_eq_false (by omega)).symm | exact decide_eq_decide.2 (by omega)
        ·exact SMg
       ·refine zw rfl (zm rfl (zw rfl (zq rfl rfl (zw rfl (zm rfl ?_)))));refine zb ?_ ?_<;>intro hg7<;>try simp only [qs] at hg7
        ·refine zw rfl (zm rfl (zw rfl ?_));refine WL.ev (Ev.remIn rfl rfl (by omega) (by omega)) rfl ?_
         refine zw rfl (zq rfl rfl (zw rfl (zt rfl rfl (ze rfl rfl ?_))));refine WL.nil (kr28 _ _ _ ?_);refine ⟨rfl, rfl, Subs.consB rfl ?_ ?_⟩
         ·first | exact (decide_eq_true (by omega)).symm | exact (decide_eq_false (by omega)).symm | exact decide_eq_decide.2 (by omega)
         ·exact SMg
        ·refine zv rfl (zv rfl (zv rfl (zw rfl (ze rfl rfl (ze rfl rfl ?_)))));refine WL.nil (kr28 _ _ _ ?_);refine ⟨rfl, rfl, Subs.consB rfl ?_ ?_⟩
         ·first | exact (decide_eq_true (by omega)).symm | exact (decide_eq_false (by omega)).symm | exact decide_eq_decide.2 (by omega)
         ·exact SMg
      ·refine zy rfl ?_ ?_<;>intro hc8<;>try simp only [qs] at hc8
       ·have hn : 2 * r < den ∨ (2 * r = den ∧ i % 2 = 0) := hc8
        refine Sr fun _ kh29 => zm rfl (za rfl (za rfl (zz (kh29 ?_))));refine zr (zr2 rfl rfl rfl ?_);refine ⟨⟨_, _, rfl, ?_⟩, hch⟩;unfold atR;rw [← hpl, hi, hr, if_neg hq, if_neg h3, if_neg h4, if_pos ⟨h2, hn⟩];exact ⟨rfl, rfl⟩
       ·have hn : ¬ (2 * r < den ∨ (2 * r = den ∧ i % 2 = 0)) := hc8
        refine zkk ?_;refine kh13 (Sr fun _ kh31 => zm rfl (za rfl (za rfl (zz (kh31 ?_)))));refine zr (zr2 rfl rfl rfl ?_);refine ⟨⟨_, _, rfl, ?_⟩, hch⟩;unfold atR;rw [← hpl, hi, hr, if_neg hq, if_neg h3, if_neg h4, if_neg (fun z => hn z.2)];exact ⟨rfl, rfl⟩
     ·have h2 : ¬ rule = 2 := hc5
      refine zkk ?_;refine kh13 (Sr fun _ kh33 => zm rfl (za rfl (za rfl (zz (kh33 ?_)))));refine zr (zr2 rfl rfl rfl ?_);refine ⟨⟨_, _, rfl, ?_⟩, hch⟩;unfold atR;rw [← hpl, hi, hr, if_neg hq, if_neg h3, if_neg h4, if_neg (fun z => h2 z.1)];exact ⟨rfl, rfl⟩

end

/- Package quant: Quantile, Several, Share. No condition. -/
section
open Go Sx Wd Fl

theorem GR.of_FB {w : World} {lo b k : Nat} {e : TypeId} {X l : List Nat} (h : FB w b e l) (hk : k = l.length) (hm : l.length ≤ 281474976710656) (hlo : lo ≤ b) (hX : b ∉ X) : GR w e f64v lo X (.slice (some ⟨b, 0, none⟩) k k) l := by
  subst hk
  exact ⟨⟨by simp, .inr ⟨b, l.length, _, rfl, Nat.zero_le _, h, Nat.le_refl _, by unfold maxLen; omega, by simp, by rw [Nat.mul_one, List.take_of_length_le (by simp)]⟩⟩, fun b' hb => by cases hb; exact ⟨hlo, hX⟩⟩
theorem sev_step {L : List Nat} {i b : Nat} {e : Int} {Q : Nat → Nat → Int → Prop} (h : ∀ k, k < i → ∃ e, Q k (L.getD k 0) e) (hi : i < L.length) (hA : Q i b e) : ∀ k, k < i + 1 → ∃ e, Q k ((L.set i b).getD k 0) e := fun k hk => by
  by_cases q : k = i
  · subst q
    refine ⟨e, ?_⟩
    rw [List.getD_eq_getElem?_getD, List.getElem?_set_self hi]
    exact hA
  · rw [List.getD_eq_getElem?_getD, List.getElem?_set_ne (by omega), ← List.getD_eq_getElem?_getD]
    exact h k (by omega)
structure KSv (s : List Nat) (sv : Value) (pn : Nat) (rule mode : Int) (b lo : Nat) (w0 : World) (g : Nat × List Nat) (w : World) : Prop where
  hi : g.1 ≤ pn + 1
  len : g.2.length = pn + 1
  f : ∀ k, k < g.1 → ∃ e, atR s k pn rule mode (g.2.getD k 0) e
  hB : FB w b 31 g.2
  hg : GR w 31 f64v lo [b] sv s
  ch : Chg [] w0 w
def cntLE (l : List Nat) (x : Nat) : Nat := (l.filter fun z => FloatKind.f64.format.order z x == some .lt || FloatKind.f64.format.order z x == some .eq).length
theorem cntLE_step {l : List Nat} {x i : Nat} (hi : i < l.length) : cntLE (l.take (i + 1)) x = cntLE (l.take i) x + if (FloatKind.f64.format.order (l.getD i 0) x == some .lt || FloatKind.f64.format.order (l.getD i 0) x == some .eq) = true then 1 else 0 := by
  have e1 : l.getD i 0 = l[i] := by rw [List.getD_eq_getElem?_getD, List.getElem?_eq_getElem hi]; rfl
  unfold cntLE
  rw [List.take_succ_eq_append_getElem hi, List.filter_append, List.length_append, e1]
  split
  · rename_i q; rw [List.filter_cons_of_pos (by simpa using q)]; rfl
  · rename_i q; rw [List.filter_cons_of_neg (by simpa using q)]; rfl
theorem cntLE_le (l : List Nat) (x : Nat) : cntLE l x ≤ l.length := List.length_filter_le _ _
structure KSs (l : List Nat) (x : Nat) (w0 : World) (i : Nat) (w : World) : Prop where
  hi : i ≤ l.length
  ch : Chg [] w0 w

theorem Quantile_spec (v : Value) (l : List Nat) (num den rule mode : Int) (w : World) (hv : NF w v l) (hnr : -9223372036854775808 ≤ num ∧ num ≤ 9223372036854775807) (hdr : -9223372036854775808 ≤ den ∧ den ≤ 9223372036854775807) (hg : GW w) : Ret Tryz.prog 40 [v, .int .i64 num, .int .i64 den, .int .i64 rule, .int .i64 mode] w fun u w' => (∃ bits e, u = .tuple [.float .f64 bits, .int .i64 e].toArray ∧ quantR l num den rule mode bits e) ∧ Chg [] w w' := by
 have hWl := hv.hw;have hll := hv.len;have hov := hv.one;have hch : Chg [] w w := Chg.refl _ _;have hg0 := hg;refine zE5 Tryz.func40 rfl ?_;refine Sr fun _ kh1 => za rfl (za rfl (zz (kh1 (zc fun _ kh3 => ?_))));refine CW.seqM 33 (decide (¬ askQ num den rule mode)) ?_ ?_
 ·refine zR fun _ kr4 => ?_;refine zm rfl (zm rfl ?_);refine WL.call hasF119 rfl rfl (qmay_spec rule mode _) fun v w1 h' => ?_;obtain ⟨rfl, rfl⟩ := h';refine WL.ev (Ev.not rfl) rfl ?_;refine zm rfl ?_;refine zb ?_ ?_<;>intro hg1<;>try simp only [qs] at hg1
  ·refine zv rfl (zv rfl (zt rfl rfl (zm rfl (zv rfl (zv rfl (zt rfl rfl (zm rfl (zv rfl (zv rfl (zt rfl rfl (zm rfl (zv rfl (zv rfl (zv rfl (zt rfl rfl ?_)))))))))))))));refine WL.nil (kr4 _ _ _ ?_);refine ⟨rfl, rfl, Subs.consB rfl ?_ ?_⟩
   ·first | exact (decide_eq_true (by unfold askQ; omega)).symm | exact (decide_eq_false (by unfold askQ; omega)).symm | exact decide_eq_decide.2 (by unfold askQ; omega)
   ·exact SMg
  ·refine zw rfl (zm rfl (zw rfl ?_));refine WL.ev (Ev.lss rfl rfl) rfl ?_
   refine ze rfl rfl (zm rfl ?_);refine zb ?_ ?_<;>intro hg2<;>try simp only [qs] at hg2
   ·refine zv rfl (zv rfl (zt rfl rfl (zm rfl (zv rfl (zv rfl (zt rfl rfl (zm rfl (zv rfl (zv rfl (zv rfl (zt rfl rfl ?_)))))))))));refine WL.nil (kr4 _ _ _ ?_);refine ⟨rfl, rfl, Subs.consB rfl ?_ ?_⟩
    ·first | exact (decide_eq_true (by unfold askQ; omega)).symm | exact (decide_eq_false (by unfold askQ; omega)).symm | exact decide_eq_decide.2 (by unfold askQ; omega)
    ·exact SMg
   ·refine zw rfl (zm rfl (zw rfl ?_));refine WL.ev (Ev.gtr rfl rfl) rfl ?_
    refine ze rfl rfl (zm rfl ?_);refine zb ?_ ?_<;>intro hg3<;>try simp only [qs] at hg3
    ·refine zv rfl (zv rfl (zt rfl rfl (zm rfl (zv rfl (zv rfl (zv rfl (zt rfl rfl ?_)))))));refine WL.nil (kr4 _ _ _ ?_);refine ⟨rfl, rfl, Subs.consB rfl ?_ ?_⟩
     ·first | exact (decide_eq_true (by unfold askQ; omega)).symm | exact (decide_eq_false (by unfold askQ; omega)).symm | exact decide_eq_decide.2 (by unfold askQ; omega)
     ·exact SMg
    ·refine zw rfl (zm rfl (zw rfl ?_));refine WL.ev (Ev.lss rfl rfl) rfl ?_
     refine ze rfl rfl (zm rfl ?_);refine zb ?_ ?_<;>intro hg4<;>try simp only [qs] at hg4
     ·refine zv rfl (zv rfl (zv rfl (zt rfl rfl ?_)));refine WL.nil (kr4 _ _ _ ?_);refine ⟨rfl, rfl, Subs.consB rfl ?_ ?_⟩
      ·first | exact (decide_eq_true (by unfold askQ; omega)).symm | exact (decide_eq_false (by unfold askQ; omega)).symm | exact decide_eq_decide.2 (by unfold askQ; omega)
      ·exact SMg
     ·refine zw rfl (zm rfl (zw rfl (zm rfl (zw rfl ?_))));refine WL.ev (Ev.gtr rfl rfl) rfl ?_
      refine ze rfl rfl ?_;refine WL.nil (kr4 _ _ _ ?_);refine ⟨rfl, rfl, Subs.consB rfl ?_ ?_⟩
      ·first | exact (decide_eq_true (by unfold askQ; omega)).symm | exact (decide_eq_false (by unfold askQ; omega)).symm | exact decide_eq_decide.2 (by unfold askQ; omega)
      ·exact SMg
 ·refine zy rfl ?_ ?_<;>intro hc5<;>try simp only [qs] at hc5
  ·have hq : ¬ askQ num den rule mode := hc5
   refine Sr fun _ kh5 => za rfl (za rfl (zz (kh5 ?_)));refine zr (zr2 rfl rfl rfl ?_);exact ⟨⟨_, _, rfl, .inl ⟨hq, rfl, rfl⟩⟩, hch⟩
  ·have hq : askQ num den rule mode := hc5
   obtain ⟨hm, hru, hde, hnu, hnd⟩ := id hq;obtain ⟨nn, rfl⟩ := Int.eq_ofNat_of_zero_le hnu;obtain ⟨dn, rfl⟩ := Int.eq_ofNat_of_zero_le (show 0 ≤ den by omega);refine zkk ?_;refine kh3 (zc fun _ kh7 => Sr fun _ kh8 => zm rfl ?_);refine WL.call hasF120 rfl rfl (refused_spec v l _ (hv.keep0 hch)) fun v w2 h' => ?_;obtain ⟨rfl, hC⟩ := h';have hch := hch.ta hC;refine za rfl (zz (kh8 (Sr fun _ kh10 => zm rfl ?_)));refine WL.ev (Ev.neq rfl rfl) rfl ?_;refine zz (kh10 ?_);refine zy rfl ?_ ?_<;>intro hc6<;>try simp only [qs] at hc6
   ·have h0 : refuseE l ≠ 0 := hc6
    refine Sr fun _ kh12 => zm rfl (za rfl (za rfl (zz (kh12 ?_))));refine zr (zr2 rfl rfl rfl ?_);exact ⟨⟨_, _, rfl, .inr ⟨hq, .inl ⟨h0, rfl, rfl⟩⟩⟩, hch⟩
   ·have h0 : refuseE l = 0 := hc6
    obtain ⟨hl6, hf, hne⟩ := refuse_ok h0;have hRow := Row.of hf hWl hne;have hsl := sortP_length l;have hsW := hRow.w;refine zkk ?_;refine kh7 (Sr fun _ kh14 => zm rfl ?_);refine WL.call hasF122 rfl rfl (qsorted_spec v l _ (hv.keep0 hch) hl6 hf hne) fun v w3 h' => ?_;obtain ⟨hgs, hC⟩ := h';have hNs := hgs.nf hsW (by omega);have hch := hch.ta hC;refine zm rfl (zm rfl (zm rfl (zm rfl ?_)));refine WL.call hasF121 rfl rfl (qat_spec _ (sortP l) nn dn rule mode _ hNs hRow (by omega) (by omega) (by omega) (hg0.keep0 hch)) fun v w4 h' => ?_;obtain ⟨⟨bits, e, rfl, hA⟩, hC⟩ := h';have hch := hch.ta hC;refine zx rfl rfl (zx rfl rfl (za rfl (za rfl (zz (kh14 ?_)))));refine zr (zr2 rfl rfl rfl ?_);exact ⟨⟨_, _, rfl, .inr ⟨hq, .inr ⟨h0, hA⟩⟩⟩, hch⟩

theorem Several_spec (v : Value) (l : List Nat) (parts rule mode : Int) (w : World) (hv : NF w v l) (hpr : -9223372036854775808 ≤ parts ∧ parts ≤ 9223372036854775807) (hg : GW w) : Ret Tryz.prog 118 [v, .int .i64 parts, .int .i64 rule, .int .i64 mode] w fun u w' => (∃ vL L e, u = .tuple [vL, .int .i64 e].toArray ∧ GR w' 31 f64v w.heap.size [] vL L ∧ sevR l parts rule mode L e) ∧ Chg [] w w' := by
 have hWl := hv.hw;have hll := hv.len;have hov := hv.one;have hch : Chg [] w w := Chg.refl _ _;have hg0 := hg;refine zE4 Tryz.func118 rfl ?_;refine Sr fun _ kh1 => za rfl (za rfl (zz (kh1 (zc fun _ kh3 => ?_))));refine CW.seqM 25 (decide (¬ partQ parts rule mode)) ?_ ?_
 ·refine zR fun _ kr4 => ?_;refine zm rfl (zm rfl ?_);refine WL.call hasF119 rfl rfl (qmay_spec rule mode _) fun v w1 h' => ?_;obtain ⟨rfl, rfl⟩ := h';refine WL.ev (Ev.not rfl) rfl ?_;refine zm rfl ?_;refine zb ?_ ?_<;>intro hg1<;>try simp only [qs] at hg1
  ·refine zv rfl (zv rfl (zt rfl rfl (zm rfl (zv rfl (zv rfl (zt rfl rfl ?_))))));refine WL.nil (kr4 _ _ _ ?_);refine ⟨rfl, rfl, Subs.consB rfl ?_ ?_⟩
   ·first | exact (decide_eq_true (by unfold partQ; omega)).symm | exact (decide_eq_false (by unfold partQ; omega)).symm | exact decide_eq_decide.2 (by unfold partQ; omega)
   ·exact SMg
  ·refine zw rfl (zm rfl (zw rfl ?_));refine WL.ev (Ev.lss rfl rfl) rfl ?_
   refine ze rfl rfl (zm rfl ?_);refine zb ?_ ?_<;>intro hg2<;>try simp only [qs] at hg2
   ·refine zv rfl (zv rfl (zt rfl rfl ?_));refine WL.nil (kr4 _ _ _ ?_);refine ⟨rfl, rfl, Subs.consB rfl ?_ ?_⟩
    ·first | exact (decide_eq_true (by unfold partQ; omega)).symm | exact (decide_eq_false (by unfold partQ; omega)).symm | exact decide_eq_decide.2 (by unfold partQ; omega)
    ·exact SMg
   ·refine zw rfl (zm rfl (zw rfl ?_));refine WL.ev (Ev.gtr rfl rfl) rfl ?_
    refine ze rfl rfl ?_;refine WL.nil (kr4 _ _ _ ?_);refine ⟨rfl, rfl, Subs.consB rfl ?_ ?_⟩
    ·first | exact (decide_eq_true (by unfold partQ; omega)).symm | exact (decide_eq_false (by unfold partQ; omega)).symm | exact decide_eq_decide.2 (by unfold partQ; omega)
    ·exact SMg
 ·refine zy rfl ?_ ?_<;>intro hc3<;>try simp only [qs] at hc3
  ·have hq : ¬ partQ parts rule mode := hc3
   refine Sr fun _ kh5 => za rfl (za rfl (zz (kh5 ?_)));refine zr (zr2 rfl rfl rfl ?_);exact ⟨⟨_, [], _, rfl, GR.nil, .inl ⟨hq, rfl, rfl⟩⟩, hch⟩
  ·have hq : partQ parts rule mode := hc3
   obtain ⟨hm, hru, hp1, hp2⟩ := id hq;obtain ⟨pn, rfl⟩ := Int.eq_ofNat_of_zero_le (show 0 ≤ parts by omega);refine zkk ?_;refine kh3 (zc fun _ kh7 => Sr fun _ kh8 => zm rfl ?_);refine WL.call hasF120 rfl rfl (refused_spec v l _ (hv.keep0 hch)) fun v w2 h' => ?_;obtain ⟨rfl, hC⟩ := h';have hch := hch.ta hC;refine za rfl (zz (kh8 (Sr fun _ kh10 => zm rfl ?_)));refine WL.ev (Ev.neq rfl rfl) rfl ?_;refine zz (kh10 ?_);refine zy rfl ?_ ?_<;>intro hc4<;>try simp only [qs] at hc4
   ·have h0 : refuseE l ≠ 0 := hc4
    refine Sr fun _ kh12 => zm rfl (za rfl (za rfl (zz (kh12 ?_))));refine zr (zr2 rfl rfl rfl ?_);exact ⟨⟨_, [], _, rfl, GR.nil, .inr ⟨hq, .inl ⟨h0, rfl, rfl⟩⟩⟩, hch⟩
   ·have h0 : refuseE l = 0 := hc4
    obtain ⟨hl6, hf, hne⟩ := refuse_ok h0;have hRow := Row.of hf hWl hne;have hsl := sortP_length l;have hsW := hRow.w;refine zkk ?_;refine kh7 (Sr fun _ kh14 => zm rfl ?_);refine WL.call hasF122 rfl rfl (qsorted_spec v l _ (hv.keep0 hch) hl6 hf hne) fun vs w3 h' => ?_;obtain ⟨hgs, hC⟩ := h';have hlo := hch.size;generalize hSs : sortP l = s at *;have hone := hgs.one;have hch := hch.ta hC;refine za rfl (zz (kh14 (Sr fun _ kh16 => zm rfl ?_)));refine WL.ev (Ev.addIn rfl rfl (by omega)) rfl ?_;rw [show (pn : Int) + 1 = ((pn + 1 : Nat) : Int) by omega];have hgs0 := hgs;refine WL.makeF ((pn + 1)) ((pn + 1)) rfl rfl (by omega) (by omega) (by omega) (by omega) (by omega) rfl fun b35 wm35 hb35 hcm35 hge35 => ?_;have hgehch35 := Nat.le_trans hch.size hge35;have hch := hch.ta hcm35;have hgs := hgs.keep0 hcm35;refine za rfl (zz (kh16 (zc fun _ kh18 => zc fun _ kh19 => ?_)));have hgs := (hgs0.mono (X' := [b35]) (Nat.le_refl _) (by intro b hb; simp only [List.mem_singleton] at hb; subst hb; exact .inr (.inr hge35))).keep0 hcm35;obtain ⟨lo, hgs⟩ : ∃ lo, GR _ 31 f64v lo [b35] vs s := ⟨_, hgs⟩;refine zR fun _ kr20 => ?_;refine zm rfl (zn rfl (zm rfl ?_));refine WL.nil (kr20 _ _ _ (kh19 ?_));refine CW.block ?_;refine CW.loop (S := fun g : Nat × List Nat => [(1, .int .i64 (pn : Int)), (2, .int .i64 rule), (3, .int .i64 mode), (11, vs), (12, .slice (some ⟨b35, 0, none⟩) (pn + 1) (pn + 1)), (37, .int .i64 ((pn + 1 : Nat) : Int)), (38, .int .i64 (g.1 : Int))]) (Inv := KSv s vs pn rule mode b35 lo w) (mu := fun g => pn + 1 - g.1) ((0, List.replicate (pn + 1) 0)) ?_ ?_ ?_
    ·exact ⟨Nat.zero_le _, by simp, fun k hk => absurd hk (Nat.not_lt_zero _), hb35, hgs, hch⟩
    ·exact SLp
    ·rintro ⟨i, L⟩ wr ⟨hi, hlen, hfk, hb35, hgs, hch⟩;dsimp only at hi hlen hfk hb35 hgs hch;dsimp only;refine Sr fun _ kh21 => ?_;refine WL.ev (Ev.lss rfl rfl) rfl ?_;refine zz (kh21 (zc fun _ kh23 => ?_));refine zy rfl ?_ ?_<;>intro hc5<;>try simp only [qs] at hc5
     ·refine zkk ?_
      refine kh23 (zc fun _ kh24 => ?_);refine CW.block ?_;refine Sr fun _ kh25 => zm rfl (za rfl (zz (kh25 ?_)));refine zR fun _ kr27 => ?_;refine zm rfl (zm rfl (zm rfl (zm rfl (zm rfl (zm rfl (zm rfl ?_))))));refine WL.call hasF121 rfl rfl (qat_spec _ s i pn rule mode _ (hgs.nf hsW (by omega)) hRow (by omega) (by omega) (by omega) (hg0.keep0 hch)) fun v w4 h' => ?_;obtain ⟨⟨bits, e, rfl, hA⟩, hC⟩ := h';have hch := hch.ta hC;have hb35 := hb35.k0 hC;have hgs := hgs.keep0 hC;refine zm rfl (zx rfl rfl (zx rfl rfl ?_));refine WL.ev (Ev.ixB (i) rfl rfl (by omega) (by omega)) rfl ?_;refine WL.storeF rfl rfl hb35 (by first | omega | (simp; done) | (simp; omega)) fun ws7 hb35_ hcs7 => ?_;have hch := hch.s1 hcs7;have hgs := hgs.keep hcs7 (fun y hy => by simp only [List.mem_singleton] at hy; subst hy; first | exact .inl (by simp) | exact .inr (.inl (by omega)) | exact .inr (.inr (by omega)));have hb35 := hb35_;refine WL.nil (kr27 _ _ _ (kh24 ?_));refine zR fun _ kr28 => ?_;(first | refine zi rfl rfl ?_ | refine zo rfl rfl ?_);refine zm rfl ?_;refine WL.nil (kr28 _ _ _ ?_);refine ⟨rfl, (i + 1, L.set i bits), ?_, ?_, ?_⟩
      ·exact SLp
      ·exact ⟨by show i + 1 ≤ pn + 1; omega, by dsimp only; rw [List.length_set, hlen], sev_step (Q := fun k => atR s k pn rule mode) hfk (by omega) hA, hb35, hgs, hch⟩
      ·show pn + 1 - (i + 1) < pn + 1 - i; omega
     ·have hiX : i = pn + 1 := by omega
      subst hiX;refine CW.exit ?_;refine kh18 (Sr fun _ kh29 => zm rfl (za rfl (za rfl (zz (kh29 ?_)))));refine zr (zr2 rfl rfl rfl ?_);refine ⟨⟨_, L, _, rfl, GR.of_FB hb35 hlen.symm (by omega) hgehch35 (by simp), .inr ⟨hq, .inr ⟨h0, rfl, hlen, fun k hk => ?_⟩⟩⟩, hch⟩;rw [hSs];exact hfk k (by have : (pn : Int).toNat = pn := rfl; omega)

theorem Share_spec (v : Value) (l : List Nat) (x : Nat) (w : World) (hv : NF w v l) : Ret Tryz.prog 117 [v, .float .f64 x] w fun u w' => (∃ a b e, u = .tuple [.int .i64 a, .int .i64 b, .int .i64 e].toArray ∧ shareR l x a b e) ∧ Chg [] w w' := by
 have hv0 := hv;obtain ⟨⟨al, cl, rfl, hcapl, hrl⟩, hWl, hll⟩ := hv;have hch : Chg [] w w := Chg.refl _ _;refine zE2 Tryz.func117 rfl ?_;refine Sr fun _ kh1 => za rfl (za rfl (za rfl (zz (kh1 (Sr fun _ kh3 => zm rfl ?_)))));refine WL.call hasF120 rfl rfl (refused_spec _ l _ (hv0.keep0 hch)) fun v w1 h' => ?_;obtain ⟨rfl, hC⟩ := h';have h3 := refuse_three l;have hch := hch.ta hC;refine za rfl (zz (kh3 (zc fun _ kh5 => ?_)));refine CW.seqM 15 (decide (refuseE l = 2 ∨ refuseE l = 30)) ?_ ?_
 ·refine zR fun _ kr6 => ?_;refine zm rfl (zq rfl rfl (zm rfl ?_));refine zb ?_ ?_<;>intro hg1<;>try simp only [qs] at hg1
  ·refine zv rfl (zv rfl (zt rfl rfl ?_));refine WL.nil (kr6 _ _ _ ?_);refine ⟨rfl, rfl, Subs.consB rfl ?_ ?_⟩
   ·first | (simp; omega) | (simp_all; done) | (refine decide_eq_decide.2 ?_; omega)
   ·exact SMg
  ·refine zw rfl (zm rfl (zw rfl (zq rfl rfl (ze rfl rfl ?_))));refine WL.nil (kr6 _ _ _ ?_);refine ⟨rfl, rfl, Subs.consB rfl ?_ ?_⟩
   ·first | (simp; omega) | (simp_all; done) | (refine decide_eq_decide.2 ?_; omega)
   ·exact SMg
 ·refine zy rfl ?_ ?_<;>intro hc2<;>try simp only [qs] at hc2
  ·have hq : refuseE l = 2 ∨ refuseE l = 30 := hc2
   refine Sr fun _ kh7 => zm rfl (za rfl (za rfl (za rfl (zz (kh7 ?_)))));refine zr ?_;refine bodyA.ret3 rfl rfl rfl rfl ?_;refine ⟨⟨_, _, _, rfl, ?_⟩, hch⟩;exact .inl ⟨hq, rfl, rfl, rfl⟩
  ·have hq : ¬ (refuseE l = 2 ∨ refuseE l = 30) := hc2
   refine zkk ?_;refine kh5 (zc fun _ kh9 => Sr fun _ kh10 => zm rfl (zm rfl ?_));refine WL.ev (Ev.fneq rfl rfl) rfl ?_;rw [bne, order_self_eq, Bool.not_not];refine zz (kh10 ?_);refine zy rfl ?_ ?_<;>intro hc3<;>try simp only [qs] at hc3
   ·have hx : isNaN x = true := hc3
    refine Sr fun _ kh12 => za rfl (za rfl (za rfl (zz (kh12 ?_))));refine zr ?_;refine bodyA.ret3 rfl rfl rfl rfl ?_;refine ⟨⟨_, _, _, rfl, ?_⟩, hch⟩;exact .inr ⟨hq, .inl ⟨hx, rfl, rfl, rfl⟩⟩
   ·have hx : isNaN x = false := by simpa using hc3
    refine zkk ?_;refine kh9 (zc fun _ kh14 => Sr fun _ kh15 => zm rfl ?_);refine WL.ev (Ev.neq rfl rfl) rfl ?_;refine zz (kh15 ?_);refine zy rfl ?_ ?_<;>intro hc4<;>try simp only [qs] at hc4
    ·have h0 : refuseE l ≠ 0 := hc4
     refine Sr fun _ kh17 => zm rfl (za rfl (za rfl (za rfl (zz (kh17 ?_)))));refine zr ?_;refine bodyA.ret3 rfl rfl rfl rfl ?_;refine ⟨⟨_, _, _, rfl, ?_⟩, hch⟩;exact .inr ⟨hq, .inr ⟨hx, .inl ⟨h0, rfl, rfl, rfl⟩⟩⟩
    ·have h0 : refuseE l = 0 := hc4
     refine zkk ?_;refine kh14 (zc fun _ kh19 => Sr fun _ kh20 => zm rfl (zn rfl (zm rfl (zz (kh20 ?_)))));refine CW.block ?_;refine CW.loop (S := fun i : Nat => [(0, .slice al l.length cl), (1, .float .f64 x), (4, .int .i64 (cntLE (l.take i) x : Int)), (24, .int .i64 (l.length : Int)), (25, .int .i64 (i : Int))]) (Inv := KSs l x w) (mu := fun i => l.length - i) (0) ?_ ?_ ?_
     ·exact ⟨Nat.zero_le _, hch⟩
     ·exact SLp
     ·rintro i wr ⟨hi, hch⟩;have hle := cntLE_le (l.take i) x;rw [List.length_take] at hle;refine Sr fun _ kh22 => ?_;refine WL.ev (Ev.lss rfl rfl) rfl ?_;refine zz (kh22 (zc fun _ kh24 => ?_));refine zy rfl ?_ ?_<;>intro hc5<;>try simp only [qs] at hc5
      ·have hst := cntLE_step (l := l) (x := x) (i := i) (by omega);refine zkk ?_
       refine kh24 (zc fun _ kh25 => ?_);refine CW.block ?_;refine Sr fun _ kh26 => zm rfl (za rfl (zz (kh26 (Sr fun _ kh28 => zm rfl (zm rfl ?_)))));refine WL.ev (Ev.ixR (i) rfl rfl (hrl.keep0 hch) (by omega) (by omega) (by simp; omega)) rfl ?_;refine WL.ev (Ev.load rfl rfl ((hrl.keep0 hch).f64 (by first | omega | (simp; omega)))) rfl ?_;refine zm rfl ?_;refine WL.ev (Ev.fleq rfl rfl) rfl ?_;refine zz (kh28 ?_);refine zy rfl ?_ ?_<;>intro hc6<;>try simp only [qs] at hc6
       ·rw [if_pos (by rw [Bool.or_eq_true]; exact hc6)] at hst
        refine zR fun _ kr30 => ?_;refine zm rfl ?_;refine WL.ev (Ev.addIn rfl rfl (by omega)) rfl ?_;rw [show ((cntLE (l.take i) x : Nat) : Int) + 1 = ((cntLE (l.take (i + 1)) x : Nat) : Int) by omega];refine za rfl ?_;refine WL.nil (kr30 _ _ _ (kh25 ?_));refine zR fun _ kr31 => ?_;(first | refine zi rfl rfl ?_ | refine zo rfl rfl ?_);refine zm rfl ?_;refine WL.nil (kr31 _ _ _ ?_);refine ⟨rfl, i + 1, ?_, ?_, ?_⟩
        ·exact SLp
        ·exact ⟨by omega, hch⟩
        ·show l.length - (i + 1) < l.length - i; omega
       ·rw [if_neg (by rw [hc6]; exact Bool.false_ne_true)] at hst
        have hst2 : cntLE (l.take (i + 1)) x = cntLE (l.take i) x := hst;rw [← hst2];refine zkk ?_;refine kh25 ?_;refine zR fun _ kr32 => ?_;(first | refine zi rfl rfl ?_ | refine zo rfl rfl ?_);refine zm rfl ?_;refine WL.nil (kr32 _ _ _ ?_);refine ⟨rfl, i + 1, ?_, ?_, ?_⟩
        ·exact SLp
        ·exact ⟨by omega, hch⟩
        ·show l.length - (i + 1) < l.length - i; omega
      ·have hiX : i = l.length := by omega
       subst hiX;refine CW.exit ?_;refine kh19 (Sr fun _ kh33 => zm rfl (zm rfl (zn rfl (za rfl (za rfl (za rfl (zz (kh33 ?_))))))));refine zr ?_;refine bodyA.ret3 rfl rfl rfl rfl ?_;refine ⟨⟨_, _, _, rfl, ?_⟩, hch⟩;refine .inr ⟨hq, .inr ⟨hx, .inr ⟨h0, ?_, rfl, rfl⟩⟩⟩;rw [List.take_length]; rfl

end

/- Package steelyardlaw16: live, exact. No condition. -/
section
open Go Sx Wd Fl

theorem qlive_spec (w : World) (hg : GW w) : Ret Tryz.prog 39 [] w fun u w' => u = .bool true ∧ Chg [] w w' := by
 have hch : Chg [] w w := Chg.refl _ _;have hg0 := hg;refine zE0 Tryz.func39 rfl ?_;refine Sr fun _ kh1 => za rfl (zz (kh1 (Sr fun _ kh3 => ?_)));refine WL.buildSlice (m := 4) (cs := [f64v (4621819117588971520), f64v (4630826316843712512), f64v (4626322717216342016), f64v (4629137466983448576)]) (by decide) (by decide) rfl (by kernel_rfl) rfl fun b9 w9 hn9 => ?_;have hcm9 := hn9.chg;have hge9 := hn9.ge;have hb9 : FB w9 b9 _ [4621819117588971520, 4630826316843712512, 4626322717216342016, 4629137466983448576] := hn9.at_;have hgehch9 := Nat.le_trans hch.size hge9;have hch := hch.ta hcm9;refine za rfl (zz (kh3 (Sr fun _ kh5 => zm rfl ?_)));refine WL.call hasF40 rfl rfl (Quantile_spec _ lvq 1 4 4 0 _ (NF.of_row hb9.row (by decide) (by decide) rfl (by decide)) (by decide) (by decide) (hg0.keep0 hch)) fun v w1 h' => ?_;obtain ⟨⟨bits, e, rfl, hM⟩, hC12⟩ := h';obtain ⟨rfl, rfl⟩ := live_quant hM;have hch := hch.ta hC12;have hb9 := hb9.k0 hC12;refine zm rfl (zx rfl rfl (zx rfl rfl (za rfl (za rfl (zz (kh5 (Sr fun _ kh7 => zm rfl ?_)))))));refine WL.call hasF117 rfl rfl (Share_spec _ lvq 4626322717216342016 _ (NF.of_row hb9.row (by decide) (by decide) rfl (by decide))) fun v w2 h' => ?_;obtain ⟨⟨a, b, e, rfl, hM⟩, hC17⟩ := h';obtain ⟨ha, hb, rfl⟩ := share_fin hM lvq_ok (by decide +kernel);rw [live_share] at ha;obtain rfl : a = 2 := ha;obtain rfl : b = 4 := hb;have hch := hch.ta hC17;have hb9 := hb9.k0 hC17;refine zm rfl (zx rfl rfl (zx rfl rfl (zx rfl rfl (za rfl (za rfl (za rfl (zz (kh7 (Sr fun _ kh9 => zm rfl ?_)))))))));refine WL.call hasF118 rfl rfl (Several_spec _ lvq 2 3 0 _ (NF.of_row hb9.row (by decide) (by decide) rfl (by decide)) (by decide) (hg0.keep0 hch)) fun v w3 h' => ?_;obtain ⟨⟨vL, Ls, e, rfl, hgs, hM⟩, hC23⟩ := h';obtain ⟨rfl, hL3, hL1⟩ := live_sev hM;obtain ⟨aL, cL, rfl, hcL, hrL⟩ := hgs.row;have hch := hch.ta hC23;refine zm rfl (zx rfl rfl (zx rfl rfl (za rfl (za rfl (zz (kh9 (Sr fun _ kh11 => zm rfl (zq rfl rfl (zm rfl (zw rfl (zm rfl (zw rfl ?_))))))))))));refine WL.ev (Ev.feql rfl rfl) rfl ?_;rw [show (FloatKind.f64.format.order 4625619029774565376 4625619029774565376 == some .eq) = true by rw [Fl.order_self_eq]; decide];refine zt rfl rfl (zm rfl (zw rfl (zm rfl (zw rfl (zq rfl rfl (zt rfl rfl (zm rfl (zw rfl (zm rfl (zw rfl (zq rfl rfl (zt rfl rfl (zm rfl (zw rfl (zm rfl (zw rfl (zq rfl rfl (zt rfl rfl (zm rfl (zw rfl (zm rfl (zw rfl (zq rfl rfl ?_)))))))))))))))))))))));refine zt rfl rfl (zm rfl (zw rfl (zm rfl (zw rfl (zn rfl (zw rfl (zq rfl rfl ?_)))))));rw [hL3];refine zt rfl rfl (zm rfl (zw rfl (zm rfl (zw rfl ?_))));refine WL.ev (Ev.ixR (1) rfl rfl hrL (by omega) (by omega) (by simp; omega)) rfl ?_;refine zw rfl ?_;refine WL.ev (Ev.load rfl rfl (hrL.f64 (by first | omega | (simp; omega)))) rfl ?_;refine zw rfl ?_;refine WL.ev (Ev.feql rfl rfl) rfl ?_
 rw [hL1];rw [show (FloatKind.f64.format.order 4627730092099895296 4627730092099895296 == some .eq) = true by rw [Fl.order_self_eq]; decide];refine zt rfl rfl (za rfl (zz (kh11 ?_)));refine zr (zr1 rfl rfl ?_);exact ⟨rfl, hch⟩

end

/- Reference of layer 1: lists that are lent. No condition. -/
section
open Go Sx Wd

end

/- Package steelyardlaw16: QuantMedian. No condition. -/
section
open Go Sx Wd Fl

structure KLm (l : List Nat) (w0 : World) (i : Nat) (w : World) : Prop where
  hi : i ≤ l.length
  f : finL (l.take i)
  ch : Chg [] w0 w
theorem finM_step {l : List Nat} {i : Nat} (h : i < l.length) : finL (l.take (i + 1)) ↔ finL (l.take i) ∧ (splitP (l.getD i 0)).cls ≤ 2 := finL_step h

theorem QuantMedian_spec (v : Value) (l : List Nat) (mode : Int) (w : World) (hg : GW w) (hvl : NF w v l ∧ l.length ≤ 17592186044415) (hmode : -9223372036854775808 ≤ mode ∧ mode ≤ 9223372036854775807) : Ret Tryz.prog 8 [v, .int .i64 mode] w fun u w' => u = .bool true ∧ Chg [] w w' := by
 obtain ⟨hv, hlm⟩ := hvl;have hv0 := hv;have hWl := hv.hw;have hll := hv.len;have hch : Chg [] w w := Chg.refl _ _;have hg0 := hg;obtain ⟨⟨al, cl, rfl, hcapl, hrl⟩, -, -⟩ := hv;refine zE2 Tryz.func8 rfl ?_;refine Sr fun _ kh1 => za rfl (zz (kh1 (Sr fun _ kh3 => ?_)));refine WL.call hasF39 rfl rfl (qlive_spec _ (hg0.keep0 hch)) fun v w1 h' => ?_;obtain ⟨rfl, hC⟩ := h';have hch := hch.ta hC;refine za rfl (zz (kh3 (zc fun _ kh5 => Sr fun _ kh6 => za rfl (zz (kh6 ?_)))));refine CW.block ?_;refine CW.loop (S := fun i : Nat => [(0, .slice al l.length cl), (1, .int .i64 mode), (5, .bool true), (6, .int .i64 (i : Int))]) (Inv := KLm l w) (mu := fun i => l.length - i) (0) ?_ ?_ ?_
 ·exact ⟨Nat.zero_le _, fun x hx => (by simp at hx), hch⟩
 ·exact SLp
 ·rintro i wr ⟨hi, hf, hch⟩;refine zc fun _ kh8 => Sr fun _ kh9 => zm rfl (zm rfl (zn rfl ?_));refine WL.ev (Ev.lss rfl rfl) rfl ?_;refine zz (kh9 ?_);refine zy rfl ?_ ?_<;>intro hc1<;>try simp only [qs] at hc1
  ·refine zkk ?_
   refine kh8 (zc fun _ kh11 => ?_);refine CW.block ?_;refine zc fun _ kh12 => ?_;refine CW.regionTC 8 hmix (by kernel_rfl) fun kR13 kr13 hdr => ?_;have hch := hch.ta hdr;refine ym rfl (ym rfl ?_);refine WS.ev (Ev.ixR (i) rfl rfl (hrl.keep0 hch) (by omega) (by omega) (by simp; omega)) rfl ?_;refine WS.ev (Ev.load rfl rfl ((hrl.keep0 hch).f64 (by first | omega | (simp; omega)))) rfl ?_;refine ym rfl (ym rfl ?_);refine WS.ev (Ev.ixR (i) rfl rfl (hrl.keep0 hch) (by omega) (by omega) (by simp; omega)) rfl ?_;refine WS.ev (Ev.load rfl rfl ((hrl.keep0 hch).f64 (by first | omega | (simp; omega)))) rfl ?_;refine WS.nil ?_;refine WL.fsubSelf rfl rfl rfl fun r26 w26 hc26 hr26 ho26 => ?_;have hch := hch.trans hc26;refine WL.ev (Ev.fneq rfl rfl) rfl ?_;rw [show (FloatKind.f64.format.order r26 0 != some .eq) = !decide ((splitP (l.getD i 0)).cls ≤ 2) by rw [← ho26]; rfl];refine WL.nil (kr13 _ _ _ (kh12 ?_));refine zy rfl ?_ ?_<;>intro hc2<;>try simp only [qs] at hc2
   ·have hfx : ¬ (splitP (l.getD i 0)).cls ≤ 2 := by simpa using hc2
    refine Sr fun _ kh14 => zm rfl (za rfl (zz (kh14 ?_)));refine zr (zr1 rfl rfl ?_);exact ⟨rfl, hch⟩
   ·have hfx : (splitP (l.getD i 0)).cls ≤ 2 := by simpa using hc2
    refine zkk ?_;refine kh11 ?_;refine zR fun _ kr16 => ?_;refine zm rfl ?_;(first | refine zi rfl rfl ?_ | refine zo rfl rfl ?_);refine za rfl ?_;refine WL.nil (kr16 _ _ _ ?_);refine ⟨rfl, i + 1, ?_, ?_, ?_⟩
    ·exact SLp
    ·exact ⟨by omega, (finM_step (by omega)).2 ⟨hf, hfx⟩, hch⟩
    ·show l.length - (i + 1) < l.length - i; omega
  ·have hiX : i = l.length := by omega
   subst hiX;rw [List.take_length] at hf;refine CW.exit ?_;refine kh5 (Sr fun _ kh17 => zm rfl (zm rfl ?_));refine WL.call hasF40 rfl rfl (Quantile_spec _ l 1 2 3 mode _ (hv0.keep0 hch) (by decide) (by decide) (hg0.keep0 hch)) fun v w2 h' => ?_;obtain ⟨⟨bits, e, rfl, hM⟩, hC⟩ := h';have hch := hch.ta hC;refine zm rfl (zx rfl rfl (zx rfl rfl (za rfl (za rfl (zz (kh17 (Sr fun _ kh19 => zm rfl (zm rfl ?_))))))));refine WL.call hasF41 rfl rfl (Median_spec _ l mode _ (hv0.keep0 hch) hf (hg0.keep0 hch)) fun v w3 h' => ?_;obtain ⟨⟨bits2, e2, rfl, hM2⟩, hC⟩ := h';obtain ⟨rfl, hfe⟩ := med_law hf hWl hM hM2;have hch := hch.ta hC;refine zm rfl (zx rfl rfl (zx rfl rfl (za rfl (za rfl (zz (kh19 (Sr fun _ kh21 => zm rfl (zm rfl (zw rfl (zm rfl (zw rfl (zm rfl (zw rfl (zq rfl rfl ?_))))))))))))));rw [decide_eq_true rfl];refine zt rfl rfl (zm rfl (zw rfl (zm rfl (zw rfl (zm rfl (zw rfl ?_))))));refine WL.ev (Ev.feql rfl rfl) rfl ?_;rw [hfe];refine zt rfl rfl (za rfl (zz (kh21 ?_)));refine zr (zr1 rfl rfl ?_);exact ⟨rfl, hch⟩

end

/- What came in, opened; the listed table, opened. No condition. -/
section
open Go Sx Wd
open Go.ChangeShapes Go.WideShapes Go.ChangeAt Go.WideMaps Go.WideElems Go.RowKit

theorem own : ownKnob Tryz.prog.godebug = none := by kernel_rfl
theorem laidOut : laidOutB Tryz.prog = true := by kernel_rfl
theorem door_met (os : Os) (args : Array Value) : laidMetH Tryz.prog [("math/bits.deBruijn32tab", Rows.laid_math_bits_deBruijn32tab)] ((World.doorLaid Tryz.prog 400 os).forCall (fun _ _ => 0) ⟨#[], args, []⟩).memory :=
  laidMetH_of_parts3 (fuel := 8) (laidMet_of_run' 8 (by kernel_rfl) (by kernel_rfl)) (by kernel_rfl) (by kernel_rfl)
theorem gDeb : Tryz.prog.globalNamed "math/bits.deBruijn32tab" = some 6 := by kernel_rfl
theorem tDeb : (Tryz.prog.globals[6]?).map (·.type) = some 394 := by kernel_rfl
theorem deb_data {H : Type} : (Rows.laid_math_bits_deBruijn32tab : DataW H) = .agg (deb.map fun n : Nat => .lit (.int .u8 (n : Int))) := rfl
theorem gw_of_laid {W : World} (h : laidMetH Tryz.prog [("math/bits.deBruijn32tab", Rows.laid_math_bits_deBruijn32tab)] W) : GW W := by
  rw [MakeChecks.laidMetH_plain _ _ _ (by kernel_rfl)] at h
  obtain ⟨ps, ⟨g0, t0, cs0, f0, p0, q0, hg0, ht0, hv0, hd0, _, _⟩, _, _⟩ := h
  obtain rfl := Option.some.inj (gDeb.symm.trans hg0)
  obtain rfl := Option.some.inj (tDeb.symm.trans ht0)
  obtain ⟨xs, m1, rfl, hx1, hlen, hn3, hel⟩ := DataW.trod_array Tryz.underlying394 hd0
  have c8 : Tryz.prog.cellsOf 5 = 1 := by kernel_rfl
  simp only [Prod.mk.injEq] at hx1
  intro i hi
  have hi' := hel i hi
  rw [c8, Nat.mul_one] at hi'
  have hxi : xs[i]? = some (xs[i]'(by omega)) := List.getElem?_eq_getElem (by omega)
  rw [hxi] at hi'
  obtain ⟨k, e1, e2, _⟩ := DataW.trod_int Tryz.underlying5 hi'
  have hxs : (deb.map fun n : Nat => (DataW.lit (.int .u8 (n : Int)) : DataW Unit)) = xs.map (·.1) := by
    have := hx1.1
    rw [deb_data] at this
    exact DataW.agg.inj this
  have hdat : (deb.map fun n : Nat => (DataW.lit (.int .u8 (n : Int)) : DataW Unit))[i]? = some (.lit (.int .u8 ((deb.getD i 0 : Nat) : Int))) := by
    rw [List.getElem?_map, List.getElem?_eq_getElem (show i < deb.length from hi), List.getD_eq_getElem?_getD, List.getElem?_eq_getElem (show i < deb.length from hi)]; rfl
  rw [hxs, List.getElem?_map, hxi] at hdat
  simp only [Option.map_some] at hdat
  rw [e2] at hdat
  have hk : k = ((deb.getD i 0 : Nat) : Int) := by
    have := Option.some.inj hdat
    simp only [DataW.lit.injEq, Lit.int.injEq, true_and] at this
    exact this
  subst hk
  have hc : cs0[i]? = some (.int .u8 ((deb.getD i 0 : Nat) : Int)) := by
    have h3 : (cs0.toList.drop i)[0]? = some (.int .u8 ((deb.getD i 0 : Nat) : Int)) := by
      have := congrArg (fun l : List Value => l[0]?) e1
      simpa using this
    simpa using h3
  have := World.var?_cell hg0 hv0 i
  rw [hc] at this
  exact this

/-- One float cell, read. -/
theorem float_cell {H : Type} {enc : TypeId × Value → H} {P : Program} {w : World} {base : Nat} {spare : Nat → Bool} {held : Bool} {n : Nat} {e : TypeId} {v : Value} {x : DataW H × List MemPlace} (he : P.underlying e = some (.float .f64)) (h : DataW.trod enc P w base spare held n e [v] = some x) : ∃ b, v = .float .f64 b ∧ b < 18446744073709551616 := by
  cases n with
  | zero => simp [DataW.trod] at h
  | succ n =>
    simp only [DataW.trod, he] at h
    cases v <;> simp_all
    rename_i k b
    cases k <;> simp_all [Lit.wf]
/-- A slice of floats that came in. -/
theorem open_nf {H : Type} {enc : TypeId × Value → H} {P : Program} {w : World} {base b0 : Nat} {spare : Nat → Bool} {held : Bool} {t e : TypeId} {v : Value} {d : DataW H} {ps : List MemPlace} (ht : P.underlying t = some (.slice e)) (he : P.underlying e = some (.float .f64)) (hc : P.cellsOf e = 1) (hb : P.bytesOf e = 8) (hval : Value.okWide P w .any b0 t v) (h : DataW.Trod enc P w base spare held t v d ps)
    (hsz : ∀ elems spare', d = .slice elems spare' → (elems.length + spare'.length) * P.bytesOf e ≤ reachBytes) : ∃ l : List Nat, NF w v l ∧ l.length ≤ 17592186044415 := by
  obtain ⟨a, len, cap, rfl⟩ := okWide_slice ht hval
  obtain ⟨fuel, hf⟩ := h
  rcases Go.Deep.open_slice1 ht hc hf with ⟨hcs, _⟩ | ⟨ad, l, c, m, n, V, D, Pl, hcs, _, hlc, hcm, hm, hx, hV⟩
  · simp [Value.cells] at hcs
    obtain ⟨rfl, rfl, rfl⟩ := hcs
    exact ⟨[], ⟨⟨none, 0, rfl, Nat.le_refl _, RW.nil⟩, fun x hx => (by cases hx), by decide⟩, by decide⟩
  · simp [Value.cells] at hcs
    obtain ⟨rfl, rfl, rfl⟩ := hcs
    have hlm : len ≤ m := by rw [hm]; split <;> omega
    simp only [Prod.mk.injEq] at hx
    have h8 := hsz _ _ hx.1
    rw [hb] at h8
    simp only [List.length_map, List.length_range] at h8
    have hr : reachBytes = 140737488351232 := by decide
    have hlen : len ≤ 17592186044415 := by omega
    obtain ⟨f, hf2⟩ := Go.Deep.choose_lt (α := Nat) (n := len) (p := fun i b => V i = .float .f64 b ∧ b < 18446744073709551616) (fun i hi => float_cell he (hV i (by omega)).2)
    refine ⟨(List.range len).map f, ⟨⟨some ad, cap, by simp, by simpa using hlc, fun i y hy => ?_⟩, fun y hy => ?_, by simp; omega⟩, by simpa using hlen⟩
    · have hi : i < len := by
        by_cases q : i < len
        · exact q
        · rw [List.getElem?_eq_none (by simp; omega)] at hy; cases hy
      simp [List.getElem?_range hi] at hy
      subst hy
      exact ⟨ad, rfl, by rw [(hV i (by omega)).1, (hf2 i hi).1]; rfl⟩
    · obtain ⟨i, hi, rfl⟩ := List.mem_map.1 hy
      exact (hf2 i (List.mem_range.1 hi)).2
end

/- A row's joined facts, one by one. No condition. -/
section
open Go
def jf1 (P : Program) (f : FuncId) (fn : Func) (s : ChangeSpec) (c : OpenClaim) : Bool := c.wf (OpenSpec.ofChange s)
def jf2 (P : Program) (f : FuncId) (fn : Func) (s : ChangeSpec) (c : OpenClaim) : Bool := laidOutB P
def jf3 (P : Program) (f : FuncId) (fn : Func) (s : ChangeSpec) (c : OpenClaim) : Bool := mapsRowed P
def jf4 (P : Program) (f : FuncId) (fn : Func) (s : ChangeSpec) (c : OpenClaim) : Bool := fn.params.all (P.readableRec ·)
def jf5 (P : Program) (f : FuncId) (fn : Func) (s : ChangeSpec) (c : OpenClaim) : Bool := namedTie P c.named s.vars
def jf6 (P : Program) (f : FuncId) (fn : Func) (s : ChangeSpec) (c : OpenClaim) : Bool := (c.stops == [])
def jf7 (P : Program) (f : FuncId) (fn : Func) (s : ChangeSpec) (c : OpenClaim) : Bool := (P.stops == [])
def jf8 (P : Program) (f : FuncId) (fn : Func) (s : ChangeSpec) (c : OpenClaim) : Bool := (c.knobs == [])
def jf9 (P : Program) (f : FuncId) (fn : Func) (s : ChangeSpec) (c : OpenClaim) : Bool := (P.stopKnobs == [])
def jf10 (P : Program) (f : FuncId) (fn : Func) (s : ChangeSpec) (c : OpenClaim) : Bool := (c.inPlace == P.inPlace f)
def jf11 (P : Program) (f : FuncId) (fn : Func) (s : ChangeSpec) (c : OpenClaim) : Bool := (c.unfollowed == P.unfollowed f)
def jf12 (P : Program) (f : FuncId) (fn : Func) (s : ChangeSpec) (c : OpenClaim) : Bool := (c.recurses == P.recurses f)
def jf13 (P : Program) (f : FuncId) (fn : Func) (s : ChangeSpec) (c : OpenClaim) : Bool := (c.named == P.varsNamed f)
def jf14 (P : Program) (f : FuncId) (fn : Func) (s : ChangeSpec) (c : OpenClaim) : Bool := (c.maps == (fn.params.toList ++ s.plain.varTypes P).any (P.mapsRec ·))
def jf15 (P : Program) (f : FuncId) (fn : Func) (s : ChangeSpec) (c : OpenClaim) : Bool := (c.ifaces == (fn.params.toList ++ s.plain.varTypes P).any (P.ifacesRec ·))
def jf16 (P : Program) (f : FuncId) (fn : Func) (s : ChangeSpec) (c : OpenClaim) : Bool := (c.mapsOut == P.mapsAmong fn.resultTypes.toList)
def jf17 (P : Program) (f : FuncId) (fn : Func) (s : ChangeSpec) (c : OpenClaim) : Bool := (c.loops == (fn.params.toList ++ s.plain.varTypes P).any (P.loopsFrom ·))
def jf18 (P : Program) (f : FuncId) (fn : Func) (s : ChangeSpec) (c : OpenClaim) : Bool := (c.wideKeys == (fn.params.toList ++ s.plain.varTypes P ++ fn.resultTypes.toList).any (P.wideKeysFrom ·))
def jf19 (P : Program) (f : FuncId) (fn : Func) (s : ChangeSpec) (c : OpenClaim) : Bool := s.vars.all (P.varReadable ·)
def jf20 (P : Program) (f : FuncId) (fn : Func) (s : ChangeSpec) (c : OpenClaim) : Bool := fn.resultTypes.all (fun t => P.readableRec t && decide (t < P.types.size))
def jf21 (P : Program) (f : FuncId) (fn : Func) (s : ChangeSpec) (c : OpenClaim) : Bool := (c.ifacesOut == fn.resultTypes.toList.any (P.ifacesRec ·))
def jf22 (P : Program) (f : FuncId) (fn : Func) (s : ChangeSpec) (c : OpenClaim) : Bool := (c.loopsOut == fn.resultTypes.toList.any (P.loopsFrom ·))
def jf23 (P : Program) (f : FuncId) (fn : Func) (s : ChangeSpec) (c : OpenClaim) : Bool := (c.plainKeys == P.plainKeys)
def jf24 (P : Program) (f : FuncId) (fn : Func) (s : ChangeSpec) (c : OpenClaim) : Bool := c.shortTexts.isNone
def jf25 (P : Program) (f : FuncId) (fn : Func) (s : ChangeSpec) (c : OpenClaim) : Bool := P.stopsHeard
def jf26 (P : Program) (f : FuncId) (fn : Func) (s : ChangeSpec) (c : OpenClaim) : Bool := P.mayEnter
def jf27 (P : Program) (f : FuncId) (fn : Func) (s : ChangeSpec) (c : OpenClaim) : Bool := (c.lifted == P.liftsFinal)
def jf28 (P : Program) (f : FuncId) (fn : Func) (s : ChangeSpec) (c : OpenClaim) : Bool := (P.make == some c.make)
def jf29 (P : Program) (f : FuncId) (fn : Func) (s : ChangeSpec) (c : OpenClaim) : Bool := (c.kinds == (if c.domain.isEmpty then [] else fn.params.toList.map fun t => match P.underlying t with | some (.int k) => some k | _ => none))
def jf30 (P : Program) (f : FuncId) (fn : Func) (s : ChangeSpec) (c : OpenClaim) : Bool := (c.pinned == c.pinnedBy)
def jf31 (P : Program) (f : FuncId) (fn : Func) (s : ChangeSpec) (c : OpenClaim) : Bool := (c.veiled == (fn.params.toList ++ s.plain.varTypes P ++ fn.resultTypes.toList).any (P.veiledRec ·))
def jf32 (P : Program) (f : FuncId) (fn : Func) (s : ChangeSpec) (c : OpenClaim) : Bool := c.veiledFits P fn.params.toList (fn.params.toList ++ s.plain.varTypes P ++ fn.resultTypes.toList)
theorem joined_of {P : Program} {f : FuncId} {fn : Func} {s : ChangeSpec} {c : OpenClaim}
    (h1 : jf1 P f fn s c = true)
    (h2 : jf2 P f fn s c = true)
    (h3 : jf3 P f fn s c = true)
    (h4 : jf4 P f fn s c = true)
    (h5 : jf5 P f fn s c = true)
    (h6 : jf6 P f fn s c = true)
    (h7 : jf7 P f fn s c = true)
    (h8 : jf8 P f fn s c = true)
    (h9 : jf9 P f fn s c = true)
    (h10 : jf10 P f fn s c = true)
    (h11 : jf11 P f fn s c = true)
    (h12 : jf12 P f fn s c = true)
    (h13 : jf13 P f fn s c = true)
    (h14 : jf14 P f fn s c = true)
    (h15 : jf15 P f fn s c = true)
    (h16 : jf16 P f fn s c = true)
    (h17 : jf17 P f fn s c = true)
    (h18 : jf18 P f fn s c = true)
    (h19 : jf19 P f fn s c = true)
    (h20 : jf20 P f fn s c = true)
    (h21 : jf21 P f fn s c = true)
    (h22 : jf22 P f fn s c = true)
    (h23 : jf23 P f fn s c = true)
    (h24 : jf24 P f fn s c = true)
    (h25 : jf25 P f fn s c = true)
    (h26 : jf26 P f fn s c = true)
    (h27 : jf27 P f fn s c = true)
    (h28 : jf28 P f fn s c = true)
    (h29 : jf29 P f fn s c = true)
    (h30 : jf30 P f fn s c = true)
    (h31 : jf31 P f fn s c = true)
    (h32 : jf32 P f fn s c = true)
    : joinedFacts P f fn s c = true := by
  unfold joinedFacts
  simp only [Bool.and_eq_true]
  exact ⟨⟨⟨⟨⟨⟨⟨⟨⟨⟨⟨⟨⟨⟨⟨⟨⟨⟨⟨⟨⟨⟨⟨⟨⟨⟨⟨⟨⟨⟨⟨h1, h2⟩, h3⟩, h4⟩, h5⟩, h6⟩, h7⟩, h8⟩, h9⟩, h10⟩, h11⟩, h12⟩, h13⟩, h14⟩, h15⟩, h16⟩, h17⟩, h18⟩, h19⟩, h20⟩, h21⟩, h22⟩, h23⟩, h24⟩, h25⟩, h26⟩, h27⟩, h28⟩, h29⟩, h30⟩, h31⟩, h32⟩
end

end Go.Proofs.YtnbipejaidbihaaGreatDoor