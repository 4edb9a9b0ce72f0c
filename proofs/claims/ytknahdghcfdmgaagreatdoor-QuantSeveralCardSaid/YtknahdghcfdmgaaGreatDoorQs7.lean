/- Part 7 of what the proof rests on. No condition. -/
import Derived.Test.YtknahdghcfdmgaaGreatDoorQs6
import Derived.ArgAppend
import Derived.WalkKit
import Derived.ProofKit
import Derived.OpenShut
import Derived.ChangeOld
import Derived.Below
import Derived.Deep.Slices
import Derived.Laws.Cover2
import Derived.LaidMore
import Derived.SizedLaws
import Derived.SevenTiedAt
import Derived.Stop.Joined
import Derived.Test.YtknahdghcfdmgaaGreatDoorRows
set_option linter.unusedVariables false
set_option linter.unusedSimpArgs false
set_option maxRecDepth 100000
set_option maxHeartbeats 4000000
namespace Go.Proofs.YtknahdghcfdmgaaGreatDoor
/- Reference of layer 16: Refused, At, Quantile. No condition. -/
section
open Go Sx Wd Fl

theorem r16Refused_spec (v : Value) (l : List Nat) (w : World) (hv : NF w v l) : Ret Tryz.prog 60 [v] w fun u w' => u = .int .i64 (refuseE l) ∧ Chg [] w w' := by
 have hv0 := hv;obtain ⟨⟨al, cl, rfl, hcapl, hrl⟩, hWl, hll⟩ := hv;have hch : Chg [] w w := Chg.refl _ _;refine zE1 Tryz.func60 rfl ?_;refine Sr fun _ kh1 => za rfl (zz (kh1 (zc fun _ kh3 => Sr fun _ kh4 => zm rfl (zn rfl ?_))));refine WL.ev (Ev.gtr rfl rfl) rfl ?_;refine zz (kh4 ?_);refine zy rfl ?_ ?_<;>intro hc1<;>try simp only [qs] at hc1
 ·have hlong : 65536 < l.length := by omega
  refine Sr fun _ kh6 => za rfl (zz (kh6 ?_));refine zr (zr1 rfl rfl ?_);refine ⟨?_, hch⟩;unfold refuseE;rw [if_pos hlong]
 ·have hlong : ¬ 65536 < l.length := by omega
  refine zkk ?_;refine kh3 (zc fun _ kh8 => Sr fun _ kh9 => za rfl (zz (kh9 ?_)));refine CW.block ?_;refine CW.loop (S := fun i : Nat => [(0, .slice al l.length cl), (3, .int .i64 (i : Int))]) (Inv := KRf l w) (mu := fun i => l.length - i) (0) ?_ ?_ ?_
  ·exact ⟨Nat.zero_le _, fun x hx => (by simp at hx), hch⟩
  ·exact SLp
  ·rintro i wr ⟨hi, hf, hch⟩;refine zc fun _ kh11 => Sr fun _ kh12 => zm rfl (zm rfl (zn rfl ?_));refine WL.ev (Ev.lss rfl rfl) rfl ?_;refine zz (kh12 ?_);refine zy rfl ?_ ?_<;>intro hc2<;>try simp only [qs] at hc2
   ·have hx := D_getD hWl i
    refine zkk ?_;refine kh11 (zc fun _ kh14 => ?_);refine CW.block ?_;refine Sr fun _ kh15 => zm rfl (zm rfl ?_);refine WL.ev (Ev.ixR (i) rfl rfl (hrl.keep0 hch) (by omega) (by omega) (by simp; omega)) rfl ?_;refine WL.ev (Ev.load rfl rfl ((hrl.keep0 hch).f64 (by first | omega | (simp; omega)))) rfl ?_;refine WL.call hasF135 rfl rfl (r1Class_spec (l.getD i 0) _ hx) fun v w1 h' => ?_;obtain ⟨rfl, hC⟩ := h';have hch := hch.ta hC;refine WL.ev (Ev.gtr rfl rfl) rfl ?_;refine zz (kh15 ?_);refine zy rfl ?_ ?_<;>intro hc3<;>try simp only [qs] at hc3
    ·have hnf : ¬ finL l := fun q => by have := finL_getD2 q (i := i) (by omega); omega
     refine Sr fun _ kh17 => za rfl (zz (kh17 ?_));refine zr (zr1 rfl rfl ?_);refine ⟨?_, hch⟩;unfold refuseE;rw [if_neg hlong, if_pos hnf]
    ·refine zkk ?_
     refine kh14 ?_;refine zR fun _ kr19 => ?_;refine zm rfl ?_;(first | refine zi rfl rfl ?_ | refine zo rfl rfl ?_);refine za rfl ?_;refine WL.nil (kr19 _ _ _ ?_);refine ⟨rfl, i + 1, ?_, ?_, ?_⟩
     ·exact SLp
     ·exact ⟨by omega, (finL_step (by omega)).2 ⟨hf, by omega⟩, hch⟩
     ·show l.length - (i + 1) < l.length - i; omega
   ·have hiX : i = l.length := by omega
    subst hiX;rw [List.take_length] at hf;refine CW.exit ?_;refine kh8 (zc fun _ kh20 => Sr fun _ kh21 => zm rfl (zn rfl (zq rfl rfl (zz (kh21 ?_)))));refine zy rfl ?_ ?_<;>intro hc4<;>try simp only [qs] at hc4
    ·have h0 : l = [] := List.length_eq_zero_iff.1 (by omega);refine Sr fun _ kh23 => za rfl (zz (kh23 ?_));refine zr (zr1 rfl rfl ?_);refine ⟨?_, hch⟩;unfold refuseE;rw [if_neg hlong, if_neg (fun q => q hf), if_pos h0]
    ·have h0 : l ≠ [] := fun q => by rw [q] at hc4; exact hc4 rfl
     refine zkk ?_;refine kh20 (Sr fun _ kh25 => za rfl (zz (kh25 ?_)));refine zr (zr1 rfl rfl ?_);refine ⟨?_, hch⟩;unfold refuseE;rw [if_neg hlong, if_neg (fun q => q hf), if_neg h0]

theorem r16one_spec (x : Nat) (w : World) : Ret Tryz.prog 137 [.float .f64 x] w fun u w' => u = .tuple [.float .f64 x, .int .i64 0].toArray ∧ w = w' := by
 refine zE1 Tryz.func137 rfl ?_;refine Sr fun _ kh1 => za rfl (za rfl (zz (kh1 (Sr fun _ kh3 => zm rfl (za rfl (za rfl (zz (kh3 ?_))))))));refine zr (zr2 rfl rfl rfl ?_);exact ⟨rfl, rfl⟩

theorem r16At_spec (v : Value) (s : List Nat) (num den : Nat) (rule mode : Int) (w : World) (hv : NF w v s) (hs : Row s) (hl : s.length ≤ 65536) (hn : num ≤ den) (hd : 1 ≤ den ∧ den ≤ 2147483648) (hru : 0 ≤ rule ∧ rule ≤ 4) : Ret Tryz.prog 62 [v, .int .i64 (num : Int), .int .i64 (den : Int), .int .i64 rule, .int .i64 mode] w fun u w' => (∃ bits e, u = .tuple [.float .f64 bits, .int .i64 e].toArray ∧ atR s num den rule mode bits e) ∧ Chg [] w w' := by
 have hv0 := hv;obtain ⟨⟨al, cl, rfl, hcapl, hrl⟩, hWl, hll⟩ := hv;have hch : Chg [] w w := Chg.refl _ _;have hpos := hs.pos;obtain ⟨p1, p2⟩ := place_lt (m := s.length - 1) (num := num) hd.1 hn;have hplb : (s.length - 1) * num ≤ 65536 * 2147483648 := Nat.mul_le_mul (by omega) (by omega);generalize hpl : (s.length - 1) * num = pl at *;have hpl := hpl.symm;refine zE5 Tryz.func62 rfl ?_;refine Sr fun _ kh1 => za rfl (za rfl (zz (kh1 (Sr fun _ kh3 => zm rfl (zn rfl ?_)))));refine WL.ev (Ev.subIn rfl rfl (by omega)) rfl ?_;rw [show ((s.length : Nat) : Int) - 1 = ((s.length - 1 : Nat) : Int) by omega];refine zm rfl ?_;refine WL.ev (Ev.mulIn rfl rfl (by rw [← Int.natCast_mul, ← hpl]; omega)) rfl ?_;rw [← Int.natCast_mul, ← hpl];refine za rfl (zz (kh3 (Sr fun _ kh5 => zm rfl (zm rfl ?_))));refine WL.ev (Ev.quoIn rfl rfl (by omega) (by simp only [IntKind.max, IntKind.signed, IntKind.bits]; omega) (by omega)) rfl ?_;rw [show (pl : Int) / (den : Int) = ((pl / den : Nat) : Int) from rfl];refine za rfl (zz (kh5 (Sr fun _ kh7 => zm rfl (zm rfl ?_))));refine WL.ev (Ev.remIn rfl rfl (by omega) (by omega)) rfl ?_;rw [show (pl : Int) % (den : Int) = ((pl % den : Nat) : Int) from rfl];have hm1 := Nat.mod_lt pl (show den > 0 by omega);generalize hi : pl / den = i at *;generalize hr : pl % den = r at *;have hx := lt_getD2 hWl i;have hfx := finL_getD2 hs.fin (i := i) (by omega);refine za rfl (zz (kh7 (zc fun _ kh9 => Sr fun _ kh10 => zm rfl (zq rfl rfl (zz (kh10 ?_))))));refine zy rfl ?_ ?_<;>intro hc1<;>try simp only [qs] at hc1
 ·have hr0 : r = 0 := by omega
  refine Sr fun _ kh12 => zm rfl (zm rfl ?_);refine WL.ev (Ev.ixR (i) rfl rfl (hrl.keep0 hch) (by omega) (by omega) (by simp; omega)) rfl ?_;refine WL.ev (Ev.load rfl rfl ((hrl.keep0 hch).f64 (by first | omega | (simp; omega)))) rfl ?_;refine WL.call hasF137 rfl rfl (r16one_spec _ _) fun v w1 h' => ?_;obtain ⟨rfl, rfl⟩ := h';refine zx rfl rfl (zx rfl rfl (za rfl (za rfl (zz (kh12 ?_)))));refine zr (zr2 rfl rfl rfl ?_);refine ⟨⟨_, _, rfl, ?_⟩, hch⟩;unfold atR;rw [← hpl, hi, hr, if_pos (.inl hr0)];exact ⟨rfl, rfl⟩
 ·have hr0 : r ≠ 0 := by omega
  have hi2 := p2 hr0;have hy := lt_getD2 hWl (i + 1);have hfy := finL_getD2 hs.fin (i := i + 1) (by omega);refine zkk ?_;refine kh9 (zc fun _ kh14 => Sr fun _ kh15 => zm rfl (zz (kh15 ?_)));refine CW.block ?_;refine Sr fun _ kh17 => zq rfl rfl (za rfl (zz (kh17 ?_)));refine zy rfl ?_ ?_<;>intro hc2<;>try simp only [qs] at hc2
  ·have h0 : rule = 0 := by simpa using hc2
   refine Sr fun _ kh19 => zm rfl (zm rfl ?_);refine WL.ev (Ev.ixR (i) rfl rfl (hrl.keep0 hch) (by omega) (by omega) (by simp; omega)) rfl ?_;refine WL.ev (Ev.load rfl rfl ((hrl.keep0 hch).f64 (by first | omega | (simp; omega)))) rfl ?_;refine WL.call hasF137 rfl rfl (r16one_spec _ _) fun v w2 h' => ?_;obtain ⟨rfl, rfl⟩ := h';refine zx rfl rfl (zx rfl rfl (za rfl (za rfl (zz (kh19 ?_)))));refine zr (zr2 rfl rfl rfl ?_);refine ⟨⟨_, _, rfl, ?_⟩, hch⟩;unfold atR;rw [← hpl, hi, hr, if_pos (.inr h0)];exact ⟨rfl, rfl⟩
  ·have h0 : ¬ rule = 0 := by simpa using hc2
   have hq : ¬ (r = 0 ∨ rule = 0) := by omega
   refine Sr fun _ kh21 => zq rfl rfl (za rfl (zz (kh21 ?_)));refine zy rfl ?_ ?_<;>intro hc3<;>try simp only [qs] at hc3
   ·have h1 : rule = 1 := by simpa using hc3
    have h3 : ¬ rule = 3 := by omega
    have h4 : ¬ rule = 4 := by omega
    refine Sr fun _ kh23 => zm rfl (zm rfl ?_);(first | refine zi rfl rfl ?_ | refine zo rfl rfl ?_);refine WL.ev (Ev.ixR ((i + 1)) rfl rfl (hrl.keep0 hch) (by omega) (by omega) (by simp; omega)) rfl ?_;refine WL.ev (Ev.load rfl rfl ((hrl.keep0 hch).f64 (by first | omega | (simp; omega)))) rfl ?_;refine WL.call hasF137 rfl rfl (r16one_spec _ _) fun v w3 h' => ?_;obtain ⟨rfl, rfl⟩ := h';refine zx rfl rfl (zx rfl rfl (za rfl (za rfl (zz (kh23 ?_)))));refine zr (zr2 rfl rfl rfl ?_);refine ⟨⟨_, _, rfl, ?_⟩, hch⟩;unfold atR;rw [← hpl, hi, hr, if_neg hq, if_neg h3, if_neg h4, if_neg (by omega)];exact ⟨rfl, rfl⟩
   ·have h1 : ¬ rule = 1 := by simpa using hc3
    refine Sr fun _ kh25 => zq rfl rfl (za rfl (zz (kh25 ?_)));refine zy rfl ?_ ?_<;>intro hc4<;>try simp only [qs] at hc4
    ·have h3 : rule = 3 := by simpa using hc4
     refine zc fun _ kh27 => ?_;refine CW.regionHC 15 rfl hmix fun kR28 kr28 hS hdr => ?_;have hch := hch.ta hdr;have hch_r := hch;refine wh 0 rfl hS (fun _ _ => Ev.move rfl) (wh 1 rfl hS (fun _ _ => Ev.move rfl) (wh 2 rfl hS (fun _ hw' => Ev.ixR (i) rfl rfl (hrl.keep0 (hch_r.trans hw')) (by omega) (by omega) (by simp; omega)) (wh 3 rfl hS (fun _ hw' => Ev.load rfl rfl ((hrl.keep0 (hch_r.trans hw')).f64 (by first | omega | (simp; omega)))) (wh 4 rfl hS (fun _ _ => Ev.move rfl) (wh 5 rfl hS (fun _ _ => Ev.move rfl) (wh 6 rfl hS (fun _ _ => Ev.addIn rfl rfl (by omega)) (wh 7 rfl hS (fun _ hw' => Ev.ixR ((i + 1)) rfl rfl (hrl.keep0 (hch_r.trans hw')) (by omega) (by omega) (by simp; omega)) (wh 8 rfl hS (fun _ hw' => Ev.load rfl rfl ((hrl.keep0 (hch_r.trans hw')).f64 (by first | omega | (simp; omega)))) (wh 9 rfl hS (fun _ _ => Ev.move rfl) ?_)))))))));refine WH.oneCall 10 rfl (by kernel_rfl) hasF138 rfl rfl (r13Middle_spec (s.getD i 0) (s.getD (i + 1) 0) mode _ hx hy) fun v w4 h' => ?_;obtain ⟨⟨bits, e, rfl, hM⟩, hC⟩ := h';have hch := hch.ta hC;have hS := hS.trans hC;refine ⟨hS, ?_⟩;refine wh 11 rfl hS (fun _ _ => Ev.extract rfl rfl) (wh 12 rfl hS (fun _ _ => Ev.extract rfl rfl) (wh 13 rfl hS (fun _ _ => Ev.assign rfl) (wh 14 rfl hS (fun _ _ => Ev.assign rfl) ?_)));refine WH.done (by kernel_rfl) (kr28 _ _ _ ?_);refine kh27 ?_;refine zr (zr2 rfl rfl rfl ?_);refine ⟨⟨_, _, rfl, ?_⟩, hch⟩;unfold atR;rw [← hpl, hi, hr, if_neg hq, if_pos h3];exact hM
    ·have h3 : ¬ rule = 3 := by simpa using hc4
     refine Sr fun _ kh29 => zq rfl rfl (za rfl (zz (kh29 ?_)));refine zy rfl ?_ ?_<;>intro hc5<;>try simp only [qs] at hc5
     ·have h4 : rule = 4 := by simpa using hc5
      refine zc fun _ kh31 => ?_;refine CW.regionHC 17 rfl hmix fun kR32 kr32 hS hdr => ?_;have hch := hch.ta hdr;have hch_r := hch;refine wh 0 rfl hS (fun _ _ => Ev.move rfl) (wh 1 rfl hS (fun _ _ => Ev.move rfl) (wh 2 rfl hS (fun _ hw' => Ev.ixR (i) rfl rfl (hrl.keep0 (hch_r.trans hw')) (by omega) (by omega) (by simp; omega)) (wh 3 rfl hS (fun _ hw' => Ev.load rfl rfl ((hrl.keep0 (hch_r.trans hw')).f64 (by first | omega | (simp; omega)))) (wh 4 rfl hS (fun _ _ => Ev.move rfl) (wh 5 rfl hS (fun _ _ => Ev.move rfl) (wh 6 rfl hS (fun _ _ => Ev.addIn rfl rfl (by omega)) (wh 7 rfl hS (fun _ hw' => Ev.ixR ((i + 1)) rfl rfl (hrl.keep0 (hch_r.trans hw')) (by omega) (by omega) (by simp; omega)) (wh 8 rfl hS (fun _ hw' => Ev.load rfl rfl ((hrl.keep0 (hch_r.trans hw')).f64 (by first | omega | (simp; omega)))) (wh 9 rfl hS (fun _ _ => Ev.move rfl) (wh 10 rfl hS (fun _ _ => Ev.move rfl) (wh 11 rfl hS (fun _ _ => Ev.move rfl) ?_)))))))))));refine WH.oneCall 12 rfl (by kernel_rfl) hasF139 rfl rfl (r16line_spec (s.getD i 0) (s.getD (i + 1) 0) r den mode _ hx hy hfx hfy (by omega) hm1 (by omega)) fun v w5 h' => ?_;obtain ⟨⟨bits, e, rfl, hM⟩, hC⟩ := h';have hch := hch.ta hC;have hS := hS.trans hC;refine ⟨hS, ?_⟩;refine wh 13 rfl hS (fun _ _ => Ev.extract rfl rfl) (wh 14 rfl hS (fun _ _ => Ev.extract rfl rfl) (wh 15 rfl hS (fun _ _ => Ev.assign rfl) (wh 16 rfl hS (fun _ _ => Ev.assign rfl) ?_)));refine WH.done (by kernel_rfl) (kr32 _ _ _ ?_);refine kh31 ?_;refine zr (zr2 rfl rfl rfl ?_);refine ⟨⟨_, _, rfl, ?_⟩, hch⟩;unfold atR;rw [← hpl, hi, hr, if_neg hq, if_neg h3, if_pos h4];exact hM
     ·have h4 : ¬ rule = 4 := by simpa using hc5
      refine zkk ?_;refine kh14 (zc fun _ kh33 => ?_);refine CW.seqM 101 (decide (2 * r < den ∨ (2 * r = den ∧ i % 2 = 0))) ?_ ?_
      ·refine zR fun _ kr34 => ?_;refine zm rfl ?_;refine WL.ev (Ev.mulIn rfl rfl (by omega)) rfl ?_;refine zm rfl ?_;refine WL.ev (Ev.lss rfl rfl) rfl ?_;refine zm rfl ?_;refine zb ?_ ?_<;>intro hg6<;>try simp only [qs] at hg6
       ·refine zv rfl (zv rfl (zv rfl (zv rfl (zv rfl (zu rfl (zu rfl (zu rfl (zv rfl (zt rfl rfl ?_)))))))));refine WL.nil (kr34 _ _ _ ?_);refine ⟨rfl, rfl, Subs.consB rfl ?_ ?_⟩
        ·first | exact (decide_eq_true (by omega)).symm | exact (decide_eq_false (by omega)).symm | exact decide_eq_decide.2 (by omega)
        ·exact SMg
       ·refine zw rfl (zm rfl (zw rfl ?_));refine WL.ev (Ev.mulIn rfl rfl (by omega)) rfl ?_
        refine zw rfl (zm rfl (zw rfl (zq rfl rfl (zw rfl (zm rfl ?_)))));refine zb ?_ ?_<;>intro hg7<;>try simp only [qs] at hg7
        ·refine zw rfl (zm rfl (zw rfl ?_));refine WL.ev (Ev.remIn rfl rfl (by omega) (by omega)) rfl ?_
         refine zw rfl (zq rfl rfl (zw rfl (zt rfl rfl (ze rfl rfl ?_))));refine WL.nil (kr34 _ _ _ ?_);refine ⟨rfl, rfl, Subs.consB rfl ?_ ?_⟩
         ·first | exact (decide_eq_true (by omega)).symm | exact (decide_eq_false (by omega)).symm | exact decide_eq_decide.2 (by omega)
         ·exact SMg
        ·refine zv rfl (zv rfl (zv rfl (zw rfl (ze rfl rfl (ze rfl rfl ?_)))));refine WL.nil (kr34 _ _ _ ?_);refine ⟨rfl, rfl, Subs.consB rfl ?_ ?_⟩
         ·first | exact (decide_eq_true (by omega)).symm | exact (decide_eq_false (by omega)).symm | exact decide_eq_decide.2 (by omega)
         ·exact SMg
      ·refine zy rfl ?_ ?_<;>intro hc8<;>try simp only [qs] at hc8
       ·have hn : 2 * r < den ∨ (2 * r = den ∧ i % 2 = 0) := hc8
        refine Sr fun _ kh35 => zm rfl (zm rfl ?_);refine WL.ev (Ev.ixR (i) rfl rfl (hrl.keep0 hch) (by omega) (by omega) (by simp; omega)) rfl ?_;refine WL.ev (Ev.load rfl rfl ((hrl.keep0 hch).f64 (by first | omega | (simp; omega)))) rfl ?_;refine WL.call hasF137 rfl rfl (r16one_spec _ _) fun v w6 h' => ?_;obtain ⟨rfl, rfl⟩ := h';refine zx rfl rfl (zx rfl rfl (za rfl (za rfl (zz (kh35 ?_)))));refine zr (zr2 rfl rfl rfl ?_);refine ⟨⟨_, _, rfl, ?_⟩, hch⟩;unfold atR;rw [← hpl, hi, hr, if_neg hq, if_neg h3, if_neg h4, if_pos ⟨by omega, hn⟩];exact ⟨rfl, rfl⟩
       ·have hn : ¬ (2 * r < den ∨ (2 * r = den ∧ i % 2 = 0)) := hc8
        refine zkk ?_;refine kh33 (Sr fun _ kh37 => zm rfl (zm rfl ?_));(first | refine zi rfl rfl ?_ | refine zo rfl rfl ?_);refine WL.ev (Ev.ixR ((i + 1)) rfl rfl (hrl.keep0 hch) (by omega) (by omega) (by simp; omega)) rfl ?_;refine WL.ev (Ev.load rfl rfl ((hrl.keep0 hch).f64 (by first | omega | (simp; omega)))) rfl ?_;refine WL.call hasF137 rfl rfl (r16one_spec _ _) fun v w7 h' => ?_;obtain ⟨rfl, rfl⟩ := h';refine zx rfl rfl (zx rfl rfl (za rfl (za rfl (zz (kh37 ?_)))));refine zr (zr2 rfl rfl rfl ?_);refine ⟨⟨_, _, rfl, ?_⟩, hch⟩;unfold atR;rw [← hpl, hi, hr, if_neg hq, if_neg h3, if_neg h4, if_neg (fun z => hn z.2)];exact ⟨rfl, rfl⟩

end

/- Reference of layer 16: Quantile, Several. No condition. -/
section
open Go Sx Wd Fl

theorem sev_app {L : List Nat} {i b : Nat} {e : Int} {Q : Nat → Nat → Int → Prop} (h : ∀ k, k < i → ∃ e, Q k (L.getD k 0) e) (hi : L.length = i) (hA : Q i b e) : ∀ k, k < i + 1 → ∃ e, Q k ((L ++ [b]).getD k 0) e := fun k hk => by
  by_cases q : k = i
  · subst q
    refine ⟨e, ?_⟩
    rw [List.getD_eq_getElem?_getD, List.getElem?_append_right (by omega), hi, Nat.sub_self]
    exact hA
  · rw [List.getD_eq_getElem?_getD, List.getElem?_append_left (by omega), ← List.getD_eq_getElem?_getD]
    exact h k (by omega)
structure KSw (s : List Nat) (sv : Value) (pn : Nat) (rule mode : Int) (w0 w2 : World) (g : Nat × Value × List Nat) (w : World) : Prop where
  hi : g.1 ≤ pn + 1
  len : g.2.2.length = g.1
  f : ∀ k, k < g.1 → ∃ e, atR s k pn rule mode (g.2.2.getD k 0) e
  hg : GR w 30 f64v w2.heap.size [] g.2.1 g.2.2
  ch : Chg [] w0 w
  cr : Chg [] w2 w

theorem r16Several_spec (v : Value) (l : List Nat) (parts rule mode : Int) (w : World) (hv : NF w v l) : Ret Tryz.prog 15 [v, .int .i64 parts, .int .i64 rule, .int .i64 mode] w fun u w' => (∃ vL L e, u = .tuple [vL, .int .i64 e].toArray ∧ GR w' 30 f64v w.heap.size [] vL L ∧ sevR l parts rule mode L e) ∧ Chg [] w w' := by
 have hWl := hv.hw;have hll := hv.len;have hov := hv.one;have hch : Chg [] w w := Chg.refl _ _;refine zE4 Tryz.func15 rfl ?_;refine Sr fun _ kh1 => za rfl (za rfl (zz (kh1 (zc fun _ kh3 => ?_))));refine CW.seqM 37 (decide (¬ partQ parts rule mode)) ?_ ?_
 ·refine zR fun _ kr4 => ?_;refine zm rfl ?_;refine WL.ev (Ev.lss rfl rfl) rfl ?_;refine zm rfl ?_;refine zb ?_ ?_<;>intro hg1<;>try simp only [qs] at hg1
  ·refine zv rfl (zv rfl (zt rfl rfl (zm rfl (zv rfl (zv rfl (zt rfl rfl (zm rfl (zv rfl (zv rfl (zt rfl rfl (zm rfl (zv rfl (zv rfl (zt rfl rfl (zm rfl (zv rfl (zv rfl (zt rfl rfl ?_))))))))))))))))));refine WL.nil (kr4 _ _ _ ?_);refine ⟨rfl, rfl, Subs.consB rfl ?_ ?_⟩
   ·first | exact (decide_eq_true (by unfold partQ; omega)).symm | exact (decide_eq_false (by unfold partQ; omega)).symm | exact decide_eq_decide.2 (by unfold partQ; omega)
   ·exact SMg
  ·refine zw rfl (zm rfl (zw rfl ?_));refine WL.ev (Ev.gtr rfl rfl) rfl ?_
   refine ze rfl rfl (zm rfl ?_);refine zb ?_ ?_<;>intro hg2<;>try simp only [qs] at hg2
   ·refine zv rfl (zv rfl (zt rfl rfl (zm rfl (zv rfl (zv rfl (zt rfl rfl (zm rfl (zv rfl (zv rfl (zt rfl rfl (zm rfl (zv rfl (zv rfl (zt rfl rfl ?_))))))))))))));refine WL.nil (kr4 _ _ _ ?_);refine ⟨rfl, rfl, Subs.consB rfl ?_ ?_⟩
    ·first | exact (decide_eq_true (by unfold partQ; omega)).symm | exact (decide_eq_false (by unfold partQ; omega)).symm | exact decide_eq_decide.2 (by unfold partQ; omega)
    ·exact SMg
   ·refine zw rfl (zm rfl (zw rfl ?_));refine WL.ev (Ev.lss rfl rfl) rfl ?_
    refine ze rfl rfl (zm rfl ?_);refine zb ?_ ?_<;>intro hg3<;>try simp only [qs] at hg3
    ·refine zv rfl (zv rfl (zt rfl rfl (zm rfl (zv rfl (zv rfl (zt rfl rfl (zm rfl (zv rfl (zv rfl (zt rfl rfl ?_))))))))));refine WL.nil (kr4 _ _ _ ?_);refine ⟨rfl, rfl, Subs.consB rfl ?_ ?_⟩
     ·first | exact (decide_eq_true (by unfold partQ; omega)).symm | exact (decide_eq_false (by unfold partQ; omega)).symm | exact decide_eq_decide.2 (by unfold partQ; omega)
     ·exact SMg
    ·refine zw rfl (zm rfl (zw rfl ?_));refine WL.ev (Ev.gtr rfl rfl) rfl ?_
     refine ze rfl rfl (zm rfl ?_);refine zb ?_ ?_<;>intro hg4<;>try simp only [qs] at hg4
     ·refine zv rfl (zv rfl (zt rfl rfl (zm rfl (zv rfl (zv rfl (zt rfl rfl ?_))))));refine WL.nil (kr4 _ _ _ ?_);refine ⟨rfl, rfl, Subs.consB rfl ?_ ?_⟩
      ·first | exact (decide_eq_true (by unfold partQ; omega)).symm | exact (decide_eq_false (by unfold partQ; omega)).symm | exact decide_eq_decide.2 (by unfold partQ; omega)
      ·exact SMg
     ·refine zw rfl (zm rfl (zw rfl ?_));refine WL.ev (Ev.lss rfl rfl) rfl ?_
      refine ze rfl rfl (zm rfl ?_);refine zb ?_ ?_<;>intro hg5<;>try simp only [qs] at hg5
      ·refine zv rfl (zv rfl (zt rfl rfl ?_));refine WL.nil (kr4 _ _ _ ?_);refine ⟨rfl, rfl, Subs.consB rfl ?_ ?_⟩
       ·first | exact (decide_eq_true (by unfold partQ; omega)).symm | exact (decide_eq_false (by unfold partQ; omega)).symm | exact decide_eq_decide.2 (by unfold partQ; omega)
       ·exact SMg
      ·refine zw rfl (zm rfl (zw rfl ?_));refine WL.ev (Ev.gtr rfl rfl) rfl ?_
       refine ze rfl rfl ?_;refine WL.nil (kr4 _ _ _ ?_);refine ⟨rfl, rfl, Subs.consB rfl ?_ ?_⟩
       ·first | exact (decide_eq_true (by unfold partQ; omega)).symm | exact (decide_eq_false (by unfold partQ; omega)).symm | exact decide_eq_decide.2 (by unfold partQ; omega)
       ·exact SMg
 ·refine zy rfl ?_ ?_<;>intro hc6<;>try simp only [qs] at hc6
  ·have hq : ¬ partQ parts rule mode := hc6
   refine Sr fun _ kh5 => za rfl (za rfl (zz (kh5 ?_)));refine zr (zr2 rfl rfl rfl ?_);exact ⟨⟨_, [], _, rfl, GR.nil, .inl ⟨hq, rfl, rfl⟩⟩, hch⟩
  ·have hq : partQ parts rule mode := hc6
   obtain ⟨hm, hru, hp1, hp2⟩ := id hq;obtain ⟨pn, rfl⟩ := Int.eq_ofNat_of_zero_le (show 0 ≤ parts by omega);refine zkk ?_;refine kh3 (Sr fun _ kh7 => zm rfl ?_);refine WL.call hasF60 rfl rfl (r16Refused_spec v l _ (hv.keep0 hch)) fun v w1 h' => ?_;obtain ⟨rfl, hC⟩ := h';have hch := hch.ta hC;refine za rfl (zz (kh7 (zc fun _ kh9 => Sr fun _ kh10 => zm rfl ?_)));refine WL.ev (Ev.neq rfl rfl) rfl ?_;refine zz (kh10 ?_);refine zy rfl ?_ ?_<;>intro hc7<;>try simp only [qs] at hc7
   ·have h0 : refuseE l ≠ 0 := hc7
    refine Sr fun _ kh12 => zm rfl (za rfl (za rfl (zz (kh12 ?_))));refine zr (zr2 rfl rfl rfl ?_);exact ⟨⟨_, [], _, rfl, GR.nil, .inr ⟨hq, .inl ⟨h0, rfl, rfl⟩⟩⟩, hch⟩
   ·have h0 : refuseE l = 0 := hc7
    obtain ⟨hl6, hf, hne⟩ := refuse_ok h0;have hRow := Row.of hf hWl hne;have hsl := sortP_length l;have hsW := hRow.w;refine zkk ?_;refine kh9 (Sr fun _ kh14 => zm rfl ?_);refine WL.call hasF61 rfl rfl (r13Sorted_spec v l _ (by omega) (hv.keep0 hch) (finL_nums hf hWl)) fun vs w2 h' => ?_;obtain ⟨hNs, hC⟩ := h';generalize hSs : sortP l = s at *;have hone := hNs.one;have hch := hch.ta hC;refine za rfl (zz (kh14 (zc fun _ kh16 => ?_)));have hcr : Chg [] w2 w2 := Chg.refl _ _;have hw2 := hch.size;refine zR fun _ kr17 => ?_;refine za rfl ?_;refine WL.nil (kr17 _ _ _ (kh16 ?_));refine zc fun _ kh18 => Sr fun _ kh19 => za rfl (zz (kh19 ?_));refine CW.block ?_;refine CW.loop (S := fun g : Nat × Value × List Nat => [(1, .int .i64 (pn : Int)), (2, .int .i64 rule), (3, .int .i64 mode), (11, vs), (12, g.2.1), (13, .int .i64 (g.1 : Int))]) (Inv := KSw s vs pn rule mode w w2) (mu := fun g => pn + 1 - g.1) ((0, .slice none 0 0, [])) ?_ ?_ ?_
    ·exact ⟨Nat.zero_le _, rfl, fun k hk => absurd hk (Nat.not_lt_zero _), GR.nil, hch, hcr⟩
    ·exact SLp
    ·rintro ⟨i, vo, L⟩ wr ⟨hi, hlen, hfk, hgo, hch, hcr⟩;dsimp only at hi hlen hfk hgo hch hcr;dsimp only;refine zc fun _ kh21 => Sr fun _ kh22 => zm rfl (zm rfl ?_);refine WL.ev (Ev.leq rfl rfl) rfl ?_;refine zz (kh22 ?_);refine zy rfl ?_ ?_<;>intro hc8<;>try simp only [qs] at hc8
     ·refine zkk ?_
      refine kh21 (zc fun _ kh24 => ?_);refine CW.block ?_;refine Sr fun _ kh25 => zm rfl (zm rfl (zm rfl (zm rfl (zm rfl ?_))));refine WL.call hasF62 rfl rfl (r16At_spec _ s i pn rule mode _ (hNs.keep0 hcr) hRow (by omega) (by omega) (by omega) hru) fun v w3 h' => ?_;obtain ⟨⟨bits, e, rfl, hA⟩, hC⟩ := h';have hch := hch.ta hC;have hcr := hcr.ta hC;have hgo := hgo.keep0 hC;refine zm rfl (zx rfl rfl (zx rfl rfl (za rfl (za rfl (zz (kh25 ?_))))));refine zR fun _ kr27 => ?_;refine zm rfl (zm rfl ?_);refine WL.buildSlice (m := 1) (cs := [f64v (bits)]) (by decide) (by decide) rfl (by kernel_rfl) rfl fun b61 w61 hn61 => ?_;have hcm61 := hn61.chg;have hge61 := hn61.ge;have hb61 : FB w61 b61 _ [bits] := hn61.at_;have hgehch61 := Nat.le_trans hch.size hge61;have hch := hch.ta hcm61;have hgehcr61 := Nat.le_trans hcr.size hge61;have hcr := hcr.ta hcm61;have hgo := hgo.keep0 hcm61;refine WL.growR (f := f64v) (lo := w2.heap.size) (X := []) (l := L) (news := [bits]) (by rfl) (fun i => rfl) rfl rfl hgo (by first | rfl | (simp; done) | (simp; omega) | omega) hb61.row (by first | omega | exact hch.size | exact hcr.size | exact Nat.le_refl _) (by simp) (by simp only [List.length_append, List.length_cons, List.length_nil]; omega) (by simp only [List.length_append, List.length_cons, List.length_nil]; omega) rfl fun v62 w62 hg62 hcg62 => ?_;have hch := GR.frame hgo hcg62 hch (by first | omega | exact Nat.le_refl _);have hcr := GR.frame hgo hcg62 hcr (by first | omega | exact Nat.le_refl _);have hgo := hg62;refine za rfl ?_;refine WL.nil (kr27 _ _ _ (kh24 ?_));refine zR fun _ kr28 => ?_;refine zm rfl ?_;(first | refine zi rfl rfl ?_ | refine zo rfl rfl ?_);refine za rfl ?_;refine WL.nil (kr28 _ _ _ ?_);refine ⟨rfl, (i + 1, v62, L ++ [bits]), ?_, ?_, ?_⟩
      ·exact SLp
      ·exact ⟨by show i + 1 ≤ pn + 1; omega, by dsimp only; rw [List.length_append, hlen]; rfl, sev_app (Q := fun k => atR s k pn rule mode) hfk hlen hA, hgo, hch, hcr⟩
      ·show pn + 1 - (i + 1) < pn + 1 - i; omega
     ·have hiX : i = pn + 1 := by omega
      subst hiX;refine CW.exit ?_;refine kh18 (Sr fun _ kh29 => zm rfl (za rfl (za rfl (zz (kh29 ?_)))));refine zr (zr2 rfl rfl rfl ?_);refine ⟨⟨_, L, _, rfl, hgo.mono hw2 (by simp), .inr ⟨hq, .inr ⟨h0, rfl, hlen, fun k hk => ?_⟩⟩⟩, hch⟩;rw [hSs];exact hfk k (by have : (pn : Int).toNat = pn := rfl; omega)

end

/- Reference of layer 1: lists that are lent. No condition. -/
section
open Go Sx Wd

theorem mark_at {l : List Nat} {i : Nat} (h1 : l.length ≤ i) (h2 : i < l.length + 8) : (l ++ List.replicate 8 4693671547643874799).getD i 0 = 4693671547643874799 := by
  rw [List.getD_eq_getElem?_getD, List.getElem?_append_right h1, List.getElem?_replicate, if_pos (by omega)]; rfl
theorem mark_in {l : List Nat} {i : Nat} (h1 : i < l.length) : (l ++ List.replicate 8 4693671547643874799).getD i 0 = l.getD i 0 := by
  rw [List.getD_eq_getElem?_getD, List.getElem?_append_left h1, ← List.getD_eq_getElem?_getD]
theorem mark_len (l : List Nat) : (l ++ List.replicate 8 4693671547643874799).length = l.length + 8 := by simp
theorem mark_lt {l : List Nat} (h : ∀ x ∈ l, x < 18446744073709551616) : ∀ x ∈ (l ++ List.replicate 8 4693671547643874799), x < 18446744073709551616 := fun x hx => by
  rcases List.mem_append.1 hx with q | q
  · exact h x q
  · rw [List.mem_replicate] at q; omega
theorem NF.lent {w : World} {b : Nat} {E : TypeId} {l R : List Nat} (h : FB w b E (l ++ R)) (hw : ∀ x ∈ l, x < 18446744073709551616) (hl : l.length ≤ 70368744177664) {c : Nat} (hc : l.length ≤ c) : NF w (.slice (some ⟨b, 0, none⟩) l.length c) l :=
  ⟨⟨_, c, rfl, hc, by have := h.row; rw [List.map_append] at this; exact this.append_left⟩, hw, hl⟩
structure KLe (l : List Nat) (b : Nat) (w0 : World) (g : Nat × List Nat) (w : World) : Prop where
  lo : l.length ≤ g.1
  hi : g.1 ≤ l.length + 8
  len : g.2.length = l.length + 8
  tk : g.2.take g.1 = (l ++ List.replicate 8 4693671547643874799).take g.1
  hB : FB w b 30 g.2
  ch : Chg [] w0 w
structure KAl (l : List Nat) (w0 : World) (i : Nat) (w : World) : Prop where
  hi : i ≤ l.length + 8
  ch : Chg [] w0 w

theorem r1Lent_spec (v : Value) (l : List Nat) (w : World) (hv : NF w v l) (hlm : l.length ≤ 17592186044415) : Ret Tryz.prog 12 [v] w fun u w' => ∃ b, u = .slice (some ⟨b, 0, none⟩) l.length (l.length + 8) ∧ FB w' b 30 (l ++ List.replicate 8 4693671547643874799) ∧ Chg [] w w' ∧ w.heap.size ≤ b := by
 obtain ⟨⟨al, cl, rfl, hcapl, hrl⟩, hWl, hll⟩ := hv;have hch : Chg [] w w := Chg.refl _ _;refine zE1 Tryz.func12 rfl ?_;refine Sr fun _ kh1 => za rfl (zz (kh1 (Sr fun _ kh3 => zm rfl (zn rfl ?_))));(first | refine zi rfl rfl ?_ | refine zo rfl rfl ?_);refine WL.makeF (((l).length + 8)) (((l).length + 8)) rfl rfl (by omega) (by omega) (by omega) (by omega) (by omega) rfl fun b8 wm8 hb8 hcm8 hge8 => ?_;have hgehch8 := Nat.le_trans hch.size hge8;have hch := hch.ta hcm8;refine za rfl (zz (kh3 (Sr fun _ kh5 => zm rfl (zm rfl ?_))));refine WL.copyF rfl rfl hb8 (hrl.keep0 hch) (by simp; try omega) (by simp; try omega) rfl fun ws20 hb8_ hcs20 => ?_;have hch := hch.s1 hcs20;have hb8 := hb8_;rw [show ((l).take (min ((l).length) (((l).length + 8))) ++ (List.replicate (((l).length + 8)) 0).drop (min ((l).length) (((l).length + 8)))) = (l ++ List.replicate 8 0) from by rw [show min l.length (l.length + 8) = l.length by omega, List.take_length, List.drop_replicate, show l.length + 8 - l.length = 8 by omega]] at hb8;refine zz (kh5 (zc fun _ kh7 => Sr fun _ kh8 => zm rfl (zn rfl (za rfl (zz (kh8 ?_))))));refine CW.block ?_;refine CW.loop (S := fun g : Nat × List Nat => [(0, .slice al l.length cl), (3, .slice (some ⟨b8, 0, none⟩) (l.length + 8) (l.length + 8)), (4, .int .i64 (g.1 : Int))]) (Inv := KLe l b8 w) (mu := fun g => l.length + 8 - g.1) ((l.length, l ++ List.replicate 8 0)) ?_ ?_ ?_
 ·exact ⟨Nat.le_refl _, by dsimp only; omega, by simp, by simp, hb8, hch⟩
 ·exact SLp
 ·rintro ⟨i, Lc⟩ wr ⟨hlo, hhi, hlen, htk, hb8, hch⟩;dsimp only at hlo hhi hlen htk hb8;dsimp only;refine zc fun _ kh10 => Sr fun _ kh11 => zm rfl (zm rfl (zn rfl ?_));refine WL.ev (Ev.lss rfl rfl) rfl ?_;refine zz (kh11 ?_);refine zy rfl ?_ ?_<;>intro hc1<;>try simp only [qs] at hc1
  ·refine zkk ?_
   refine kh10 (zc fun _ kh13 => ?_);refine CW.block ?_;refine zR fun _ kr14 => ?_;refine zm rfl (zm rfl ?_);refine WL.call hasF54 rfl rfl (r1Of_spec 4693671547643874799 _ (by omega)) fun v w1 h' => ?_;obtain ⟨rfl, rfl⟩ := h';refine WL.ev (Ev.ixB (i) rfl rfl (by omega) (by omega)) rfl ?_;refine WL.storeF rfl rfl hb8 (by first | omega | (simp; omega)) fun ws21 hb8_ hcs21 => ?_;have hch := hch.s1 hcs21;have hb8 := hb8_;refine WL.nil (kr14 _ _ _ (kh13 ?_));refine zR fun _ kr15 => ?_;refine zm rfl ?_;(first | refine zi rfl rfl ?_ | refine zo rfl rfl ?_);refine za rfl ?_;refine WL.nil (kr15 _ _ _ ?_);refine ⟨rfl, (i + 1, Lc.set i 4693671547643874799), ?_, ?_, ?_⟩
   ·exact SLp
   ·exact ⟨by dsimp only; omega, by dsimp only; omega, by dsimp only; rw [List.length_set, hlen], by dsimp only; rw [set_take (by omega), htk, take_step (by rw [mark_len]; omega), mark_at hlo (by omega)], hb8, hch⟩
   ·show l.length + 8 - (i + 1) < l.length + 8 - i; omega
  ·have hiX : i = l.length + 8 := by omega
   subst hiX;rw [← hlen, List.take_length, hlen, ← mark_len l, List.take_length] at htk;subst htk;refine CW.exit ?_;refine kh7 (Sr fun _ kh16 => zm rfl (zm rfl (zn rfl ?_)));refine WL.ev (Ev.sliceHn ((l).length) rfl rfl (by omega) (by omega)) rfl ?_;refine za rfl (zz (kh16 ?_));refine zr (zr1 rfl rfl ?_);exact ⟨b8, rfl, hb8, hch, hgehch8⟩

theorem r1AsLentT_spec (b : Nat) (v : Value) (l T : List Nat) (w : World) (hB : FB w b 30 T) (hv : NF w v l) (hTl : T.length = l.length + 8) (hT1 : ∀ i, i < l.length → T.getD i 0 = l.getD i 0) (hT2 : ∀ i, l.length ≤ i → i < l.length + 8 → T.getD i 0 = 4693671547643874799) (hTw : ∀ i, T.getD i 0 < 18446744073709551616) : Ret Tryz.prog 14 [.slice (some ⟨b, 0, none⟩) l.length (l.length + 8), v] w fun u w' => u = .bool true ∧ Chg [] w w' := by
 obtain ⟨⟨al, cl, rfl, hcapl, hrl⟩, hWl, hll⟩ := hv;have hch : Chg [] w w := Chg.refl _ _;have hB0 := hB;refine zE2 Tryz.func14 rfl ?_;refine Sr fun _ kh1 => za rfl (zz (kh1 (Sr fun _ kh3 => zm rfl (zm rfl (zn rfl ?_)))));(first | refine zi rfl rfl ?_ | refine zo rfl rfl ?_);refine WL.ev (Ev.sliceHn (l.length + 8) rfl rfl (by omega) (by omega)) rfl ?_;refine za rfl (zz (kh3 (zc fun _ kh5 => Sr fun _ kh6 => za rfl (zz (kh6 ?_)))));refine CW.block ?_;refine CW.loop (S := fun i : Nat => [(0, .slice (some ⟨b, 0, none⟩) l.length (l.length + 8)), (1, .slice al l.length cl), (5, .slice (some ⟨b, 0, none⟩) (l.length + 8) (l.length + 8)), (6, .int .i64 (i : Int))]) (Inv := KAl l w) (mu := fun i => l.length + 8 - i) (0) ?_ ?_ ?_
 ·exact ⟨Nat.zero_le _, hch⟩
 ·exact SLp
 ·rintro i wr ⟨hhi, hch⟩;have hB := hB0.keep0 hch;refine zc fun _ kh8 => Sr fun _ kh9 => zm rfl (zm rfl (zn rfl ?_));refine WL.ev (Ev.lss rfl rfl) rfl ?_;refine zz (kh9 ?_);refine zy rfl ?_ ?_<;>intro hc1<;>try simp only [qs] at hc1
  ·have hmx := hTw i
   have hlx := D_getD hWl i;refine zkk ?_;refine kh8 (zc fun _ kh11 => ?_);refine CW.block ?_;refine Sr fun _ kh12 => za rfl (zz (kh12 (zc fun _ kh14 => Sr fun _ kh15 => zm rfl (zm rfl (zn rfl ?_)))));refine WL.ev (Ev.lss rfl rfl) rfl ?_;refine zz (kh15 ?_);refine zy rfl ?_ ?_<;>intro hc2<;>try simp only [qs] at hc2
   ·have hmi := hT1 i (by omega);refine zR fun _ kr17 => ?_
    refine zm rfl (zm rfl ?_);refine WL.ev (Ev.ixR (i) rfl rfl (hrl.keep0 hch) (by omega) (by omega) (by simp; omega)) rfl ?_;refine WL.ev (Ev.load rfl rfl ((hrl.keep0 hch).f64 (by first | omega | (simp; omega)))) rfl ?_;refine WL.call hasF59 rfl rfl (r1raw_spec (l.getD i 0) _ hlx) fun v w1 h' => ?_;obtain ⟨rfl, rfl⟩ := h';refine za rfl ?_;refine WL.nil (kr17 _ _ _ (kh14 ?_));refine Sr fun _ kh18 => zm rfl (zm rfl ?_);refine WL.ev (Ev.ixB (i) rfl rfl (by omega) (by omega)) rfl ?_;refine WL.ev (Ev.load rfl rfl (hB.f64 (by first | omega | (simp; omega)))) rfl ?_;refine WL.call hasF59 rfl rfl (r1raw_spec (T.getD i 0) _ hmx) fun v w2 h' => ?_;obtain ⟨rfl, rfl⟩ := h';refine zm rfl ?_;refine WL.ev (Ev.neq rfl rfl) rfl ?_;refine zz (kh18 ?_);refine zy rfl ?_ ?_<;>intro hc3<;>try simp only [qs] at hc3
    ·exact absurd (congrArg (fun q : Nat => (q : Int)) hmi) hc3
    ·refine zkk ?_
     refine kh11 ?_;refine zR fun _ kr20 => ?_;refine zm rfl ?_;(first | refine zi rfl rfl ?_ | refine zo rfl rfl ?_);refine za rfl ?_;refine WL.nil (kr20 _ _ _ ?_);refine ⟨rfl, i + 1, ?_, ?_, ?_⟩
     ·exact SLp
     ·exact ⟨by omega, hch⟩
     ·show l.length + 8 - (i + 1) < l.length + 8 - i; omega
   ·have hmi := hT2 i (by omega) (by omega);refine zkk ?_
    refine kh14 (Sr fun _ kh21 => zm rfl (zm rfl ?_));refine WL.ev (Ev.ixB (i) rfl rfl (by omega) (by omega)) rfl ?_;refine WL.ev (Ev.load rfl rfl (hB.f64 (by first | omega | (simp; omega)))) rfl ?_;refine WL.call hasF59 rfl rfl (r1raw_spec (T.getD i 0) _ hmx) fun v w3 h' => ?_;obtain ⟨rfl, rfl⟩ := h';refine zm rfl ?_;refine WL.ev (Ev.neq rfl rfl) rfl ?_;refine zz (kh21 ?_);refine zy rfl ?_ ?_<;>intro hc4<;>try simp only [qs] at hc4
    ·exact absurd (congrArg (fun q : Nat => (q : Int)) hmi) hc4
    ·refine zkk ?_
     refine kh11 ?_;refine zR fun _ kr23 => ?_;refine zm rfl ?_;(first | refine zi rfl rfl ?_ | refine zo rfl rfl ?_);refine za rfl ?_;refine WL.nil (kr23 _ _ _ ?_);refine ⟨rfl, i + 1, ?_, ?_, ?_⟩
     ·exact SLp
     ·exact ⟨by omega, hch⟩
     ·show l.length + 8 - (i + 1) < l.length + 8 - i; omega
  ·refine CW.exit ?_
   refine kh5 (Sr fun _ kh24 => zm rfl (zn rfl (zm rfl (zn rfl (zq rfl rfl (za rfl (zz (kh24 ?_))))))));refine zr (zr1 rfl rfl ?_);exact ⟨congrArg Value.bool (decide_eq_true rfl), hch⟩

theorem r1AsLent_spec (b : Nat) (v : Value) (l : List Nat) (w : World) (hB : FB w b 30 (l ++ List.replicate 8 4693671547643874799)) (hv : NF w v l) : Ret Tryz.prog 14 [.slice (some ⟨b, 0, none⟩) l.length (l.length + 8), v] w fun u w' => u = .bool true ∧ Chg [] w w' :=
 r1AsLentT_spec b v l _ w hB hv (mark_len l) (fun i h => mark_in h) (fun i h1 h2 => mark_at h1 h2) (fun i => D_getD (mark_lt hv.hw) i)

end

/- What the statements on quantiles need of the answers. No condition. -/
section
open Go Sx Wd Fl

/-! ### The least and the greatest one -/
section
variable {P : Program} {s : Sl} {w : World} {ty : TypeId} {x y : Operand} {t t' : TypeId} {a b : Nat}
end
end

/- Lists of integers; rows that grow within a drawn region. No condition. -/
section
open Go Sx Wd Fl

def i64v (z : Int) : Value := .int .i64 z
theorem GR.rw_ {w : World} {e : TypeId} {f : Nat → Value} {lo : Nat} {X : List Nat} {a : Option Addr} {m c : Nat} {l : List Nat} (h : GR w e f lo X (.slice a m c) l) : RW w a (l.map f) ∧ m = l.length ∧ l.length ≤ c := by
  obtain ⟨a', c', e1, h1, h2⟩ := h.row
  cases e1
  exact ⟨h2, rfl, h1⟩
namespace Sx
section
variable {P : Program} {A : AQ} {n : Nat} {D : List Deferred} {s : Sl} {w : World} {ops : Array Oper} {K : KK} {S : World → Prop} {fuel : Nat} {listed : Array Bool}
variable {op : Op} {ty : TypeId} {pos : String} {af : Array Edge} {d : Nat} {v : Value} {x y : Operand}
theorem ev_empty {t e : TypeId} {de : TypeDesc} {sz by_ es be : Nat} {z ze : Value} {f : Nat → Value} {lo : Nat} {X : List Nat} [hT : HasT P t (.slice e) sz by_ z] [hE : HasT P e de es be ze] (hlo : lo ≤ w.heap.size) (hX : ∀ b ∈ X, b < w.heap.size) :
    ∃ v w', Ev P s (.buildSlice t 0 #[]) ty w v w' ∧ GR w' e f lo X v [] ∧ Chg [] w w' := by
  refine ⟨.slice (some ⟨w.heap.size, 0, none⟩) 0 0, w.alloc (.cells #[] e), fun ρ d' pos af g hρ => ?_, ?_, (new_alloc w _).chg⟩
  · simp [execOp, Instr.buildSlice, hT.underlying, hE.sizeOf, Instr.fill, newRow]
    rw [show Array.range 0 = #[] from by decide, Array.map_empty]
  · refine ⟨⟨by simp, .inr ⟨w.heap.size, 0, #[], rfl, Nat.zero_le _, ?_, Nat.le_refl _, by unfold maxLen; omega, by simp, by simp⟩⟩, fun b hb => ?_⟩
    · exact (new_alloc w (.cells #[] e)).at_
    · cases hb
      exact ⟨hlo, fun hm => Nat.lt_irrefl _ (hX _ hm)⟩
theorem ev_growR {t e be : Nat} {de : TypeDesc} {ze : Value} {sz by_ : Nat} {z : Value} {v : Value} {f : Nat → Value} {lo : Nat} {X : List Nat} {l news : List Nat} {a : Option Addr} {mm c : Nat} [hT : HasT P t (.slice e) sz by_ z] [hE : HasT P e de 1 be ze]
    (hzs : ze.cells.size = 1) (h1 : ∀ i, (f i).oneCell' = true) (hx : opnd s x = some v) (hy : opnd s y = some (.slice a mm c)) (hg : GR w e f lo X v l) (hm : mm = news.length) (hr : RW w a (news.map f)) (hlo : lo ≤ w.heap.size) (hX : ∀ b ∈ X, b < w.heap.size)
    (hbytes : (l.length + news.length) * be ≤ 140737488355328) (h63 : l.length + news.length ≤ 70368744177664) :
    ∃ v' w', Ev P s (.call ⟨.builtin .append, [x, y].toArray, #[t, t]⟩) ty w v' w' ∧ GR w' e f lo X v' (l ++ news) ∧ Chg v.ownBlock.toList w w' := by
  cases a with
  | some ad =>
    obtain ⟨v', w', he, ho, hc, hl⟩ := ev_append (P := P) (s := s) (w := w) (ty := ty) (x := x) (y := y) (t := t) (hT := hT) (hE := hE) (news := news.map f) hzs (by omega) hx hy hg.1 (by simp; omega) (fun j u hu => by
      obtain ⟨ad', e1, hcell⟩ := hr j u hu
      cases e1; exact hcell) (fun u hu => by
      obtain ⟨i, _, rfl⟩ := List.mem_map.1 hu
      exact h1 i) (by unfold maxLen; omega) (by rw [hm]; exact hbytes)
    refine ⟨v', w', he, ⟨by rw [List.length_append, List.map_append, ← hm]; exact ho, fun b hb => ?_⟩, hc⟩
    rcases hl with q | q
    · rw [q] at hb; exact hg.2 b hb
    · rw [q] at hb; cases hb; exact ⟨hlo, fun hm => Nat.lt_irrefl _ (hX _ hm)⟩
  | none =>
    have hn : news = [] := by
      cases news with
      | nil => rfl
      | cons u r => obtain ⟨ad, e1, _⟩ := hr 0 (f u) rfl; cases e1
    subst hn
    have hm0 : mm = 0 := hm
    subst hm0
    exact ⟨v, w, Ev.append00 hx hy hg.1, by rw [List.append_nil]; exact hg, Chg.refl _ _⟩
end
end Sx
end

/- Lists that came out: SameList, Book.Reads. No condition. -/
section
open Go Sx Wd Fl

structure KSL (n : Nat) (w0 : World) (i : Nat) (w : World) : Prop where
  hi : i ≤ n
  ch : Chg [] w0 w

theorem SameList_spec (v u : Value) (l : List Nat) (w : World) (hv : NF w v l) (hu : NF w u l) : Ret Tryz.prog 140 [v, u] w fun u w' => u = .bool true ∧ Chg [] w w' := by
 obtain ⟨⟨al, cl, rfl, hcapl, hrl⟩, hWl, hll⟩ := hv;obtain ⟨⟨ak, ck, rfl, hcapk, hrk⟩, -, -⟩ := hu;have hch : Chg [] w w := Chg.refl _ _;refine zE2 Tryz.func140 rfl ?_;refine Sr fun _ kh1 => za rfl (zz (kh1 (zc fun _ kh3 => Sr fun _ kh4 => zm rfl (zn rfl (zm rfl (zn rfl ?_))))));refine WL.ev (Ev.neq rfl rfl) rfl ?_;refine zz (kh4 ?_);refine zy rfl ?_ ?_<;>intro hc1<;>try simp only [qs] at hc1
 ·first | exact absurd rfl hc1 | (simp at hc1; done) | exact hc1.elim
 ·refine zkk ?_
  refine kh3 (zc fun _ kh6 => Sr fun _ kh7 => za rfl (zz (kh7 ?_)));refine CW.block ?_;refine CW.loop (S := fun i : Nat => [(0, .slice al l.length cl), (1, .slice ak l.length ck), (5, .int .i64 (i : Int))]) (Inv := KSL l.length w) (mu := fun i => l.length - i) (0) ?_ ?_ ?_
  ·exact ⟨Nat.zero_le _, hch⟩
  ·exact SLp
  ·rintro i wr ⟨hi, hch⟩;refine zc fun _ kh9 => Sr fun _ kh10 => zm rfl (zm rfl (zn rfl ?_));refine WL.ev (Ev.lss rfl rfl) rfl ?_;refine zz (kh10 ?_);refine zy rfl ?_ ?_<;>intro hc2<;>try simp only [qs] at hc2
   ·have hx := D_getD hWl i
    refine zkk ?_;refine kh9 (zc fun _ kh12 => ?_);refine CW.block ?_;refine zc fun _ kh13 => ?_;refine CW.regionHC 10 rfl hmix fun kR14 kr14 hS hdr => ?_;have hch := hch.ta hdr;have hch_r := hch;refine wh 0 rfl hS (fun _ _ => Ev.move rfl) (wh 1 rfl hS (fun _ _ => Ev.move rfl) (wh 2 rfl hS (fun _ hw' => Ev.ixR (i) rfl rfl (hrl.keep0 (hch_r.trans hw')) (by omega) (by omega) (by simp; omega)) (wh 3 rfl hS (fun _ hw' => Ev.load rfl rfl ((hrl.keep0 (hch_r.trans hw')).f64 (by first | omega | (simp; omega)))) (wh 4 rfl hS (fun _ _ => Ev.move rfl) (wh 5 rfl hS (fun _ _ => Ev.move rfl) (wh 6 rfl hS (fun _ hw' => Ev.ixR (i) rfl rfl (hrk.keep0 (hch_r.trans hw')) (by omega) (by omega) (by simp; omega)) (wh 7 rfl hS (fun _ hw' => Ev.load rfl rfl ((hrk.keep0 (hch_r.trans hw')).f64 (by first | omega | (simp; omega)))) ?_)))))));refine WH.oneCall 8 rfl (by kernel_rfl) hasF40 rfl rfl (steelyardref01_Same_spec (l.getD i 0) (l.getD i 0) hx hx _) fun v w1 h' => ?_;obtain ⟨rfl, rfl⟩ := h';rw [decide_eq_true rfl];refine ⟨hS, ?_⟩;refine wh 9 rfl hS (fun _ _ => Ev.not rfl) ?_;refine WH.done (by kernel_rfl) (kr14 _ _ _ ?_);refine kh13 ?_;refine CW.condF rfl ?_;refine zkk ?_;refine kh12 ?_;refine zR fun _ kr15 => ?_;refine zm rfl ?_;(first | refine zi rfl rfl ?_ | refine zo rfl rfl ?_);refine za rfl ?_;refine WL.nil (kr15 _ _ _ ?_);refine ⟨rfl, i + 1, ?_, ?_, ?_⟩
    ·exact SLp
    ·exact ⟨by omega, hch⟩
    ·show l.length - (i + 1) < l.length - i; omega
   ·refine CW.exit ?_
    refine kh6 (Sr fun _ kh16 => za rfl (zz (kh16 ?_)));refine zr (zr1 rfl rfl ?_);exact ⟨rfl, hch⟩

theorem cell_f {w : World} {a : Option Addr} {n i : Nat} {f : Nat → Value} (h : RW w a ((List.range n).map f)) (hi : i < n) : w.cell? (adr a i) = some (f i) := h.at_ (by simp [hi])

theorem Reads_spec (bk n cO cW : Nat) (aO aW : Option Addr) (fO fW : Nat → Value) (Lf : Nat → List Nat) (w : World) (hbk : BK w bk 34 [.slice aO n cO, .slice aW n cW]) (hO : RW w aO ((List.range n).map fO)) (hW : RW w aW ((List.range n).map fW)) (hN : ∀ i, i < n → NF w (fO i) (Lf i) ∧ NF w (fW i) (Lf i)) (hn : n ≤ 1000000) : Ret Tryz.prog 64 [.pointer (some ⟨bk, 0, none⟩)] w fun u w' => u = .bool true ∧ Chg [] w w' := by
 have hch : Chg [] w w := Chg.refl _ _;have hb0 := hbk;refine zE1 Tryz.func64 rfl ?_;refine Sr fun _ kh1 => za rfl (zz (kh1 (zc fun _ kh3 => Sr fun _ kh4 => za rfl (zz (kh4 ?_)))));refine CW.block ?_;refine CW.loop (S := fun i : Nat => [(0, .pointer (some ⟨bk, 0, none⟩)), (3, .int .i64 (i : Int))]) (Inv := KSL n w) (mu := fun i => n - i) (0) ?_ ?_ ?_
 ·exact ⟨Nat.zero_le _, hch⟩
 ·exact SLp
 ·rintro i wr ⟨hi, hch⟩;have hbk := hb0.k0 hch;refine zc fun _ kh6 => Sr fun _ kh7 => zm rfl (zm rfl ?_);refine WL.ev (Ev.nilPtr rfl) rfl ?_;refine zf rfl (zl hbk rfl rfl (zn rfl ?_));refine WL.ev (Ev.lss rfl rfl) rfl ?_;refine zz (kh7 ?_);refine zy rfl ?_ ?_<;>intro hc1<;>try simp only [qs] at hc1
  ·have hcO := cell_f hO (i := i) (by omega);have hcW := cell_f hW (i := i) (by omega);refine zkk ?_
   refine kh6 (zc fun _ kh9 => ?_);refine CW.block ?_;refine zc fun _ kh10 => ?_;refine CW.regionHC 16 rfl hmix fun kR11 kr11 hS hdr => ?_;have hch := hch.ta hdr;have hbk := hbk.keep0 hdr;have hch_r := hch;have hbk_r := hbk;refine wh 0 rfl hS (fun _ _ => Ev.move rfl) (wh 1 rfl hS (fun _ _ => Ev.nilPtr rfl) (wh 2 rfl hS (fun _ _ => Ev.fieldAddr rfl) (wh 3 rfl hS (fun _ hw' => Ev.load rfl rfl ((hbk_r.keep0 hw').at_ rfl)) (wh 4 rfl hS (fun _ _ => Ev.move rfl) (wh 5 rfl hS (fun _ hw' => Ev.ixR (i) rfl rfl (hO.keep0 (hch_r.trans hw')) (by omega) (by omega) (by simp; omega)) (wh 6 rfl hS (fun _ hw' => Ev.load rfl rfl (cell_f (hO.keep0 (hch_r.trans hw')) (i := i) (by omega))) (wh 7 rfl hS (fun _ _ => Ev.move rfl) (wh 8 rfl hS (fun _ _ => Ev.nilPtr rfl) (wh 9 rfl hS (fun _ _ => Ev.fieldAddr rfl) (wh 10 rfl hS (fun _ hw' => Ev.load rfl rfl ((hbk_r.keep0 hw').at_ rfl)) (wh 11 rfl hS (fun _ _ => Ev.move rfl) (wh 12 rfl hS (fun _ hw' => Ev.ixR (i) rfl rfl (hW.keep0 (hch_r.trans hw')) (by omega) (by omega) (by simp; omega)) (wh 13 rfl hS (fun _ hw' => Ev.load rfl rfl (cell_f (hW.keep0 (hch_r.trans hw')) (i := i) (by omega))) ?_)))))))))))));refine WH.oneCall 14 rfl (by kernel_rfl) hasF140 rfl rfl (SameList_spec _ _ (Lf i) _ ((hN i (by omega)).1.keep0 hch) ((hN i (by omega)).2.keep0 hch)) fun v w1 h' => ?_;obtain ⟨rfl, hC⟩ := h';have hch := hch.ta hC;have hS := hS.trans hC;refine ⟨hS, ?_⟩;refine wh 15 rfl hS (fun _ _ => Ev.assign rfl) ?_;refine WH.done (by kernel_rfl) (kr11 _ _ _ ?_);refine kh10 (Sr fun _ kh12 => zm rfl ?_);refine WL.ev (Ev.not rfl) rfl ?_;refine zz (kh12 ?_);refine CW.condF rfl ?_;refine zkk ?_;refine kh9 ?_;refine zR fun _ kr14 => ?_;refine zm rfl ?_;(first | refine zi rfl rfl ?_ | refine zo rfl rfl ?_);refine za rfl ?_;refine WL.nil (kr14 _ _ _ ?_);refine ⟨rfl, i + 1, ?_, ?_, ?_⟩
   ·exact SLp
   ·exact ⟨by omega, hch⟩
   ·show n - (i + 1) < n - i; omega
  ·refine CW.exit ?_
   refine kh3 (Sr fun _ kh15 => za rfl (zz (kh15 ?_)));refine zr (zr1 rfl rfl ?_);exact ⟨rfl, hch⟩

end

/- Two rows that grow beside one another; appends in a drawn region whose last store is late. No condition. -/
section
open Go Sx Wd Fl

/-- The second row keeps clear of the first one's block, where the first one keeps clear of the second's. -/
theorem GR.sym {w : World} {e e' : TypeId} {f f' : Nat → Value} {lo lo' : Nat} {X Y : List Nat} {v v' : Value} {l l' : List Nat} (h : GR w e f lo X v l) (h' : GR w e' f' lo' Y v' l') (hY : v.ownBlock.toList ⊆ Y) : GR w e f lo (X ++ v'.ownBlock.toList) v l :=
  ⟨h.1, fun b hb => ⟨(h.2 b hb).1, fun hm => by
    rcases List.mem_append.1 hm with q | q
    · exact (h.2 b hb).2 q
    · have e1 := Option.mem_toList.1 q
      exact (h'.2 b e1).2 (hY (Option.mem_toList.2 hb))⟩⟩
theorem GR.congr {w : World} {e : TypeId} {f f' : Nat → Value} {lo : Nat} {X : List Nat} {v : Value} {l : List Nat} (h : GR w e f lo X v l) (hf : ∀ i ∈ l, f i = f' i) : GR w e f' lo X v l := by
  have e1 : l.map f = l.map f' := List.map_congr_left hf
  refine ⟨?_, h.2⟩
  have := h.1
  rwa [e1] at this
/-- f, but v at n. -/
def fput (f : Nat → Value) (n : Nat) (v : Value) (i : Nat) : Value := if i = n then v else f i
theorem fput_at (f : Nat → Value) (n : Nat) (v : Value) : fput f n v n = v := if_pos rfl
theorem fput_ne (f : Nat → Value) {n i : Nat} (v : Value) (h : i ≠ n) : fput f n v i = f i := if_neg h
theorem GR.fput {w : World} {e : TypeId} {f : Nat → Value} {lo : Nat} {X : List Nat} {v u : Value} {n : Nat} (h : GR w e f lo X v (List.range n)) : GR w e (fput f n u) lo X v (List.range n) :=
  h.congr fun i hi => (fput_ne f u (by have := List.mem_range.1 hi; omega)).symm
theorem range_next (n : Nat) : List.range n ++ [n] = List.range (n + 1) := (List.range_succ).symm
theorem RW.one_f {w : World} {b n : Nat} {E : TypeId} {f : Nat → Value} {v : Value} (h : w.heap[b]? = some (.cells [v].toArray E (0, 0))) (hf : f n = v) : RW w (some ⟨b, 0, none⟩) ([n].map f) := by
  have e1 : [n].map f = [v] := by rw [List.map_cons, List.map_nil, hf]
  rw [e1]; exact RW.of_heap h
namespace Sx
section
variable {P : Program} {A : AQ} {n : Nat} {D : List Deferred} {s : Sl} {w : World} {ops : Array Oper} {K : KK} {S : World → Prop} {z fuel : Nat} {listed : Array Bool}
variable {op : Op} {ty : TypeId} {pos : String} {af : Array Edge} {d : Nat} {v : Value} {x y : Operand}
theorem CW.regionKT {id : Nat} {l : List Oper} (T0 : List Nat) (z m : Nat) (hz : l.length = m) (hm : P.follows .mixedOrders = true)
    (h : ∀ R : KK, (∀ D s w, A .normal D s w → R D s w) → Chg T0 w.drew w.drew → Chg [] w w.drew → WK P l.toArray R (Chg T0 w.drew) z m (Array.replicate m false) n D s w.drew) : CW P (.region id l.toArray true) A n D s w :=
  CW.regionK (Chg T0 w.drew) z m hz hm fun R hR => h R hR (Chg.refl _ _) (Chg.drew _ _)
theorem WK.emptyC (i : Nat) {w0 : World} {T0 : List Nat} {t e : TypeId} {de : TypeDesc} {sz by_ es be : Nat} {z0 ze : Value} {f : Nat → Value} {lo : Nat} {X : List Nat} [hT : HasT P t (.slice e) sz by_ z0] [hE : HasT P e de es be ze] (hi : ops[i]? = some ⟨some d, .buildSlice t 0 #[], ty, pos, af, none⟩) (hr : Region.ready .any ops listed = [i]) (hS : Chg T0 w0 w) (hlo : lo ≤ w.heap.size) (hX : ∀ b ∈ X, b < w.heap.size) (hd : Nat.blt d n = true)
    (k : ∀ v w', GR w' e f lo X v [] → Chg [] w w' → Chg T0 w0 w' → WK P ops K (Chg T0 w0) z fuel (listed.setIfInBounds i true) n D ((d, v) :: s) w') : WK P ops K (Chg T0 w0) z (fuel + 1) listed n D s w := by
  obtain ⟨v, w', he, hg, hc⟩ := ev_empty (P := P) (s := s) (ty := ty) (t := t) (hT := hT) (hE := hE) (f := f) hlo hX
  exact WK.one i hi hr he (fun _ => hS.ta hc) hd (k v w' hg hc (hS.ta hc))
theorem WK.growC (i : Nat) {w0 : World} {T0 : List Nat} {t e be : Nat} {de : TypeDesc} {ze : Value} {sz by_ : Nat} {z0 : Value} {v : Value} {f : Nat → Value} {lo : Nat} {X : List Nat} {l news : List Nat} {a : Option Addr} {mm c : Nat} [hT : HasT P t (.slice e) sz by_ z0] [hE : HasT P e de 1 be ze]
    (hi : ops[i]? = some ⟨some d, .call ⟨.builtin .append, [x, y].toArray, #[t, t]⟩, ty, pos, af, none⟩) (hr : Region.ready .any ops listed = [i]) (hS : Chg T0 w0 w)
    (hzs : ze.cells.size = 1) (h1 : ∀ i, (f i).oneCell' = true) (hx : opnd s x = some v) (hy : opnd s y = some (.slice a mm c)) (hg : GR w e f lo X v l) (hm : mm = news.length) (hrw : RW w a (news.map f)) (hw0 : w0.heap.size ≤ lo) (hlo : lo ≤ w.heap.size) (hX : ∀ b ∈ X, b < w.heap.size)
    (hbytes : (l.length + news.length) * be ≤ 140737488355328) (h63 : l.length + news.length ≤ 70368744177664) (hd : Nat.blt d n = true)
    (k : ∀ v' w', GR w' e f lo X v' (l ++ news) → Chg v.ownBlock.toList w w' → Chg T0 w0 w' → WK P ops K (Chg T0 w0) z fuel (listed.setIfInBounds i true) n D ((d, v') :: s) w') : WK P ops K (Chg T0 w0) z (fuel + 1) listed n D s w := by
  obtain ⟨v', w', he, hg2, hc⟩ := ev_growR (P := P) (s := s) (ty := ty) (t := t) (hT := hT) (hE := hE) hzs h1 hx hy hg hm hrw hlo hX hbytes h63
  have hS2 := GR.frame hg hc hS hw0
  exact WK.one i hi hr he (fun _ => hS2) hd (k v' w' hg2 hc hS2)
/-- The same, where only the late store comes behind: the row may be an old one. -/
theorem WK.growL (i : Nat) {t e be : Nat} {de : TypeDesc} {ze : Value} {sz by_ : Nat} {z0 : Value} {v : Value} {f : Nat → Value} {lo : Nat} {X : List Nat} {l news : List Nat} {a : Option Addr} {mm c : Nat} [hT : HasT P t (.slice e) sz by_ z0] [hE : HasT P e de 1 be ze]
    (hi : ops[i]? = some ⟨some d, .call ⟨.builtin .append, [x, y].toArray, #[t, t]⟩, ty, pos, af, none⟩) (hr : Region.ready .any ops listed = [i])
    (hzs : ze.cells.size = 1) (h1 : ∀ i, (f i).oneCell' = true) (hx : opnd s x = some v) (hy : opnd s y = some (.slice a mm c)) (hg : GR w e f lo X v l) (hm : mm = news.length) (hrw : RW w a (news.map f)) (hlo : lo ≤ w.heap.size) (hX : ∀ b ∈ X, b < w.heap.size)
    (hbytes : (l.length + news.length) * be ≤ 140737488355328) (h63 : l.length + news.length ≤ 70368744177664) (hd : Nat.blt d n = true)
    (hST : ∀ w', Chg v.ownBlock.toList w w' → (listed.setIfInBounds i true).getD z false = false → S w')
    (k : ∀ v' w', GR w' e f lo X v' (l ++ news) → Chg v.ownBlock.toList w w' → WK P ops K S z fuel (listed.setIfInBounds i true) n D ((d, v') :: s) w') : WK P ops K S z (fuel + 1) listed n D s w := by
  obtain ⟨v', w', he, hg2, hc⟩ := ev_growR (P := P) (s := s) (ty := ty) (t := t) (hT := hT) (hE := hE) hzs h1 hx hy hg hm hrw hlo hX hbytes h63
  exact WK.one i hi hr he (hST w' hc) hd (k v' w' hg2 hc)
theorem WK.buildSliceC (i : Nat) {w0 : World} {T0 : List Nat} {t e : TypeId} {de : TypeDesc} {sz by_ es be : Nat} {z0 ze : Value} {ps : List (Nat × Operand)} {vs : List (Nat × Value)} {cs : List Value} {m : Nat} [hT : HasT P t (.slice e) sz by_ z0] [hE : HasT P e de es be ze]
    (hi : ops[i]? = some ⟨some d, .buildSlice t m ps.toArray, ty, pos, af, none⟩) (hr : Region.ready .any ops listed = [i]) (hS : Chg T0 w0 w)
    (hm : m * es ≤ 2 ^ 24) (hp : 0 < m * es) (hx : opndP s ps = some vs) (hf : Instr.fill (fun i => some (i * es, es)) ((Array.range (m * es)).map (ze.cells[· % ze.cells.size]!)) vs = some cs.toArray) (hd : Nat.blt d n = true)
    (k : ∀ b w', New w b (.cells cs.toArray e) w' → Chg T0 w0 w' → WK P ops K (Chg T0 w0) z fuel (listed.setIfInBounds i true) n D ((d, .slice (some ⟨b, 0, none⟩) m m) :: s) w') : WK P ops K (Chg T0 w0) z (fuel + 1) listed n D s w := by
  obtain ⟨b, w', he, hn⟩ := ev_buildSlice (P := P) (ty := ty) (w := w) (t := t) (hT := hT) (hE := hE) hm hp hx hf
  exact WK.one i hi hr he (fun _ => hS.trans (Chg.any hn.chg)) hd (k b w' hn (hS.trans (Chg.any hn.chg)))
end
end Sx
end

/- A store into a row that grows. No condition. -/
section
open Go Sx Wd Fl

theorem take_set_map {cur : List Value} {l : List Nat} {f : Nat → Value} {j x : Nat} (h : cur.take l.length = l.map f) : (cur.set j (f x)).take (l.set j x).length = (l.set j x).map f := by
  rw [List.length_set, List.take_set, h, List.map_set]
namespace Sx
section
variable {P : Program} {n : Nat} {D : List Deferred} {s : Sl} {w : World} {ops : Array Oper} {K : KK} {rest : List Oper} {ty : TypeId} {pos : String} {af : Array Edge} {x y : Operand}
/-- A store into an own row, at a place that it has. -/
theorem evS_storeGR {t e : TypeId} {ds : TypeDesc} {by_ : Nat} {z : Value} {f : Nat → Value} {lo b m c j q : Nat} {X l : List Nat} [hT : HasT P t ds 1 by_ z] (hx : opnd s x = some (.pointer (some ⟨b, j, none⟩))) (hy : opnd s y = some (f q)) (h1 : (f q).oneCell' = true)
    (hg : GR w e f lo X (.slice (some ⟨b, 0, none⟩) m c) l) (hj : j < l.length) : ∃ w', EvS P s (.store t x y) ty w w' ∧ GR w' e f lo X (.slice (some ⟨b, 0, none⟩) m c) (l.set j q) ∧ Chg [b] w w' := by
  have hne : l ≠ [] := fun h => by rw [h] at hj; exact absurd hj (Nat.not_lt_zero _)
  obtain ⟨b', c', cur, e1, hheap, hnc, hcm, hcs, htake, hlo, hbX⟩ := hg.own hne
  cases e1
  have hcl : cur = cur.toList.toArray := by simp
  rw [hcl] at hheap
  have hjc : j < cur.toList.length := by simp; omega
  have h := evS_store (P := P) (ty := ty) (t := t) (hT := hT) hx hy h1 hheap hjc
  refine ⟨_, h.1, ⟨⟨by simp, .inr ⟨b, c, (cur.toList.set j (f q)).toArray, by rw [List.length_set], Nat.zero_le _, h.2.at_, by rw [List.length_set]; exact hnc, hcm, by simp; omega, ?_⟩⟩, hg.2⟩, h.2.chg⟩
  rw [Nat.mul_one]
  exact take_set_map htake
theorem WK.storeGR (i : Nat) {S : World → Prop} {zz_ fuel : Nat} {listed : Array Bool} {t e : TypeId} {ds : TypeDesc} {by_ : Nat} {z : Value} {f : Nat → Value} {lo b m c j q : Nat} {X l : List Nat} [hT : HasT P t ds 1 by_ z] (hi : ops[i]? = some ⟨none, .store t x y, ty, pos, af, none⟩) (hr : Region.ready .any ops listed = [i]) (hlast : (listed.setIfInBounds i true).getD zz_ false = true)
    (hx : opnd s x = some (.pointer (some ⟨b, j, none⟩))) (hy : opnd s y = some (f q)) (h1 : (f q).oneCell' = true)
    (hg : GR w e f lo X (.slice (some ⟨b, 0, none⟩) m c) l) (hj : j < l.length) (k : ∀ w', GR w' e f lo X (.slice (some ⟨b, 0, none⟩) m c) (l.set j q) → Chg [b] w w' → WK P ops K S zz_ fuel (listed.setIfInBounds i true) n D s w') : WK P ops K S zz_ (fuel + 1) listed n D s w := by
  obtain ⟨w', he, hg2, hc⟩ := evS_storeGR (P := P) (ty := ty) (t := t) (hT := hT) hx hy h1 hg hj
  exact WK.oneS i hi hr he (fun e => by rw [hlast] at e; cases e) (k w' hg2 hc)
end
end Sx
end

/- Lists that came out: Book.Take. No condition. -/
section
open Go Sx Wd Fl

theorem NF.keepT {w w' : World} {a : Option Addr} {m c : Nat} {l : List Nat} {T : List Nat} (h : NF w (.slice a m c) l) (hc : Chg T w w') (ha : ∀ ad, a = some ad → ad.block ∉ T) : NF w' (.slice a m c) l := by
  obtain ⟨⟨a', c', e, hcap, hr⟩, hw, hl⟩ := h
  cases e
  exact ⟨⟨a, c, rfl, hcap, hr.keepB hc ha⟩, hw, hl⟩

theorem NF.rw_ {w : World} {a : Option Addr} {m c : Nat} {l : List Nat} (h : NF w (.slice a m c) l) : RW w a (l.map f64v) := by
  obtain ⟨⟨a', c', e, _, hr⟩, _, _⟩ := h
  cases e; exact hr
theorem xv_lt {w : World} {bk : Nat} {T : TypeId} {cs : List Value} {e e' : TypeId} {f f' : Nat → Value} {lo lo' : Nat} {X X' : List Nat} {v v' : Value} {l l' : List Nat} (hb : BK w bk T cs) (h : GR w e f lo X v l) (h' : GR w e' f' lo' X' v' l') : ∀ b ∈ bk :: (v.ownBlock.toList ++ v'.ownBlock.toList), b < w.heap.size := by
  intro b hm
  rcases List.mem_cons.1 hm with rfl | hm
  · exact hb.lt
  · rcases List.mem_append.1 hm with hm | hm
    · exact h.lt (Option.mem_toList.1 hm)
    · exact h'.lt (Option.mem_toList.1 hm)
theorem GR.ltm {w w' : World} {e : TypeId} {f : Nat → Value} {lo : Nat} {X : List Nat} {v : Value} {l : List Nat} (h : GR w e f lo X v l) (hs : w.heap.size ≤ w'.heap.size) {b : Nat} (hb : b ∈ v.ownBlock.toList) : b < w'.heap.size := Nat.lt_of_lt_of_le (h.lt (Option.mem_toList.1 hb)) hs
theorem fput_one {f : Nat → Value} {n : Nat} {v : Value} (h : ∀ i, (f i).oneCell' = true) (hv : v.oneCell' = true) (i : Nat) : (fput f n v i).oneCell' = true := by
  unfold fput; split
  · exact hv
  · exact h i

theorem Take_spec (bk n lo : Nat) (vO vW : Value) (fO fW : Nat → Value) (a : Option Addr) (l : List Nat) (c : Nat) (w : World) (hbk : BK w bk 34 [vO, vW]) (hO : GR w 22 fO lo (bk :: vW.ownBlock.toList) vO (List.range n)) (hWn : GR w 22 fW lo (bk :: vO.ownBlock.toList) vW (List.range n)) (h1 : ∀ i, (fO i).oneCell' = true) (h2 : ∀ i, (fW i).oneCell' = true) (hfn : fO n = .slice a l.length c) (hv : NF w (.slice a l.length c) l) (hal : ∀ ad, a = some ad → ad.block < lo) (hlo : lo ≤ w.heap.size) (hlb : lo ≤ bk) (hn : n ≤ 1000) (hll : l.length ≤ 1000000) : Ret Tryz.prog 17 [.pointer (some ⟨bk, 0, none⟩), .slice a l.length c] w fun u w' => ∃ vO' vW' vw, BK w' bk 34 [vO', vW'] ∧ GR w' 22 fO lo (bk :: vW'.ownBlock.toList) vO' (List.range (n + 1)) ∧ GR w' 22 (fput fW n vw) lo (bk :: vO'.ownBlock.toList) vW' (List.range (n + 1)) ∧ GR w' 30 f64v w.heap.size (bk :: (vO'.ownBlock.toList ++ vW'.ownBlock.toList)) vw l ∧ Chg (bk :: (vO.ownBlock.toList ++ vW.ownBlock.toList)) w w' := by
  have hch : Chg (bk :: (vO.ownBlock.toList ++ vW.ownBlock.toList)) w w := Chg.refl _ _;have hO0 := hO;refine zE2 Tryz.func17 rfl ?_;refine Sr fun _ kh1 => zm rfl (zm rfl ?_);refine WL.ev (Ev.nilPtr rfl) rfl ?_;refine zf rfl (zl hbk rfl rfl (zm rfl ?_));refine WL.buildSlice (m := 1) (cs := [.slice a l.length c]) (by decide) (by decide) rfl (by kernel_rfl) rfl fun b10 w10 hn10 => ?_;have hcm10 := hn10.chg;have hb10 := hn10.at_;have hch := hch.ta hcm10;have hbk := hbk.keep0 hcm10;have hO := hO.keep0 hcm10;have hWn := hWn.keep0 hcm10;have hv := hv.keep0 hcm10;have hXO : ∀ b ∈ (bk :: vW.ownBlock.toList), b < w10.heap.size := by
    intro b hb;rcases List.mem_cons.1 hb with rfl | hb
    · exact hbk.lt
    · exact hWn.lt (Option.mem_toList.1 hb)
  refine WL.growR (f := fO) (lo := lo) (X := (bk :: vW.ownBlock.toList)) (l := List.range n) (news := [n]) (by rfl) h1 rfl rfl hO rfl (RW.one_f hb10 hfn) (Nat.le_trans hlo hch.size) hXO (by simp; omega) (by simp; omega) rfl fun v11 w11 hg11 hcg11 => ?_;have hch := hch.step hcg11 (fun y hy => .inl (by simp only [List.mem_cons, List.mem_append]; exact .inr (.inl hy)));have hbk := hbk.keep hcg11 (hO.notin (.inl (List.mem_cons_self ..)));have hWn := hWn.keep hcg11 (fun b hb => .inl (List.mem_cons_of_mem _ hb));have hv := hv.keepT hcg11 (fun ad e hm => by have := (hO.2 _ (Option.mem_toList.1 hm)).1; have := hal ad e; omega);rw [range_next] at hg11;have hWn := hWn.sym hg11 (List.subset_cons_self ..);have hO := hg11;have ho11 := hg11.one;refine WL.ev (Ev.nilPtr rfl) rfl ?_;refine zf rfl ?_;refine WL.storeC rfl rfl o1 hbk (by simp) rfl fun ws1 hbk_ hcs1 => ?_;(try simp only [Sx.splice, qt] at hbk_);have hch := hch.s1 hcs1;have hO := hO.keep hcs1 (fun y hy => by simp only [List.mem_singleton] at hy; subst hy; first | exact .inl (by simp) | exact .inr (.inl (by omega)) | exact .inr (.inr (by omega)));have hWn := hWn.keep hcs1 (fun y hy => by simp only [List.mem_singleton] at hy; subst hy; first | exact .inl (by simp) | exact .inr (.inl (by omega)) | exact .inr (.inr (by omega)));have hbk := hbk_;refine zz (kh1 ?_);refine CW.regionKT (vW.ownBlock.toList) 12 13 rfl hmix fun kR3 kr3 hS hdr => ?_;have hch := hch.ta hdr;have hbk := hbk.keep0 hdr;have hO := hO.keep0 hdr;have hWn := hWn.keep0 hdr;have hbk_r := hbk;have hlw := hch.size;have hv := (hv.keepT hcs1 (fun ad e hm => by have := hal ad e; have := List.mem_singleton.1 hm; omega)).keep0 hdr;have hnb := hWn.notin (b := bk) (.inl (List.mem_append_left _ (List.mem_cons_self ..)));have hbk1 := hbk;have hO1 := hO;have hv1 := hv;have hch1 := hch;have hWr := hWn;have hS0 := hS.size;have hav := fun (ad : Addr) (e : a = some ad) (hm : ad.block ∈ vW.ownBlock.toList) => show False by have := (hWr.2 _ (Option.mem_toList.1 hm)).1; have := hal ad e; omega
  have hXV := xv_lt hbk hO hWn;refine wk 0 rfl hS (fun _ _ => Ev.move rfl) (wk 1 rfl hS (fun _ _ => Ev.move rfl) (wk 2 rfl hS (fun _ _ => Ev.nilPtr rfl) (wk 3 rfl hS (fun _ _ => Ev.fieldAddr rfl) (wk 4 rfl hS (fun _ hw' => Ev.load rfl rfl ((hbk_r.keep hw' hnb).at_ rfl)) (wk 6 rfl hS (fun _ _ => Ev.move rfl) ?_)))));refine WK.emptyC (f := f64v) (X := (bk :: (v11.ownBlock.toList ++ vW.ownBlock.toList))) 5 rfl (by kernel_rfl) hS (Nat.le_refl _) hXV rfl fun v19 w19 hg19 hc19 hS => ?_;have hs19 := hS.size;have hbk := hbk1.keep hS hnb;have hO := hO1.keep hS (fun b hb => .inl (List.mem_cons_of_mem _ hb));have hv := hv1.keepT hS hav;have hch := hch1.step hS (fun y hy => .inl (by simp only [List.mem_cons, List.mem_append]; exact .inr (.inr hy)));have hWn := (hWn.keep0 hc19).sym hg19 (fun y hy => List.mem_cons_of_mem _ (List.mem_append_right _ hy));refine WK.growC (f := f64v) (news := l) 7 rfl (by kernel_rfl) hS (by rfl) (fun _ => rfl) rfl rfl hg19 rfl hv.rw_ hS0 hs19 (fun b hb => Nat.lt_of_lt_of_le (hXV b hb) hs19) (by simp only [List.length_nil]; omega) (by simp only [List.length_nil]; omega) rfl fun v21 w21 hg21 hc21 hS => ?_;rw [List.nil_append] at hg21;have hs21 := hS.size;have hWn := hWn.keep hc21 (fun b hb => .inl (List.mem_append_right _ hb));have hWn := hWn.sym hg21 (fun y hy => List.mem_cons_of_mem _ (List.mem_append_right _ hy));obtain ⟨a21, c21, rfl, hcap21, hr21⟩ := hg21.row;have hbk := hbk1.keep hS hnb;have hO := hO1.keep hS (fun b hb => .inl (List.mem_cons_of_mem _ hb));have hv := hv1.keepT hS hav;have hch := hch1.step hS (fun y hy => .inl (by simp only [List.mem_cons, List.mem_append]; exact .inr (.inr hy)));refine WK.buildSliceC (m := 1) (cs := [.slice a21 l.length c21]) 8 rfl (by kernel_rfl) hS (by decide) (by decide) rfl (by kernel_rfl) rfl fun b22 w22 hn22 hS => ?_;have hg21 := hg21.keep0 hn22.chg;have hb22 := hn22.at_;have hs22 := hS.size;have hWn := hWn.keep0 hn22.chg;have hbk := hbk1.keep hS hnb;have hO := hO1.keep hS (fun b hb => .inl (List.mem_cons_of_mem _ hb));have hv := hv1.keepT hS hav;have hch := hch1.step hS (fun y hy => .inl (by simp only [List.mem_cons, List.mem_append]; exact .inr (.inr hy)));have hX23 : ∀ b ∈ (((bk :: vO.ownBlock.toList) ++ v11.ownBlock.toList) ++ v19.ownBlock.toList) ++ (Value.slice a21 l.length c21).ownBlock.toList, b < w22.heap.size := by
    intro b hb;rcases List.mem_append.1 hb with hb | hb
    · rcases List.mem_append.1 hb with hb | hb
      · rcases List.mem_append.1 hb with hb | hb
        · rcases List.mem_cons.1 hb with rfl | hb
          · exact hbk.lt
          · exact hO0.ltm hch.size hb
        · exact hO.lt (Option.mem_toList.1 hb)
      · exact hg19.ltm (Nat.le_trans hc21.size hn22.chg.size) hb
    · exact hg21.lt (Option.mem_toList.1 hb)
  refine WK.growL (f := fput fW n (.slice a21 l.length c21)) (l := List.range n) (news := [n]) 9 rfl (by kernel_rfl) (by rfl) (fput_one h2 rfl) rfl rfl hWn.fput rfl (RW.one_f hb22 (fput_at ..)) (Nat.le_trans hlo hch.size) hX23 (by simp; omega) (by simp; omega) rfl (fun w9 hc _ => hS.step hc (fun y hy => .inl hy)) fun v23 w23 hg23 hc23 => ?_;rw [range_next] at hg23;have hbk := hbk.keep hc23 hnb;have hO := hO.keep hc23 (fun b hb => .inl (List.mem_cons_of_mem _ hb));have hWn := hg23;have hg21 := hg21.keep hc23 (fun b hb => .inl (List.mem_cons_of_mem _ (List.mem_append_right _ hb)));have hch := hch.step hc23 (fun y hy => .inl (by simp only [List.mem_cons, List.mem_append]; exact .inr (.inr hy)));have ho23 := hg23.one;have hS := hS.step hc23 (fun y hy => .inl hy);refine WK.takeT 10 rfl (by kernel_rfl) (by kernel_rfl) (by kernel_rfl) (by kernel_rfl) (fun _ => hS) (fun w' => Ev.nilPtr rfl) rfl ?_;refine wk 11 rfl hS (fun _ _ => Ev.fieldAddr rfl) ?_;refine WK.storeC 12 rfl (by kernel_rfl) (by kernel_rfl) rfl rfl o1 hbk (by simp) rfl fun ws2 hbk_ hcs2 => ?_;(try simp only [Sx.splice, qt] at hbk_);have hch := hch.s1 hcs2;have hO := hO.keep hcs2 (fun y hy => by simp only [List.mem_singleton] at hy; subst hy; first | exact .inl (by simp) | exact .inr (.inl (by omega)) | exact .inr (.inr (by omega)));have hWn := hWn.keep hcs2 (fun y hy => by simp only [List.mem_singleton] at hy; subst hy; first | exact .inl (by simp) | exact .inr (.inl (by omega)) | exact .inr (.inr (by omega)));have hbk := hbk_;refine WK.done (by kernel_rfl) (kr3 _ _ _ ?_);refine bodyA.norm0 rfl ?_;have hg21 := hg21.keep hcs2 (fun b hb => .inl (by rw [List.mem_singleton.1 hb]; exact List.mem_cons_self ..));have hOF := hO.sym hWn (fun y hy => by simp only [List.mem_append]; exact .inl (.inl (.inr hy)));have hgF := hg21.sym hWn (fun y hy => List.mem_append_right _ hy);refine ⟨v11, v23, .slice a21 l.length c21, hbk, hOF.mono (Nat.le_refl _) (fun b hb => ?_), hWn.mono (Nat.le_refl _) (fun b hb => ?_), hgF.mono hlw (fun b hb => ?_), hch⟩
  · rcases List.mem_cons.1 hb with rfl | hb
    · exact .inl (List.mem_append_left _ (List.mem_cons_self ..))
    · exact .inl (List.mem_append_right _ hb)
  · rcases List.mem_cons.1 hb with rfl | hb
    · exact .inl (by simp)
    · exact .inl (by simp only [List.mem_append]; exact .inl (.inl (.inr hb)))
  · rcases List.mem_cons.1 hb with rfl | hb
    · exact .inl (by simp)
    · rcases List.mem_append.1 hb with hb | hb
      · exact .inl (by simp only [List.mem_append, List.mem_cons]; exact .inl (.inr (.inl hb)))
      · exact .inl (List.mem_append_right _ hb)

end

/- What grows leaves the part that was there before readable where it lay. No condition. -/
section
open Go Sx Wd Fl
namespace Sx
section
variable {P : Program} {n : Nat} {D : List Deferred} {s : Sl} {w : World} {ops : Array Oper} {K : KK} {rest : List Oper} {ty : TypeId} {pos : String} {af : Array Edge} {d : Nat} {x y : Operand}
theorem Ev.det {op : Op} {v u : Value} {w' w'' : World} (h1 : Ev P s op ty w v w') (h2 : Ev P s op ty w u w'') : v = u ∧ w' = w'' := by
  have a := h1 (fun x => (opnd s x).getD undef) none "" #[] none (fun x u h => by simp [h])
  have b := h2 (fun x => (opnd s x).getD undef) none "" #[] none (fun x u h => by simp [h])
  rw [a] at b
  injection b with c d
  injection c with c
  exact ⟨c, d⟩
theorem ev_growO {t e be : Nat} {de : TypeDesc} {ze : Value} {sz by_ : Nat} {z : Value} {f : Nat → Value} {lo g cap k : Nat} {X : List Nat} {l news : List Nat} {ad : Addr} {mm c : Nat} [hT : HasT P t (.slice e) sz by_ z] [hE : HasT P e de 1 be ze]
    (hzs : ze.cells.size = 1) (h1 : ∀ i, (f i).oneCell' = true) (hx : opnd s x = some (.slice (some ⟨g, 0, none⟩) k cap)) (hy : opnd s y = some (.slice (some ad) mm c)) (hg : GR w e f lo X (.slice (some ⟨g, 0, none⟩) k cap) l) (hm : mm = news.length) (hr : RW w (some ad) (news.map f)) (hlo : lo ≤ w.heap.size) (hX : ∀ b ∈ X, b < w.heap.size)
    (hbytes : (l.length + news.length) * be ≤ 140737488355328) (h63 : l.length + news.length ≤ 70368744177664) :
    ∃ v' w', Ev P s (.call ⟨.builtin .append, [x, y].toArray, #[t, t]⟩) ty w v' w' ∧ GR w' e f lo X v' (l ++ news) ∧ Chg [g] w w' ∧ RW w' (some ⟨g, 0, none⟩) (l.map f) := by
  obtain ⟨hrw, hk, hkc⟩ := hg.rw_
  subst hk
  have hnews : ∀ j u, (news.map f)[j]? = some u → w.cell? (ad.add j) = some u := fun j u hu => by
    obtain ⟨ad', e1, hcell⟩ := hr j u hu
    cases e1; exact hcell
  have hones : ∀ u ∈ news.map f, u.oneCell' = true := fun u hu => by
    obtain ⟨i, _, rfl⟩ := List.mem_map.1 hu
    exact h1 i
  by_cases hroom : l.length + mm ≤ cap
  · obtain ⟨v', w', he, hg2, hc⟩ := ev_growR (P := P) (s := s) (ty := ty) (t := t) (hT := hT) (hE := hE) hzs h1 hx hy hg hm hr hlo hX hbytes h63
    obtain ⟨i, hi, hi1, hi2, hi3⟩ := hE.inf
    obtain ⟨_, hcase⟩ := id hg.1
    rcases hcase with ⟨h0, _⟩ | ⟨g', cp, cur, e1, _, hheap, hnc, hcm, hcs, htake⟩
    · cases h0
    · cases e1
      have hrun := run_append_room (P := P) w t ty e i hT.und hi g l.length cap cur hheap ad mm c (news.map f) (by rw [hi1]; simp; omega) hnews hones hroom (by rw [hi1, hcs]; simp; omega)
      have h2 : Ev P s (.call ⟨.builtin .append, [x, y].toArray, #[t, t]⟩) ty w _ _ := fun ρ d' pos af g9 hρ => by
        have e1 := hρ x _ hx
        have e2 := hρ y _ hy
        simp [execOp, resolve, invoke, builtin, e1, e2, hrun]
        exact ⟨rfl, rfl⟩
      obtain ⟨hv, hw⟩ := Ev.det he h2
      subst hv
      refine ⟨_, w', he, hg2, hc, ?_⟩
      have h3 := hg2.rw_.1
      rw [List.map_append] at h3
      exact h3.append_left
  · obtain ⟨i, hi, hi1, hi2, hi3⟩ := hE.inf
    obtain ⟨v', w', hrun, ho, hgr⟩ := run_append_arg_grows (P := P) (w := w) t ty e i ze 1 be hT.und hi hi3 hi1 hi2 hzs (by omega) ⟨g, 0, none⟩ l.length cap (l.map f) (by simp) (fun j u hu => by
      obtain ⟨ad', e1, hcell⟩ := hrw j u hu
      cases e1; exact hcell) ad mm c (news.map f) (by simp; omega) hnews (by omega) (by unfold maxLen; omega) (by rw [hm]; exact hbytes)
    have hc0 : Chg [] w w' := ⟨hgr.os, hgr.tape, hgr.output, hgr.size, fun j hj _ => hgr.block j hj (fun he => by cases he)⟩
    refine ⟨v', w', fun ρ d' pos af g9 hρ => ?_, ?_, Chg.any hc0, hrw.keep0 hc0⟩
    · have e1 := hρ x _ hx
      have e2 := hρ y _ hy
      simp [execOp, resolve, invoke, builtin, e1, e2, hrun]
    · obtain ⟨hl1, hcase⟩ := ho
      rcases hcase with ⟨rfl, h0⟩ | ⟨g', cp, cur, rfl, hb, hrest⟩
      · exfalso; omega
      · refine ⟨⟨by simp, .inr ⟨g', cp, cur, by rw [List.length_append, ← hm], Nat.zero_le _, ?_⟩⟩, fun b hb2 => ?_⟩
        · rw [List.length_append, List.map_append, ← hm]; exact hrest
        · cases hb2
          exact ⟨Nat.le_trans hlo hb, fun hmX => by have h9 : g' < w.heap.size := hX _ hmX; omega⟩
end
end Sx
end

/- Rows that keep clear of a block that changes. No condition. -/
section
open Go Sx Wd Fl

theorem GR.keepN {w w' : World} {e : TypeId} {f : Nat → Value} {lo b : Nat} {X : List Nat} {v : Value} {l : List Nat} (h : GR w e f lo X v l) (hc : Chg [b] w w') (hn : v.ownBlock ≠ some b) : GR w' e f lo X v l :=
  ⟨own_keep h.1 hc fun x hx hm => hn (by rw [hx, List.mem_singleton.1 hm]), h.2⟩
/-- No two of the values have one block. -/
def Apart (val : Nat → Value) (n : Nat) : Prop := ∀ p q b, p < n → q < n → p ≠ q → (val p).ownBlock = some b → (val q).ownBlock ≠ some b
/-- All rows, each with its list. -/
def Rows_ (w : World) (e : TypeId) (lo : Nat) (X : List Nat) (val : Nat → Value) (L : Nat → List Nat) (n : Nat) : Prop := ∀ p, p < n → GR w e f64v lo X (val p) (L p)
def lput (L : Nat → List Nat) (p : Nat) (l : List Nat) (q : Nat) : List Nat := if q = p then l else L q
theorem Rows_.set {w w' : World} {e : TypeId} {lo b m c j x p n : Nat} {X : List Nat} {val : Nat → Value} {L : Nat → List Nat} (h : Rows_ w e lo X val L n) (ha : Apart val n) (hp : p < n) (hv : val p = .slice (some ⟨b, 0, none⟩) m c)
    (hg : GR w' e f64v lo X (.slice (some ⟨b, 0, none⟩) m c) ((L p).set j x)) (hc : Chg [b] w w') : Rows_ w' e lo X val (lput L p ((L p).set j x)) n := fun q hq => by
  unfold lput
  by_cases e1 : q = p
  · subst e1; rw [if_pos rfl, hv]; exact hg
  · rw [if_neg e1]
    exact (h q hq).keepN hc (ha p q b hp hq (fun z => e1 z.symm) (by rw [hv]; rfl))
theorem Rows_.keep0 {w w' : World} {e : TypeId} {lo n : Nat} {X : List Nat} {val : Nat → Value} {L : Nat → List Nat} (h : Rows_ w e lo X val L n) (hc : Chg [] w w') : Rows_ w' e lo X val L n := fun q hq => (h q hq).keep0 hc
end

/- Blocks from a bound on; a Book's lists while marks are written into them. No condition. -/
section
open Go Sx Wd Fl

/-- The old blocks from lo on. -/
def upF (lo : Nat) (w : World) : List Nat := List.range' lo (w.heap.size - lo)
theorem upF_mem {lo b : Nat} {w : World} (h : lo ≤ b) : b ∈ upF lo w ∨ w.heap.size ≤ b := by
  by_cases e : b < w.heap.size
  · exact .inl (by unfold upF; rw [List.mem_range'_1]; omega)
  · exact .inr (by omega)
theorem upF_ge {lo b : Nat} {w : World} (h : b ∈ upF lo w) : lo ≤ b := by
  unfold upF at h; rw [List.mem_range'_1] at h; omega
theorem Sx.Chg.up {lo : Nat} {w0 w w' : World} {T : List Nat} (h : Chg (upF lo w0) w0 w) (c : Chg T w w') (hT : ∀ b ∈ T, lo ≤ b) : Chg (upF lo w0) w0 w' := h.step c fun y hy => upF_mem (hT y hy)
theorem GR.ge {w : World} {e : TypeId} {f : Nat → Value} {lo : Nat} {X : List Nat} {v : Value} {l : List Nat} (h : GR w e f lo X v l) : ∀ b ∈ v.ownBlock.toList, lo ≤ b := fun b hb => (h.2 b (Option.mem_toList.1 hb)).1
/-- All lists of a Book while marks are written: the i-th of what came out and the i-th of what is wanted are one list. -/
structure MI (e lo n : Nat) (X : List Nat) (val : Nat → Value) (L : Nat → List Nat) (w : World) : Prop where
  rows : Rows_ w e lo X val L (n + n)
  eq : ∀ i, i < n → L (n + i) = L i
  len : ∀ i, (L i).length ≤ 1000000
  wd : ∀ i, ∀ x ∈ L i, x < 18446744073709551616
theorem MI.keep0 {e lo n : Nat} {X : List Nat} {val : Nat → Value} {L : Nat → List Nat} {w w' : World} (h : MI e lo n X val L w) (hc : Chg [] w w') : MI e lo n X val L w' := ⟨h.rows.keep0 hc, h.eq, h.len, h.wd⟩
theorem mem_set_of {l : List Nat} {j x y : Nat} (h : y ∈ l.set j x) : y = x ∨ y ∈ l := by
  rcases List.mem_or_eq_of_mem_set h with q | q
  · exact .inr q
  · exact .inl q
theorem lput_at (L : Nat → List Nat) (p : Nat) (l : List Nat) : lput L p l p = l := if_pos rfl
theorem lput_ne (L : Nat → List Nat) {p q : Nat} (l : List Nat) (h : q ≠ p) : lput L p l q = L q := if_neg h
/-- Both stores of one mark. -/
theorem MI.mark {e lo n i j x b c b2 c2 : Nat} {X : List Nat} {val : Nat → Value} {L : Nat → List Nat} {w w1 w2 : World} (h : MI e lo n X val L w) (ha : Apart val (n + n)) (hi : i < n) (hx : x < 18446744073709551616)
    (hv : val i = .slice (some ⟨b, 0, none⟩) (L i).length c) (hv2 : val (n + i) = .slice (some ⟨b2, 0, none⟩) (L i).length c2)
    (hr1 : Rows_ w1 e lo X val (lput L i ((L i).set j x)) (n + n))
    (hg2 : GR w2 e f64v lo X (.slice (some ⟨b2, 0, none⟩) (L i).length c2) ((L i).set j x)) (hc2 : Chg [b2] w1 w2) :
    MI e lo n X val (lput (lput L i ((L i).set j x)) (n + i) ((L i).set j x)) w2 := by
  have e1 : lput L i ((L i).set j x) (n + i) = L i := (lput_ne L _ (by omega)).trans (h.eq i hi)
  refine ⟨?_, fun k hk => ?_, fun k => ?_, fun k y hy => ?_⟩
  · have := hr1.set (p := n + i) (j := j) (x := x) ha (by omega) hv2 (by rw [e1]; exact hg2) hc2
    rwa [e1] at this
  · by_cases hki : k = i
    · subst hki
      rw [lput_at, lput_ne _ _ (by omega), lput_at]
    · rw [lput_ne _ _ (by omega), lput_ne _ _ (by omega), lput_ne _ _ (by omega), lput_ne _ _ (by omega)]; exact h.eq k hk
  · unfold lput
    split
    · rw [List.length_set]; exact h.len i
    · split
      · rw [List.length_set]; exact h.len i
      · exact h.len k
  · unfold lput at hy
    split at hy
    · rcases mem_set_of hy with q | q
      · omega
      · exact h.wd i y q
    · split at hy
      · rcases mem_set_of hy with q | q
        · omega
        · exact h.wd i y q
      · exact h.wd k y hy
/-- The state of a Book whose lists take marks. -/
structure BM (bk n lo cO cW : Nat) (aO aW : Option Addr) (val : Nat → Value) (L : Nat → List Nat) (w : World) : Prop where
  b : BK w bk 34 [.slice aO n cO, .slice aW n cW]
  o : GR w 22 val lo (bk :: (Value.slice aW n cW).ownBlock.toList) (.slice aO n cO) (List.range n)
  wn : GR w 22 (fun i => val (n + i)) lo (bk :: (Value.slice aO n cO).ownBlock.toList) (.slice aW n cW) (List.range n)
  m : MI 30 lo n (bk :: ((Value.slice aO n cO).ownBlock.toList ++ (Value.slice aW n cW).ownBlock.toList)) val L w
theorem BM.keep0 {bk n lo cO cW : Nat} {aO aW : Option Addr} {val : Nat → Value} {L : Nat → List Nat} {w w' : World} (h : BM bk n lo cO cW aO aW val L w) (hc : Chg [] w w') : BM bk n lo cO cW aO aW val L w' := ⟨h.b.keep0 hc, h.o.keep0 hc, h.wn.keep0 hc, h.m.keep0 hc⟩
/-- A change of one list's block leaves the Book. -/
theorem BM.rows_ {bk n lo cO cW b p : Nat} {aO aW : Option Addr} {val : Nat → Value} {L : Nat → List Nat} {w : World} (h : BM bk n lo cO cW aO aW val L w) (hp : p < n + n) (hb : (val p).ownBlock = some b) :
    b ≠ bk ∧ (Value.slice aO n cO).ownBlock ≠ some b ∧ (Value.slice aW n cW).ownBlock ≠ some b := by
  have h1 := ((h.m.rows p hp).2 b hb).2
  refine ⟨fun e => h1 (by rw [e]; exact List.mem_cons_self ..), fun e => h1 (List.mem_cons_of_mem _ (List.mem_append_left _ (Option.mem_toList.2 e))), fun e => h1 (List.mem_cons_of_mem _ (List.mem_append_right _ (Option.mem_toList.2 e)))⟩
theorem BM.book {bk n lo cO cW b p : Nat} {aO aW : Option Addr} {val : Nat → Value} {L : Nat → List Nat} {w w1 w2 : World} (h : BM bk n lo cO cW aO aW val L w) (hp : p < n + n) (hb : (val p).ownBlock = some b) (h1 : BK w1 bk 34 [.slice aO n cO, .slice aW n cW]) (ho : GR w1 22 val lo (bk :: (Value.slice aW n cW).ownBlock.toList) (.slice aO n cO) (List.range n))
    (hw : GR w1 22 (fun i => val (n + i)) lo (bk :: (Value.slice aO n cO).ownBlock.toList) (.slice aW n cW) (List.range n)) (hc : Chg [b] w1 w2) :
    BK w2 bk 34 [.slice aO n cO, .slice aW n cW] ∧ GR w2 22 val lo (bk :: (Value.slice aW n cW).ownBlock.toList) (.slice aO n cO) (List.range n) ∧ GR w2 22 (fun i => val (n + i)) lo (bk :: (Value.slice aO n cO).ownBlock.toList) (.slice aW n cW) (List.range n) := by
  obtain ⟨q1, q2, q3⟩ := h.rows_ hp hb
  exact ⟨h1.keep hc (by simpa using q1.symm), ho.keepN hc q2, hw.keepN hc q3⟩
/-- What Reads asks. -/
theorem BM.nf {bk n lo cO cW : Nat} {aO aW : Option Addr} {val : Nat → Value} {L : Nat → List Nat} {w : World} (h : BM bk n lo cO cW aO aW val L w) : ∀ i, i < n → NF w (val i) (L i) ∧ NF w (val (n + i)) (L i) := fun i hi =>
  ⟨(h.m.rows i (by omega)).nf (h.m.wd i) (by have := h.m.len i; omega), by
    have := h.m.rows (n + i) (by omega)
    rw [h.m.eq i hi] at this
    exact this.nf (h.m.wd i) (by have := h.m.len i; omega)⟩
end

/- A Book's lists while its lists grow. No condition. -/
section
open Go Sx Wd Fl

/-- The two have not one block. -/
def Sep (v u : Value) : Prop := ∀ b, v.ownBlock = some b → u.ownBlock ≠ some b
theorem Sep.sym {v u : Value} (h : Sep v u) : Sep u v := fun b h1 h2 => h b h2 h1
theorem NF.keepV {w w' : World} {v : Value} {l : List Nat} {T : List Nat} (h : NF w v l) (hc : Chg T w w') (ht : ∀ b ∈ T, v.ownBlock ≠ some b) : NF w' v l := by
  obtain ⟨⟨a, c, rfl, hcap, hr⟩, hw, hl⟩ := h
  exact ⟨⟨a, c, rfl, hcap, hr.keepB hc fun ad e hm => ht _ hm (by rw [e]; rfl)⟩, hw, hl⟩
theorem GR.keepV {w w' : World} {e : TypeId} {f : Nat → Value} {lo : Nat} {X : List Nat} {v : Value} {l : List Nat} {T : List Nat} (h : GR w e f lo X v l) (hc : Chg T w w') (ht : ∀ b ∈ T, v.ownBlock ≠ some b) : GR w' e f lo X v l :=
  ⟨own_keep h.1 hc fun x hx hm => ht x hm hx, h.2⟩
theorem GR.wide {w : World} {e : TypeId} {f : Nat → Value} {lo : Nat} {X Y : List Nat} {v : Value} {l : List Nat} (h : GR w e f lo X v l) (hY : ∀ b ∈ Y, v.ownBlock ≠ some b) : GR w e f lo Y v l :=
  ⟨h.1, fun b hb => ⟨(h.2 b hb).1, fun hm => hY b hm hb⟩⟩
theorem Sep.chg {v u : Value} (h : Sep v u) : ∀ b ∈ v.ownBlock.toList, u.ownBlock ≠ some b := fun b hb => h b (Option.mem_toList.1 hb)
/-- Where a row has grown: it lies where it lay, or anew. -/
def Grew (w : World) (v v' : Value) : Prop := ∀ b, v'.ownBlock = some b → v.ownBlock = some b ∨ w.heap.size ≤ b
/-- All old blocks but the row's own. -/
def butB (w : World) (v : Value) : List Nat := (List.range w.heap.size).filter fun b => decide (v.ownBlock ≠ some b)
theorem butB_lt {w : World} {v : Value} : ∀ b ∈ butB w v, b < w.heap.size := fun b hb => List.mem_range.1 (List.mem_filter.1 hb).1
theorem butB_own {w : World} {v : Value} : ∀ b ∈ butB w v, v.ownBlock ≠ some b := fun b hb => of_decide_eq_true (List.mem_filter.1 hb).2
theorem Grew.of {w w' : World} {e : TypeId} {f : Nat → Value} {lo : Nat} {v v' : Value} {l : List Nat} (h : GR w' e f lo (butB w v) v' l) : Grew w v v' := fun b hb => by
  by_cases q : w.heap.size ≤ b
  · exact .inr q
  · refine .inl (Classical.byContradiction fun hn => (h.2 b hb).2 ?_)
    exact List.mem_filter.2 ⟨List.mem_range.2 (by omega), decide_eq_true hn⟩
theorem Grew.sep {w : World} {v v' u : Value} (h : Grew w v v') (hs : Sep v u) (hu : ∀ b, u.ownBlock = some b → b < w.heap.size) : Sep v' u := fun b hb hu2 => by
  rcases h b hb with q | q
  · exact hs b q hu2
  · have := hu b hu2; omega
namespace Sx
section
variable {P : Program} {n : Nat} {D : List Deferred} {s : Sl} {w : World} {ops : Array Oper} {K : KK} {rest : List Oper} {ty : TypeId} {pos : String} {af : Array Edge} {d : Nat} {x y : Operand}
theorem ev_growV {t e be : Nat} {de : TypeDesc} {ze : Value} {sz by_ : Nat} {z : Value} {f : Nat → Value} {lo : Nat} {X : List Nat} {v : Value} {l news : List Nat} {ad : Addr} {mm c : Nat} [hT : HasT P t (.slice e) sz by_ z] [hE : HasT P e de 1 be ze]
    (hzs : ze.cells.size = 1) (h1 : ∀ i, (f i).oneCell' = true) (hx : opnd s x = some v) (hy : opnd s y = some (.slice (some ad) mm c)) (hg : GR w e f lo X v l) (hm : mm = news.length) (hr : RW w (some ad) (news.map f)) (hlo : lo ≤ w.heap.size)
    (hbytes : (l.length + news.length) * be ≤ 140737488355328) (h63 : l.length + news.length ≤ 70368744177664) :
    ∃ v' w', Ev P s (.call ⟨.builtin .append, [x, y].toArray, #[t, t]⟩) ty w v' w' ∧ GR w' e f lo [] v' (l ++ news) ∧ Chg v.ownBlock.toList w w' ∧ Grew w v v' ∧ ∀ a m c, v = .slice a m c → RW w' a (l.map f) := by
  have hg' := hg.wide (Y := butB w v) butB_own
  rcases own_cases hg.1 with ⟨rfl, h0, hx0⟩ | ⟨g, cap, rfl, hc, _, _⟩
  · obtain ⟨v', w', he, hg2, hc⟩ := ev_growR (P := P) (s := s) (ty := ty) (t := t) (hT := hT) (hE := hE) hzs h1 hx hy hg' hm hr hlo butB_lt hbytes h63
    have hl : l = [] := List.length_eq_zero_iff.1 h0
    refine ⟨v', w', he, hg2.wide (fun b hb => by cases hb), hc, Grew.of hg2, fun a m c e1 => ?_⟩
    rw [hl]; exact RW.nil
  · obtain ⟨v', w', he, hg2, hc, hold⟩ := ev_growO (P := P) (s := s) (ty := ty) (t := t) (hT := hT) (hE := hE) hzs h1 hx hy hg' hm hr hlo butB_lt hbytes h63
    refine ⟨v', w', he, hg2.wide (fun b hb => by cases hb), hc, Grew.of hg2, fun a m c e1 => ?_⟩
    injection e1 with e2 e3 e4
    rw [← e2]; exact hold
theorem WL.growV {t e be : Nat} {de : TypeDesc} {ze : Value} {sz by_ : Nat} {z : Value} {f : Nat → Value} {lo : Nat} {X : List Nat} {v : Value} {l news : List Nat} {ad : Addr} {mm c : Nat} [hT : HasT P t (.slice e) sz by_ z] [hE : HasT P e de 1 be ze]
    (hzs : ze.cells.size = 1) (h1 : ∀ i, (f i).oneCell' = true) (hx : opnd s x = some v) (hy : opnd s y = some (.slice (some ad) mm c)) (hg : GR w e f lo X v l) (hm : mm = news.length) (hr : RW w (some ad) (news.map f)) (hlo : lo ≤ w.heap.size)
    (hbytes : (l.length + news.length) * be ≤ 140737488355328) (h63 : l.length + news.length ≤ 70368744177664) (hd : Nat.blt d n = true)
    (k : ∀ v' w', GR w' e f lo [] v' (l ++ news) → Chg v.ownBlock.toList w w' → Grew w v v' → (∀ a m c, v = .slice a m c → RW w' a (l.map f)) → WL P ops K rest n D ((d, v') :: s) w') :
    WL P ops K (⟨some d, .call ⟨.builtin .append, [x, y].toArray, #[t, t]⟩, ty, pos, af, none⟩ :: rest) n D s w := by
  obtain ⟨v', w', he, hg2, hc, hw, ho⟩ := ev_growV (P := P) (s := s) (ty := ty) (t := t) (hT := hT) (hE := hE) hzs h1 hx hy hg hm hr hlo hbytes h63
  exact WL.ev he hd (k v' w' hg2 hc hw ho)
end
end Sx
/-- A Book of k entries, all of which read; they lie apart from the Book. -/
structure BG (bk kO kW k lo : Nat) (vO vW : Value) (fO fW : Nat → Value) (L : Nat → List Nat) (w : World) : Prop where
  b : BK w bk 34 [vO, vW]
  lob : lo ≤ bk
  low : lo ≤ w.heap.size
  o : GR w 22 fO lo [bk] vO (List.range kO)
  wn : GR w 22 fW lo [bk] vW (List.range kW)
  s : Sep vO vW
  o1 : ∀ i, (fO i).oneCell' = true
  w1 : ∀ i, (fW i).oneCell' = true
  r : ∀ q, q < k → NF w (fO q) (L q) ∧ NF w (fW q) (L q)
  a : ∀ q, q < k → ∀ b, (fO q).ownBlock = some b ∨ (fW q).ownBlock = some b → b < w.heap.size ∧ b ≠ bk ∧ vO.ownBlock ≠ some b ∧ vW.ownBlock ≠ some b
/-- What is still to grow: from i on. -/
structure PE (i n k lo : Nat) (fO fW : Nat → Value) (L : Nat → List Nat) (w : World) : Prop where
  g : ∀ p, i ≤ p → p < n → GR w 30 f64v lo [] (fO p) (L p)
  len : ∀ p, i ≤ p → p < n → (L p).length ≤ 1000000
  s : ∀ p, i ≤ p → p < n → ∀ q, q < k → (q ≠ p → Sep (fO q) (fO p)) ∧ Sep (fW q) (fO p)
/-- One list while it grows, and its copy. -/
structure IN (i n k lo bk : Nat) (vO vW : Value) (fO fW : Nat → Value) (L : Nat → List Nat) (vl vw : Value) (l1 l2 : List Nat) (w : World) : Prop where
  bg : BG bk k k k lo vO vW fO fW L w
  pe : PE (i + 1) n k lo fO fW L w
  ik : i < n ∧ n ≤ k
  gl : GR w 30 f64v lo [] vl l1
  gw : GR w 30 f64v lo [] vw l2
  sl : Sep vl vw
  sq : ∀ q, q < k → (q ≠ i → Sep (fO q) vl) ∧ Sep (fW q) vl ∧ Sep (fO q) vw ∧ Sep (fW q) vw
  al : ∀ b, vl.ownBlock = some b ∨ vw.ownBlock = some b → b ≠ bk ∧ vO.ownBlock ≠ some b ∧ vW.ownBlock ≠ some b
  io : GR w 30 f64v lo [] (fO i) (L i) ∨ Sep (fO i) vl ∨ ∃ g m c, fO i = .slice (some ⟨g, 0, none⟩) m c
  pr : ∃ r, l1 = L i ++ r
section
variable {i n k kO kW lo bk : Nat} {vO vW : Value} {fO fW : Nat → Value} {L : Nat → List Nat} {vl vw v' : Value} {l1 l2 l3 : List Nat} {w w' : World}
theorem BG.grow {T : List Nat} (h : BG bk kO kW k lo vO vW fO fW L w) (hc : Chg T w w') (hT : ∀ g ∈ T, g ≠ bk ∧ vO.ownBlock ≠ some g ∧ vW.ownBlock ≠ some g) (hr : ∀ q, q < k → NF w' (fO q) (L q) ∧ NF w' (fW q) (L q)) : BG bk kO kW k lo vO vW fO fW L w' :=
  ⟨h.b.keep hc (fun q => (hT _ q).1 rfl), h.lob, Nat.le_trans h.low hc.size, h.o.keepV hc (fun g q => (hT g q).2.1), h.wn.keepV hc (fun g q => (hT g q).2.2), h.s, h.o1, h.w1, hr, fun q hq b hb => by
    obtain ⟨a1, a2⟩ := h.a q hq b hb
    exact ⟨Nat.lt_of_lt_of_le a1 hc.size, a2⟩⟩
theorem BG.keep0 (h : BG bk kO kW k lo vO vW fO fW L w) (hc : Chg [] w w') : BG bk kO kW k lo vO vW fO fW L w' := h.grow hc (fun g q => by cases q) fun q hq => ⟨(h.r q hq).1.keep0 hc, (h.r q hq).2.keep0 hc⟩
theorem PE.keep0 (h : PE i n k lo fO fW L w) (hc : Chg [] w w') : PE i n k lo fO fW L w' := ⟨fun p h1 h2 => (h.g p h1 h2).keep0 hc, h.len, h.s⟩
theorem IN.keep0 (h : IN i n k lo bk vO vW fO fW L vl vw l1 l2 w) (hc : Chg [] w w') : IN i n k lo bk vO vW fO fW L vl vw l1 l2 w' :=
  ⟨h.bg.keep0 hc, h.pe.keep0 hc, h.ik, h.gl.keep0 hc, h.gw.keep0 hc, h.sl, h.sq, h.al, h.io.elim (fun q => .inl (q.keep0 hc)) .inr, h.pr⟩
theorem IN.growl (h : IN i n k lo bk vO vW fO fW L vl vw l1 l2 w) (hg : GR w' 30 f64v lo [] v' l3) (hp : ∃ r, l3 = l1 ++ r) (hc : Chg vl.ownBlock.toList w w') (hG : Grew w vl v') (ho : ∀ a m c, vl = .slice a m c → RW w' a (l1.map f64v)) : IN i n k lo bk vO vW fO fW L v' vw l3 l2 w' := by
  have hik := h.ik
  have hal : ∀ g ∈ vl.ownBlock.toList, g ≠ bk ∧ vO.ownBlock ≠ some g ∧ vW.ownBlock ≠ some g := fun g hg => h.al g (.inl (Option.mem_toList.1 hg))
  have hwl : ∀ b, vw.ownBlock = some b → b < w.heap.size := fun b hb => h.gw.lt hb
  have hold : NF w' (fO i) (L i) := by
    have h0 := (h.bg.r i (by omega)).1
    by_cases hs : Sep vl (fO i)
    · exact h0.keepV hc hs.chg
    · obtain ⟨⟨a, c, e1, hcap, hr⟩, hW, hl⟩ := id h0
      obtain ⟨b, hb1, hb2⟩ : ∃ b, vl.ownBlock = some b ∧ (fO i).ownBlock = some b := Classical.byContradiction fun hn => hs fun b q1 q2 => hn ⟨b, q1, q2⟩
      rcases own_cases h.gl.1 with ⟨rfl, _, _⟩ | ⟨g, cap, rfl, _, _, _⟩
      · cases hb1
      · have hg0 : ∃ m' c', fO i = .slice (some ⟨g, 0, none⟩) m' c' := by
          have hbg : b = g := by cases hb1; rfl
          rcases h.io with q | q | ⟨g', m', c', q⟩
          · rcases own_cases q.1 with ⟨q1, _, _⟩ | ⟨g', cap', q1, _, _, _⟩
            · rw [q1] at hb2; cases hb2
            · rw [q1] at hb2; cases hb2; have hbg2 : g' = g := hbg; subst hbg2; exact ⟨_, _, q1⟩
          · exact absurd hb1 (q b hb2)
          · rw [q] at hb2; cases hb2; have hbg2 : g' = g := hbg; subst hbg2; exact ⟨_, _, q⟩
        obtain ⟨m', c', e2⟩ := hg0
        rw [e1] at e2
        injection e2 with e3 e4 e5
        obtain ⟨r, er⟩ := h.pr
        have := ho _ _ _ rfl
        rw [er, List.map_append] at this
        exact ⟨⟨a, c, e1, hcap, by rw [e3]; exact this.append_left⟩, hW, hl⟩
  have hrr : ∀ q, q < k → NF w' (fO q) (L q) ∧ NF w' (fW q) (L q) := fun q hq => by
    obtain ⟨s1, s2, s3, s4⟩ := h.sq q hq
    refine ⟨?_, (h.bg.r q hq).2.keepV hc s2.sym.chg⟩
    by_cases e : q = i
    · subst e; exact hold
    · exact (h.bg.r q hq).1.keepV hc (s1 e).sym.chg
  refine ⟨h.bg.grow hc hal hrr, ⟨fun p h1 h2 => (h.pe.g p h1 h2).keepV hc ((h.sq p (by omega)).1 (by omega)).sym.chg, h.pe.len, h.pe.s⟩, hik, hg, h.gw.keepV hc h.sl.chg, hG.sep h.sl hwl, fun q hq => ?_, fun b hb => ?_, ?_, ?_⟩
  · obtain ⟨s1, s2, s3, s4⟩ := h.sq q hq
    exact ⟨fun e => (hG.sep (s1 e).sym fun b hb => (h.bg.a q hq b (.inl hb)).1).sym, (hG.sep s2.sym fun b hb => (h.bg.a q hq b (.inr hb)).1).sym, s3, s4⟩
  · rcases hb with hb | hb
    · rcases hG b hb with q | q
      · exact h.al b (.inl q)
      · exact ⟨by have := h.bg.b.lt; omega, fun e => by have := h.bg.o.lt e; omega, fun e => by have := h.bg.wn.lt e; omega⟩
    · exact h.al b (.inr hb)
  · rcases h.io with q | q | q
    · rcases own_cases q.1 with ⟨q1, _, _⟩ | ⟨g', cap', q1, _, _, _⟩
      · exact .inr (.inl fun b hb => by rw [q1] at hb; cases hb)
      · exact .inr (.inr ⟨_, _, _, q1⟩)
    · exact .inr (.inl (hG.sep q.sym fun b hb => (h.bg.a i (by omega) b (.inl hb)).1).sym)
    · exact .inr (.inr q)
  · obtain ⟨r, er⟩ := h.pr
    obtain ⟨r2, e2⟩ := hp
    exact ⟨r ++ r2, by rw [e2, er, List.append_assoc]⟩
theorem IN.groww (h : IN i n k lo bk vO vW fO fW L vl vw l1 l2 w) (hg : GR w' 30 f64v lo [] v' l3) (hc : Chg vw.ownBlock.toList w w') (hG : Grew w vw v') : IN i n k lo bk vO vW fO fW L vl v' l1 l3 w' := by
  have hik := h.ik
  have hal : ∀ g ∈ vw.ownBlock.toList, g ≠ bk ∧ vO.ownBlock ≠ some g ∧ vW.ownBlock ≠ some g := fun g hg => h.al g (.inr (Option.mem_toList.1 hg))
  have hll : ∀ b, vl.ownBlock = some b → b < w.heap.size := fun b hb => h.gl.lt hb
  have hrr : ∀ q, q < k → NF w' (fO q) (L q) ∧ NF w' (fW q) (L q) := fun q hq => by
    obtain ⟨s1, s2, s3, s4⟩ := h.sq q hq
    exact ⟨(h.bg.r q hq).1.keepV hc s3.sym.chg, (h.bg.r q hq).2.keepV hc s4.sym.chg⟩
  refine ⟨h.bg.grow hc hal hrr, ⟨fun p h1 h2 => (h.pe.g p h1 h2).keepV hc (h.sq p (by omega)).2.2.1.sym.chg, h.pe.len, h.pe.s⟩, hik, h.gl.keepV hc h.sl.sym.chg, hg, (hG.sep h.sl.sym hll).sym, fun q hq => ?_, fun b hb => ?_, ?_, h.pr⟩
  · obtain ⟨s1, s2, s3, s4⟩ := h.sq q hq
    exact ⟨s1, s2, (hG.sep s3.sym fun b hb => (h.bg.a q hq b (.inl hb)).1).sym, (hG.sep s4.sym fun b hb => (h.bg.a q hq b (.inr hb)).1).sym⟩
  · rcases hb with hb | hb
    · exact h.al b (.inl hb)
    · rcases hG b hb with q | q
      · exact h.al b (.inr q)
      · exact ⟨by have := h.bg.b.lt; omega, fun e => by have := h.bg.o.lt e; omega, fun e => by have := h.bg.wn.lt e; omega⟩
  · rcases h.io with q | q
    · exact .inl (q.keepV hc (h.sq i (by omega)).2.2.1.sym.chg)
    · exact .inr q
theorem IN.start (h : BG bk k k k lo vO vW fO fW L w) (hp : PE i n k lo fO fW L w) (hi : i < n) (hn : n ≤ k) (hg : GR w' 30 f64v w.heap.size [] vw (L i)) (hc : Chg [] w w') : IN i n k lo bk vO vW fO fW L (fO i) vw (L i) (L i) w' := by
  have hnew : ∀ b, vw.ownBlock = some b → w.heap.size ≤ b := fun b hb => (hg.2 b hb).1
  have hsep : ∀ u : Value, (∀ b, u.ownBlock = some b → b < w.heap.size) → Sep u vw := fun u hu b h1 h2 => by have := hu b h1; have := hnew b h2; omega
  refine ⟨h.keep0 hc, ⟨fun p h1 h2 => (hp.g p (by omega) h2).keep0 hc, fun p h1 h2 => hp.len p (by omega) h2, fun p h1 h2 => hp.s p (by omega) h2⟩, ⟨hi, hn⟩, (hp.g i (Nat.le_refl _) hi).keep0 hc, hg.mono h.low (fun b hb => by cases hb), hsep _ fun b hb => (h.a i (by omega) b (.inl hb)).1, fun q hq => ?_, fun b hb => ?_, .inl ((hp.g i (Nat.le_refl _) hi).keep0 hc), ⟨[], by simp⟩⟩
  · obtain ⟨s1, s2⟩ := hp.s i (Nat.le_refl _) hi q hq
    exact ⟨s1, s2, hsep _ fun b hb => (h.a q hq b (.inl hb)).1, hsep _ fun b hb => (h.a q hq b (.inr hb)).1⟩
  · rcases hb with hb | hb
    · exact (h.a i (by omega) b (.inl hb)).2
    · have h9 := hnew b hb
      exact ⟨fun e => by have := h.b.lt; omega, fun e => by have := h.o.lt e; omega, fun e => by have := h.wn.lt e; omega⟩
/-- Both lists are grown: they stand ready to be the Book's next. -/
theorem IN.done (h : IN i n k lo bk vO vW fO fW L vl vw l1 l1 w) (hW : ∀ x ∈ l1, x < 18446744073709551616) (hl : l1.length ≤ 70368744177664) : BG bk k k (k + 1) lo vO vW (fput fO k vl) (fput fW k vw) (lput L k l1) w ∧ PE (i + 1) n (k + 1) lo (fput fO k vl) (fput fW k vw) (lput L k l1) w := by
  have hik := h.ik
  refine ⟨⟨h.bg.b, h.bg.lob, h.bg.low, h.bg.o.fput, h.bg.wn.fput, h.bg.s, fput_one h.bg.o1 h.gl.one, fput_one h.bg.w1 h.gw.one, fun q hq => ?_, fun q hq b hb => ?_⟩, ⟨fun p h1 h2 => ?_, fun p h1 h2 => ?_, fun p h1 h2 q hq => ?_⟩⟩
  · by_cases e : q = k
    · subst e; rw [fput_at, fput_at, lput_at]; exact ⟨h.gl.nf hW hl, h.gw.nf hW hl⟩
    · rw [fput_ne _ _ e, fput_ne _ _ e, lput_ne _ _ e]; exact h.bg.r q (by omega)
  · by_cases e : q = k
    · subst e; rw [fput_at, fput_at] at hb
      exact ⟨by rcases hb with hb | hb
                · exact h.gl.lt hb
                · exact h.gw.lt hb, h.al b hb⟩
    · rw [fput_ne _ _ e, fput_ne _ _ e] at hb; exact h.bg.a q (by omega) b hb
  · rw [fput_ne _ _ (by omega), lput_ne _ _ (by omega)]; exact h.pe.g p h1 h2
  · rw [lput_ne _ _ (by omega)]; exact h.pe.len p h1 h2
  · rw [fput_ne fO (i := p) vl (by omega)]
    obtain ⟨s1, s2, s3, s4⟩ := h.sq p (by omega)
    by_cases e : q = k
    · subst e; rw [fput_at, fput_at]; exact ⟨fun _ => (s1 (by omega)).sym, s3.sym⟩
    · rw [fput_ne _ _ e, fput_ne _ _ e]; exact h.pe.s p h1 h2 q (by omega)
/-- The Book's one row grows. -/
theorem BG.out {vO' : Value} {m : Nat} {w2 : World} (h : BG bk kO kW k lo vO vW fO fW L w) (hg : GR w' 22 fO lo [] vO' (List.range m)) (hc : Chg vO.ownBlock.toList w w') (hG : Grew w vO vO') (hb : BK w2 bk 34 [vO', vW]) (hc2 : Chg [bk] w' w2) : BG bk m kW k lo vO' vW fO fW L w2 := by
  have hbO : vO.ownBlock ≠ some bk := fun e => (h.o.2 bk e).2 (List.mem_cons_self ..)
  have hbW : vW.ownBlock ≠ some bk := fun e => (h.wn.2 bk e).2 (List.mem_cons_self ..)
  have hbO' : vO'.ownBlock ≠ some bk := fun e => by
    rcases hG bk e with q | q
    · exact hbO q
    · have := h.b.lt; omega
  have hs2 := Nat.le_trans hc.size hc2.size
  refine ⟨hb, h.lob, Nat.le_trans h.low hs2, ((hg.wide (Y := [bk]) (fun b hb => by rw [List.mem_singleton.1 hb]; exact hbO')).keepV hc2 (fun b hb => by rw [List.mem_singleton.1 hb]; exact hbO')), (h.wn.keepV hc h.s.chg).keepV hc2 (fun b hb => by rw [List.mem_singleton.1 hb]; exact hbW), hG.sep h.s (fun b hb => h.wn.lt hb), h.o1, h.w1, fun q hq => ?_, fun q hq b hb => ?_⟩
  · obtain ⟨r1, r2⟩ := h.r q hq
    exact ⟨(r1.keepV hc (fun b hb e => (h.a q hq b (.inl e)).2.2.1 (Option.mem_toList.1 hb))).keepV hc2 (fun b hb e => (h.a q hq b (.inl e)).2.1 (List.mem_singleton.1 hb)), (r2.keepV hc (fun b hb e => (h.a q hq b (.inr e)).2.2.1 (Option.mem_toList.1 hb))).keepV hc2 (fun b hb e => (h.a q hq b (.inr e)).2.1 (List.mem_singleton.1 hb))⟩
  · obtain ⟨a1, a2, a3, a4⟩ := h.a q hq b hb
    refine ⟨by omega, a2, fun e => ?_, a4⟩
    rcases hG b e with q | q
    · exact a3 q
    · omega
/-- The other row grows. -/
theorem BG.want {vW' : Value} {m : Nat} {w2 : World} (h : BG bk kO kW k lo vO vW fO fW L w) (hg : GR w' 22 fW lo [] vW' (List.range m)) (hc : Chg vW.ownBlock.toList w w') (hG : Grew w vW vW') (hb : BK w2 bk 34 [vO, vW']) (hc2 : Chg [bk] w' w2) : BG bk kO m k lo vO vW' fO fW L w2 := by
  have hbO : vO.ownBlock ≠ some bk := fun e => (h.o.2 bk e).2 (List.mem_cons_self ..)
  have hbW : vW.ownBlock ≠ some bk := fun e => (h.wn.2 bk e).2 (List.mem_cons_self ..)
  have hbW' : vW'.ownBlock ≠ some bk := fun e => by
    rcases hG bk e with q | q
    · exact hbW q
    · have := h.b.lt; omega
  have hs2 := Nat.le_trans hc.size hc2.size
  refine ⟨hb, h.lob, Nat.le_trans h.low hs2, (h.o.keepV hc h.s.sym.chg).keepV hc2 (fun b hb => by rw [List.mem_singleton.1 hb]; exact hbO), ((hg.wide (Y := [bk]) (fun b hb => by rw [List.mem_singleton.1 hb]; exact hbW')).keepV hc2 (fun b hb => by rw [List.mem_singleton.1 hb]; exact hbW')), (hG.sep h.s.sym (fun b hb => h.o.lt hb)).sym, h.o1, h.w1, fun q hq => ?_, fun q hq b hb => ?_⟩
  · obtain ⟨r1, r2⟩ := h.r q hq
    exact ⟨(r1.keepV hc (fun b hb e => (h.a q hq b (.inl e)).2.2.2 (Option.mem_toList.1 hb))).keepV hc2 (fun b hb e => (h.a q hq b (.inl e)).2.1 (List.mem_singleton.1 hb)), (r2.keepV hc (fun b hb e => (h.a q hq b (.inr e)).2.2.2 (Option.mem_toList.1 hb))).keepV hc2 (fun b hb e => (h.a q hq b (.inr e)).2.1 (List.mem_singleton.1 hb))⟩
  · obtain ⟨a1, a2, a3, a4⟩ := h.a q hq b hb
    refine ⟨by omega, a2, a3, fun e => ?_⟩
    rcases hG b e with q | q
    · exact a4 q
    · omega
theorem PE.keepT {T : List Nat} (h : PE i n k lo fO fW L w) (hc : Chg T w w') (hT : ∀ p, i ≤ p → p < n → ∀ g ∈ T, (fO p).ownBlock ≠ some g) : PE i n k lo fO fW L w' :=
  ⟨fun p h1 h2 => (h.g p h1 h2).keepV hc (hT p h1 h2), h.len, h.s⟩
/-- The lists that are still to grow lie apart from the Book. -/
theorem PE.book (h : PE i n k lo fO fW L w) (hB : BG bk kO kW k lo vO vW fO fW L w) (hn : n ≤ k) {T : List Nat} (hc : Chg T w w') (hT : ∀ g ∈ T, g = bk ∨ vO.ownBlock = some g ∨ vW.ownBlock = some g) : PE i n k lo fO fW L w' :=
  h.keepT hc fun p h1 h2 g hg e => by
    obtain ⟨_, a2, a3, a4⟩ := hB.a p (by omega) g (.inl e)
    rcases hT g hg with q | q | q
    · exact a2 q
    · exact a3 q
    · exact a4 q
/-- The Book's marks are written: it stands ready to grow. -/
theorem BM.toBG {n cO cW : Nat} {aO aW : Option Addr} {val : Nat → Value} (h : BM bk n lo cO cW aO aW val L w) (ha : Apart val (n + n)) (h1 : ∀ i, (val i).oneCell' = true) (hlo : lo ≤ w.heap.size) (hlb : lo ≤ bk) : BG bk n n n lo (.slice aO n cO) (.slice aW n cW) val (fun i => val (n + i)) L w ∧ PE 0 n n lo val (fun i => val (n + i)) L w := by
  refine ⟨⟨h.b, hlb, hlo, h.o.wide fun b hb e => (h.o.2 b e).2 (by rw [List.mem_singleton.1 hb]; exact List.mem_cons_self ..), h.wn.wide fun b hb e => (h.wn.2 b e).2 (by rw [List.mem_singleton.1 hb]; exact List.mem_cons_self ..), fun b e1 e2 => (h.o.2 b e1).2 (List.mem_cons_of_mem _ (Option.mem_toList.2 e2)), h1, fun i => h1 _, h.nf, fun q hq b hb => ?_⟩, ⟨fun p h1 h2 => (h.m.rows p (by omega)).wide (fun b hb => by cases hb), fun p _ _ => h.m.len p, fun p _ h2 q hq => ⟨fun e b b1 => ha q p b (by omega) (by omega) e b1, fun b b1 => ha (n + q) p b (by omega) (by omega) (by omega) b1⟩⟩⟩
  rcases hb with hb | hb
  · obtain ⟨q1, q2, q3⟩ := h.rows_ (by omega) hb
    exact ⟨(h.m.rows q (by omega)).lt hb, q1, q2, q3⟩
  · obtain ⟨q1, q2, q3⟩ := h.rows_ (p := n + q) (by omega) hb
    exact ⟨(h.m.rows (n + q) (by omega)).lt hb, q1, q2, q3⟩
end
end

/- Lists that came out: Book.Owned. No condition. -/
section
open Go Sx Wd Fl

theorem adr0_ {x : Option Value} {b j : Nat} (h : x = some (.pointer (some (adr (some ⟨b, 0, none⟩) j)))) : x = some (.pointer (some ⟨b, j, none⟩)) := by
  rw [h]; simp [adr, Addr.add]; intro e; exact e.symm
theorem GR.ptr {w : World} {e : TypeId} {f : Nat → Value} {lo m c j : Nat} {X : List Nat} {a : Option Addr} {l : List Nat} (h : GR w e f lo X (.slice a m c) l) (hj : j < l.length) : ∃ b, a = some ⟨b, 0, none⟩ := by
  have hne : l ≠ [] := fun q => by rw [q] at hj; exact absurd hj (Nat.not_lt_zero _)
  obtain ⟨b, c', cur, e1, -⟩ := h.own hne
  injection e1 with e2
  exact ⟨b, e2⟩
structure KO1 (bk n lo cO cW : Nat) (aO aW : Option Addr) (val : Nat → Value) (w0 : World) (i : Nat) (w : World) : Prop where
  hi : i ≤ n
  st : ∃ L, BM bk n lo cO cW aO aW val L w
  ch : Chg (upF lo w0) w0 w
structure KO2 (bk n lo cO cW m : Nat) (aO aW : Option Addr) (val : Nat → Value) (w0 : World) (j : Nat) (w : World) : Prop where
  hj : j ≤ m
  st : ∃ L, BM bk n lo cO cW aO aW val L w
  ch : Chg (upF lo w0) w0 w
structure KO3 (bk n lo : Nat) (w0 : World) (i : Nat) (w : World) : Prop where
  hi : i ≤ n
  st : ∃ vO vW fO fW L, BG bk (n + i) (n + i) (n + i) lo vO vW fO fW L w ∧ PE i n (n + i) lo fO fW L w
  ch : Chg (upF lo w0) w0 w
structure KO4 (i n k lo bk x : Nat) (vO vW : Value) (fO fW : Nat → Value) (L : Nat → List Nat) (w0 : World) (g : Nat × Value × Value) (w : World) : Prop where
  hj : g.1 ≤ 12
  st : IN i n k lo bk vO vW fO fW L g.2.1 g.2.2 (L i ++ List.replicate g.1 x) (L i ++ List.replicate g.1 x) w
  ch : Chg (upF lo w0) w0 w

theorem Owned_spec (bk n lo cO cW : Nat) (aO aW : Option Addr) (val : Nat → Value) (L0 : Nat → List Nat) (w : World) (hM : BM bk n lo cO cW aO aW val L0 w) (ha : Apart val (n + n)) (h1 : ∀ i, (val i).oneCell' = true) (hn : n ≤ 1000) (hlo : lo ≤ w.heap.size) (hlb : lo ≤ bk) : Ret Tryz.prog 18 [.pointer (some ⟨bk, 0, none⟩)] w fun u w' => u = .bool true ∧ Chg (upF lo w) w w' := by
 have hch : Chg (upF lo w) w w := Chg.refl _ _;have hbk := hM.b;refine zE1 Tryz.func18 rfl ?_;refine Sr fun _ kh1 => za rfl (zz (kh1 (Sr fun _ kh3 => zm rfl ?_)));refine WL.call hasF64 rfl rfl (Reads_spec bk n cO cW aO aW val (fun i => val (n + i)) L0 _ hM.b hM.o.rw_.1 hM.wn.rw_.1 hM.nf (by omega)) fun v w1 h' => ?_;obtain ⟨rfl, hC⟩ := h';have hM := hM.keep0 hC;have hch := hch.ta hC;have hbk := hbk.keep0 hC;refine za rfl (zz (kh3 (Sr fun _ kh5 => zm rfl ?_)));refine WL.ev (Ev.nilPtr rfl) rfl ?_;refine zf rfl (zl hbk rfl rfl (zn rfl (za rfl (zz (kh5 (zc fun _ kh7 => Sr fun _ kh8 => za rfl (zz (kh8 ?_))))))));refine CW.block ?_;refine CW.loop (S := fun i : Nat => [(0, .pointer (some ⟨bk, 0, none⟩)), (3, .bool true), (4, .int .i64 (n : Int)), (5, .int .i64 (i : Int))]) (Inv := KO1 bk n lo cO cW aO aW val w) (mu := fun i => n - i) (0) ?_ ?_ ?_
 ·exact ⟨Nat.zero_le _, ⟨_, hM⟩, hch⟩
 ·exact SLp
 ·rintro i wr ⟨hi, ⟨L, hM⟩, hch⟩;have hbk := hM.b;refine zc fun _ kh10 => Sr fun _ kh11 => zm rfl (zm rfl ?_);refine WL.ev (Ev.lss rfl rfl) rfl ?_;refine zz (kh11 ?_);refine zy rfl ?_ ?_<;>intro hc1<;>try simp only [qs] at hc1
  ·obtain ⟨m, ai, ci, hvi⟩ : ∃ m ai ci, val i = .slice ai m ci := by
    obtain ⟨a, c, e, -, -⟩ := (hM.m.rows i (by omega)).row;exact ⟨_, _, _, e⟩
   refine zkk ?_;refine kh10 (zc fun _ kh13 => ?_);refine CW.block ?_;refine Sr fun _ kh14 => za rfl (zz (kh14 ?_));refine CW.block ?_;refine CW.loop (S := fun j : Nat => [(0, .pointer (some ⟨bk, 0, none⟩)), (3, .bool true), (4, .int .i64 (n : Int)), (5, .int .i64 (i : Int)), (6, .int .i64 (j : Int))]) (Inv := KO2 bk n lo cO cW m aO aW val w) (mu := fun j => m - j) (0) ?_ ?_ ?_
   ·exact ⟨Nat.zero_le _, ⟨_, hM⟩, hch⟩
   ·exact SLp
   ·rintro j wr2 ⟨hj, ⟨L2, hM⟩, hch⟩;have hbk := hM.b;have hgi := hM.m.rows i (by omega);rw [hvi] at hgi;have hmL : m = (L2 i).length := hgi.rw_.2.1;have hml := hM.m.len i;refine zc fun _ kh16 => Sr fun _ kh17 => zm rfl (zm rfl ?_);refine WL.ev (Ev.nilPtr rfl) rfl ?_;refine zf rfl (zl hbk rfl rfl (zm rfl ?_));refine WL.ev (Ev.ixR (i) rfl rfl hM.o.rw_.1 (by omega) (by omega) (by simp; omega)) rfl ?_;refine WL.ev (Ev.load (v := .slice ai m ci) rfl rfl (by rw [← hvi]; exact cell_f hM.o.rw_.1 (by omega))) rfl ?_;refine zn rfl ?_;refine WL.ev (Ev.lss rfl rfl) rfl ?_;refine zz (kh17 ?_);refine zy rfl ?_ ?_<;>intro hc2<;>try simp only [qs] at hc2
    ·obtain ⟨b, rfl⟩ := hgi.ptr (j := j) (by omega);have hg2 := hM.m.rows (n + i) (by omega);rw [hM.m.eq i (by omega)] at hg2
     obtain ⟨a2, c2, hv2, -, -⟩ := hg2.row;rw [hv2] at hg2;obtain ⟨b2, rfl⟩ := hg2.ptr (j := j) (by omega);have hx : 4841369599423283200 + i < 18446744073709551616 := by omega
     refine zkk ?_;refine kh16 (zc fun _ kh19 => ?_);refine CW.block ?_;refine zc fun _ kh20 => ?_;refine CW.regionKC 13 14 rfl hmix fun kR21 kr21 hS hdr => ?_;have hch := hch.ta hdr;have hbk := hbk.keep0 hdr;have hbk_r := hbk;have hM := hM.keep0 hdr;have hgi := hM.m.rows i (by omega);rw [hvi] at hgi;have hob : (val i).ownBlock = some b := by rw [hvi]; rfl
     refine wk 0 rfl hS (fun _ _ => Ev.move rfl) (wk 1 rfl hS (fun _ _ => Ev.nilPtr rfl) (wk 2 rfl hS (fun _ _ => Ev.fieldAddr rfl) (wk 3 rfl hS (fun _ hw' => Ev.load rfl rfl ((hbk_r.keep0 hw').at_ rfl)) (wk 4 rfl hS (fun _ _ => Ev.move rfl) (wk 5 rfl hS (fun _ hw' => Ev.ixR (i) rfl rfl (hM.o.rw_.1.keep0 hw') (by omega) (by omega) (by simp; omega)) (wk 6 rfl hS (fun _ hw' => Ev.load (v := .slice (some ⟨b, 0, none⟩) m ci) rfl rfl (by rw [← hvi]; exact cell_f (hM.o.rw_.1.keep0 hw') (by omega))) (wk 7 rfl hS (fun _ _ => Ev.move rfl) (wk 8 rfl hS (fun _ _ => Ev.move rfl) (wk 9 rfl hS (fun _ _ => Ev.convIn rfl rfl (in_u64 (by omega))) ?_)))))))))
     first | refine WK.take 10 rfl (by kernel_rfl) (by kernel_rfl) (by kernel_rfl) (by kernel_rfl) (by kernel_rfl) (by kernel_rfl) hS (fun w' hw' => Ev.add64In (a := 4841369599423283200) rfl rfl (by omega)) rfl ?_ | refine WK.take 10 rfl (by kernel_rfl) (by kernel_rfl) (by kernel_rfl) (by kernel_rfl) (by kernel_rfl) (by kernel_rfl) hS (fun w' hw' => Ev.add64 (a := 4841369599423283200) rfl rfl) rfl ?_
     refine WK.oneCall 11 rfl (by kernel_rfl) hasF54 rfl rfl (r1Of_spec (4841369599423283200 + i) _ hx) fun v w2 h' => ?_;obtain ⟨rfl, rfl⟩ := h';refine ⟨hS, ?_⟩;refine wk 12 rfl hS (fun _ hw' => Ev.ixR (j) rfl rfl (hgi.rw_.1.keep0 hw') (by omega) (by omega) (by simp; omega)) ?_;refine WK.storeGR (j := j) 13 rfl (by kernel_rfl) (by kernel_rfl) (adr0_ rfl) rfl rfl hgi (by omega) fun w9 hg9 hc9 => ?_;have hr9 := hM.m.rows.set (j := j) ha (p := i) (by omega) hvi hg9 hc9;obtain ⟨hbk, hO9, hW9⟩ := hM.book (p := i) (by omega) hob hM.b hM.o hM.wn hc9;have hch := hch.up hc9 (fun y hy => by rw [List.mem_singleton.1 hy]; exact ((hM.m.rows (i) (by omega)).2 _ hob).1);refine WK.done (by kernel_rfl) (kr21 _ _ _ ?_);refine kh20 ?_;refine CW.regionKC 13 14 rfl hmix fun kR22 kr22 hS hdr => ?_;have hch := hch.ta hdr;have hbk := hbk.keep0 hdr;have hbk_r := hbk;have hO9 := hO9.keep0 hdr;have hW9 := hW9.keep0 hdr;have hr9 := hr9.keep0 hdr;have hg2 := hr9 (n + i) (by omega);rw [lput_ne _ _ (by omega), hM.m.eq i (by omega), hv2] at hg2;have hob2 : (val (n + i)).ownBlock = some b2 := by rw [hv2]; rfl
     refine wk 0 rfl hS (fun _ _ => Ev.move rfl) (wk 1 rfl hS (fun _ _ => Ev.nilPtr rfl) (wk 2 rfl hS (fun _ _ => Ev.fieldAddr rfl) (wk 3 rfl hS (fun _ hw' => Ev.load rfl rfl ((hbk_r.keep0 hw').at_ rfl)) (wk 4 rfl hS (fun _ _ => Ev.move rfl) (wk 5 rfl hS (fun _ hw' => Ev.ixR (i) rfl rfl (hW9.rw_.1.keep0 hw') (by omega) (by omega) (by simp; omega)) (wk 6 rfl hS (fun _ hw' => Ev.load (v := .slice (some ⟨b2, 0, none⟩) (L2 i).length c2) rfl rfl (by rw [← hv2]; exact cell_f (hW9.rw_.1.keep0 hw') (by omega))) (wk 7 rfl hS (fun _ _ => Ev.move rfl) (wk 8 rfl hS (fun _ _ => Ev.move rfl) (wk 9 rfl hS (fun _ _ => Ev.convIn rfl rfl (in_u64 (by omega))) ?_)))))))))
     first | refine WK.take 10 rfl (by kernel_rfl) (by kernel_rfl) (by kernel_rfl) (by kernel_rfl) (by kernel_rfl) (by kernel_rfl) hS (fun w' hw' => Ev.add64In (a := 4841369599423283200) rfl rfl (by omega)) rfl ?_ | refine WK.take 10 rfl (by kernel_rfl) (by kernel_rfl) (by kernel_rfl) (by kernel_rfl) (by kernel_rfl) (by kernel_rfl) hS (fun w' hw' => Ev.add64 (a := 4841369599423283200) rfl rfl) rfl ?_
     refine WK.oneCall 11 rfl (by kernel_rfl) hasF54 rfl rfl (r1Of_spec (4841369599423283200 + i) _ hx) fun v w3 h' => ?_;obtain ⟨rfl, rfl⟩ := h';refine ⟨hS, ?_⟩;refine wk 12 rfl hS (fun _ hw' => Ev.ixR (j) rfl rfl (hg2.rw_.1.keep0 hw') (by omega) (by omega) (by simp; omega)) ?_;refine WK.storeGR (j := j) 13 rfl (by kernel_rfl) (by kernel_rfl) (adr0_ rfl) rfl rfl hg2 (by omega) fun w10 hg10 hc10 => ?_;obtain ⟨hbk, hO10, hW10⟩ := hM.book (p := n + i) (by omega) hob2 hbk hO9 hW9 hc10;have hm10 := hM.m.mark (j := j) ha (by omega) hx (by rw [hvi, hmL]) hv2 hr9 hg10 hc10;have hch := hch.up hc10 (fun y hy => by rw [List.mem_singleton.1 hy]; exact ((hM.m.rows (n + i) (by omega)).2 _ hob2).1);have hM : BM bk n lo cO cW aO aW val _ w10 := ⟨hbk, hO10, hW10, hm10⟩;refine WK.done (by kernel_rfl) (kr22 _ _ _ ?_);refine kh19 ?_;refine zR fun _ kr23 => ?_;refine zm rfl ?_;(first | refine zi rfl rfl ?_ | refine zo rfl rfl ?_);refine za rfl ?_;refine WL.nil (kr23 _ _ _ ?_);refine ⟨rfl, j + 1, ?_, ?_, ?_⟩
     ·exact SLp
     ·exact ⟨by omega, ⟨_, hM⟩, hch⟩
     ·show m - (j + 1) < m - j; omega
    ·refine CW.exit ?_
     refine kh13 ?_;refine zR fun _ kr24 => ?_;refine zm rfl ?_;(first | refine zi rfl rfl ?_ | refine zo rfl rfl ?_);refine za rfl ?_;refine WL.nil (kr24 _ _ _ ?_);refine ⟨rfl, i + 1, ?_, ?_, ?_⟩
     ·exact SLp
     ·exact ⟨by omega, ⟨_, hM⟩, hch⟩
     ·show n - (i + 1) < n - i; omega
  ·refine CW.exit ?_
   refine kh7 (Sr fun _ kh25 => zm rfl (zm rfl (zw rfl (zm rfl (zw rfl ?_)))));refine WL.call hasF64 rfl rfl (Reads_spec bk n cO cW aO aW val (fun i => val (n + i)) L _ hM.b hM.o.rw_.1 hM.wn.rw_.1 hM.nf (by omega)) fun v w4 h' => ?_;obtain ⟨rfl, hC⟩ := h';have hM := hM.keep0 hC;obtain ⟨hB, hP⟩ := hM.toBG ha h1 (Nat.le_trans hlo (Nat.le_trans hch.size hC.size)) hlb;have hch := hch.ta hC;have hbk := hbk.keep0 hC;refine zt rfl rfl (za rfl (zz (kh25 (zc fun _ kh27 => Sr fun _ kh28 => za rfl (zz (kh28 ?_))))));refine CW.block ?_;refine CW.loop (S := fun i : Nat => [(0, .pointer (some ⟨bk, 0, none⟩)), (3, .bool true), (4, .int .i64 (n : Int)), (7, .int .i64 (i : Int))]) (Inv := KO3 bk n lo w) (mu := fun i => n - i) (0) ?_ ?_ ?_
   ·exact ⟨Nat.zero_le _, ⟨_, _, _, _, _, hB, hP⟩, hch⟩
   ·exact SLp
   ·rintro i wr3 ⟨hi, ⟨vO, vW, fO, fW, L, hB, hP⟩, hch⟩;obtain ⟨aO2, cO2, e1, -, hrO⟩ := hB.o.row;rw [List.length_range] at e1;subst e1;obtain ⟨aW2, cW2, e2, -, hrW⟩ := hB.wn.row;rw [List.length_range] at e2;subst e2;have hbk := hB.b;refine zc fun _ kh30 => Sr fun _ kh31 => zm rfl (zm rfl ?_);refine WL.ev (Ev.lss rfl rfl) rfl ?_;refine zz (kh31 ?_);refine zy rfl ?_ ?_<;>intro hc3<;>try simp only [qs] at hc3
    ·obtain ⟨⟨a9, c9, hv9, hcap9, hr9⟩, hLw, hLl⟩ := (hB.r i (by omega)).2
     have hLi := hP.len i (Nat.le_refl _) (by omega);have hch0 := hch;refine zkk ?_;refine kh30 (zc fun _ kh33 => ?_);refine CW.block ?_;refine Sr fun _ kh34 => zm rfl ?_;refine WL.ev (Ev.nilPtr rfl) rfl ?_;refine zf rfl (zl hbk rfl rfl (zm rfl ?_));refine WL.ev (Ev.ixR (i) rfl rfl hrO (by omega) (by omega) (by simp; omega)) rfl ?_;refine WL.ev (Ev.load (v := fO i) rfl rfl (cell_f hrO (by omega))) rfl ?_;refine za rfl (zz (kh34 (Sr fun _ kh36 => ?_)));refine WL.emptySlice (f := f64v) (lo := wr3.heap.size) (X := []) (Nat.le_refl _) (by intro b hb; cases hb) rfl fun v78 w78 hg78 hcm78 => ?_;have hbk := hbk.keep0 hcm78;refine zm rfl ?_;refine WL.ev (Ev.nilPtr rfl) rfl ?_;refine zf rfl (zl hbk rfl rfl (zm rfl ?_));refine WL.ev (Ev.ixR (i) rfl rfl (hrW.keep0 hcm78) (by omega) (by omega) (by simp; omega)) rfl ?_;refine WL.ev (Ev.load (v := .slice a9 (L i).length c9) rfl rfl (by rw [← hv9]; exact cell_f (hrW.keep0 hcm78) (by omega))) rfl ?_;refine WL.growR (f := f64v) (news := L i) (by rfl) (fun _ => rfl) rfl rfl hg78 rfl (hr9.keep0 hcm78) hcm78.size (by intro b hb; cases hb) (by simp only [List.length_nil]; omega) (by simp only [List.length_nil]; omega) rfl fun v86 w86 hg86 hcg86 => ?_;rw [List.nil_append] at hg86;have hc86 : Chg [] wr3 w86 := GR.frame hg78 hcg86 hcm78 (Nat.le_refl _);have hIN := IN.start hB hP (by omega) (by omega) hg86 hc86;have hch := hch0.ta hc86;refine za rfl (zz (kh36 (zc fun _ kh38 => Sr fun _ kh39 => za rfl (zz (kh39 ?_)))));refine CW.block ?_;refine CW.loop (S := fun g : Nat × Value × Value => [(0, .pointer (some ⟨bk, 0, none⟩)), (3, .bool true), (4, .int .i64 (n : Int)), (7, .int .i64 (i : Int)), (8, g.2.1), (9, g.2.2), (10, .int .i64 (g.1 : Int))]) (Inv := KO4 i n (n + i) lo bk (4845873199050653696 + i) (.slice aO2 (n + i) cO2) (.slice aW2 (n + i) cW2) fO fW L w) (mu := fun g => 12 - g.1) ((0, fO i, v86)) ?_ ?_ ?_
     ·refine ⟨Nat.zero_le _, ?_, hch⟩;simp only [List.replicate_zero, List.append_nil];exact hIN
     ·exact SLp
     ·rintro ⟨j, vl, vw⟩ wr4 ⟨hj, hIN, hch⟩;dsimp only at hj hIN hch;dsimp only;refine zc fun _ kh41 => Sr fun _ kh42 => zm rfl ?_;refine WL.ev (Ev.lss rfl rfl) rfl ?_;refine zz (kh42 ?_);refine zy rfl ?_ ?_<;>intro hc4<;>try simp only [qs] at hc4
      ·have hx : 4845873199050653696 + i < 18446744073709551616 := by omega
       refine zkk ?_;refine kh41 (zc fun _ kh44 => ?_);refine CW.block ?_;refine Sr fun _ kh45 => zm rfl (zm rfl ?_);refine WL.ev (Ev.convIn rfl rfl (in_u64 (by omega))) rfl ?_
       first | refine WL.ev (Ev.add64In (a := 4845873199050653696) rfl rfl (by omega)) rfl ?_ | refine WL.ev (Ev.add64 (a := 4845873199050653696) rfl rfl) rfl ?_
       refine WL.call hasF54 rfl rfl (r1Of_spec (4845873199050653696 + i) _ hx) fun v w5 h' => ?_;obtain ⟨rfl, rfl⟩ := h';refine WL.buildSlice (m := 1) (cs := [.float .f64 (4845873199050653696 + i)]) (by decide) (by decide) rfl (by kernel_rfl) rfl fun b96 w96 hn96 => ?_;have hcm96 := hn96.chg;have hb96 := hn96.at_;have hch := hch.ta hcm96;have hIN := hIN.keep0 hcm96;have hge97 := hIN.gl.ge;refine WL.growV (f := f64v) (news := [(4845873199050653696 + i)]) (by rfl) (fun _ => rfl) rfl rfl hIN.gl rfl (RW.one_f hb96 rfl) (Nat.le_trans hlo hch.size) (by simp only [List.length_append, List.length_replicate, List.length_cons, List.length_nil]; omega) (by simp only [List.length_append, List.length_replicate, List.length_cons, List.length_nil]; omega) rfl fun v97 w97 hg97 hcg97 hG97 ho97 => ?_;have hIN := hIN.growl hg97 ⟨_, rfl⟩ hcg97 hG97 ho97;have hch := hch.up hcg97 hge97;refine za rfl (zz (kh45 ?_));refine zR fun _ kr47 => ?_;refine zm rfl (zm rfl ?_);refine WL.ev (Ev.convIn rfl rfl (in_u64 (by omega))) rfl ?_
       first | refine WL.ev (Ev.add64In (a := 4845873199050653696) rfl rfl (by omega)) rfl ?_ | refine WL.ev (Ev.add64 (a := 4845873199050653696) rfl rfl) rfl ?_
       refine WL.call hasF54 rfl rfl (r1Of_spec (4845873199050653696 + i) _ hx) fun v w6 h' => ?_;obtain ⟨rfl, rfl⟩ := h';refine WL.buildSlice (m := 1) (cs := [.float .f64 (4845873199050653696 + i)]) (by decide) (by decide) rfl (by kernel_rfl) rfl fun b103 w103 hn103 => ?_;have hcm103 := hn103.chg;have hb103 := hn103.at_;have hch := hch.ta hcm103;have hIN := hIN.keep0 hcm103;have hge104 := hIN.gw.ge;refine WL.growV (f := f64v) (news := [(4845873199050653696 + i)]) (by rfl) (fun _ => rfl) rfl rfl hIN.gw rfl (RW.one_f hb103 rfl) (Nat.le_trans hlo hch.size) (by simp only [List.length_append, List.length_replicate, List.length_cons, List.length_nil]; omega) (by simp only [List.length_append, List.length_replicate, List.length_cons, List.length_nil]; omega) rfl fun v104 w104 hg104 hcg104 hG104 ho104 => ?_;have hIN := hIN.groww hg104 hcg104 hG104;have hch := hch.up hcg104 hge104;refine za rfl ?_;refine WL.nil (kr47 _ _ _ (kh44 ?_));refine zR fun _ kr48 => ?_;refine zm rfl ?_;(first | refine zi rfl rfl ?_ | refine zo rfl rfl ?_);refine za rfl ?_;refine WL.nil (kr48 _ _ _ ?_);refine ⟨rfl, (j + 1, v97, v104), ?_, ?_, ?_⟩
       ·exact SLp
       ·refine ⟨by dsimp only; omega, ?_, hch⟩;dsimp only;rw [List.replicate_succ', ← List.append_assoc];exact hIN
       ·show 12 - (j + 1) < 12 - j; omega
      ·obtain rfl : j = 12 := by omega
       obtain ⟨hB2, hP2⟩ := hIN.done (fun y hy => by
        rcases List.mem_append.1 hy with q | q
        · exact hLw y q
        · rw [List.eq_of_mem_replicate q]; omega) (by simp only [List.length_append, List.length_replicate]; omega)
       obtain ⟨al, cl, rfl, -, -⟩ := hIN.gl.row;obtain ⟨aw, cw, rfl, -, -⟩ := hIN.gw.row;have hbk := hB2.b;refine CW.exit ?_;refine kh38 (Sr fun _ kh49 => zm rfl (zm rfl ?_));refine WL.ev (Ev.nilPtr rfl) rfl ?_;refine zf rfl (zl hbk rfl rfl (zm rfl ?_));refine WL.buildSlice (m := 1) (cs := [.slice al (L i ++ List.replicate 12 (4845873199050653696 + i)).length cl]) (by decide) (by decide) rfl (by kernel_rfl) rfl fun b111 w111 hn111 => ?_;have hcm111 := hn111.chg;have hb111 := hn111.at_;have hch := hch.ta hcm111;have hbk := hbk.keep0 hcm111;have hB2 := hB2.keep0 hcm111;have hP2 := hP2.keep0 hcm111;refine WL.growV (f := fput fO (n + i) (.slice al (L i ++ List.replicate 12 (4845873199050653696 + i)).length cl)) (l := List.range (n + i)) (news := [n + i]) (by rfl) hB2.o1 rfl rfl hB2.o rfl (RW.one_f hb111 (fput_at ..)) (Nat.le_trans hlo hch.size) (by simp; omega) (by simp; omega) rfl fun v112 w112 hg112 hcg112 hG112 _ => ?_;rw [range_next] at hg112;have hbk := hbk.keep hcg112 (hB2.o.notin (.inl (List.mem_cons_self ..)));have hch := hch.up hcg112 hB2.o.ge;have hon112 := hg112.one;have hP2 := hP2.book hB2 (by omega) hcg112 (fun g hg => .inr (.inl (Option.mem_toList.1 hg)));refine WL.ev (Ev.nilPtr rfl) rfl ?_;refine zf rfl ?_;refine WL.storeC rfl rfl o1 hbk (by simp) rfl fun ws112 hbk_ hcs112 => ?_;(try simp only [Sx.splice, qt] at hbk_);have hP2 := hP2.keepT hcs112 (fun p h1 h2 g hg e => (hB2.a p (by omega) g (.inl e)).2.1 (List.mem_singleton.1 hg));have hB2 := hB2.out hg112 hcg112 hG112 hbk_ hcs112;have hch := hch.up hcs112 (fun y hy => by rw [List.mem_singleton.1 hy]; exact hlb);have hbk := hbk_;refine zz (kh49 ?_);refine zR fun _ kr51 => ?_;refine zm rfl (zm rfl ?_);refine WL.ev (Ev.nilPtr rfl) rfl ?_;refine zf rfl (zl hbk rfl rfl (zm rfl ?_));refine WL.buildSlice (m := 1) (cs := [.slice aw (L i ++ List.replicate 12 (4845873199050653696 + i)).length cw]) (by decide) (by decide) rfl (by kernel_rfl) rfl fun b121 w121 hn121 => ?_;have hcm121 := hn121.chg;have hb121 := hn121.at_;have hch := hch.ta hcm121;have hbk := hbk.keep0 hcm121;have hB2 := hB2.keep0 hcm121;have hP2 := hP2.keep0 hcm121;refine WL.growV (f := fput fW (n + i) (.slice aw (L i ++ List.replicate 12 (4845873199050653696 + i)).length cw)) (l := List.range (n + i)) (news := [n + i]) (by rfl) hB2.w1 rfl rfl hB2.wn rfl (RW.one_f hb121 (fput_at ..)) (Nat.le_trans hlo hch.size) (by simp; omega) (by simp; omega) rfl fun v122 w122 hg122 hcg122 hG122 _ => ?_;rw [range_next] at hg122;have hbk := hbk.keep hcg122 (hB2.wn.notin (.inl (List.mem_cons_self ..)));have hch := hch.up hcg122 hB2.wn.ge;have hon122 := hg122.one;have hP2 := hP2.book hB2 (by omega) hcg122 (fun g hg => .inr (.inr (Option.mem_toList.1 hg)));refine WL.ev (Ev.nilPtr rfl) rfl ?_;refine zf rfl ?_;refine WL.storeC rfl rfl o1 hbk (by simp) rfl fun ws122 hbk_ hcs122 => ?_;(try simp only [Sx.splice, qt] at hbk_);have hP2 := hP2.keepT hcs122 (fun p h1 h2 g hg e => (hB2.a p (by omega) g (.inl e)).2.1 (List.mem_singleton.1 hg));have hB2 := hB2.want hg122 hcg122 hG122 hbk_ hcs122
       have hch := hch.up hcs122 (fun y hy => by rw [List.mem_singleton.1 hy]; exact hlb);refine WL.nil (kr51 _ _ _ (kh33 ?_));refine zR fun _ kr52 => ?_;refine zm rfl ?_;(first | refine zi rfl rfl ?_ | refine zo rfl rfl ?_);refine za rfl ?_;refine WL.nil (kr52 _ _ _ ?_);refine ⟨rfl, i + 1, ?_, ?_, ?_⟩
       ·exact SLp
       ·exact ⟨by omega, ⟨_, _, _, _, _, hB2, hP2⟩, hch⟩
       ·show n - (i + 1) < n - i; omega
    ·refine CW.exit ?_
     refine kh27 (Sr fun _ kh53 => zm rfl (zm rfl (zw rfl (zm rfl (zw rfl ?_)))));refine WL.call hasF64 rfl rfl (Reads_spec bk (n + i) cO2 cW2 aO2 aW2 fO fW L _ hbk hrO hrW hB.r (by omega)) fun v w7 h' => ?_;obtain ⟨rfl, hC⟩ := h';have hch := hch.ta hC;refine zt rfl rfl (za rfl (zz (kh53 ?_)));refine zr (zr1 rfl rfl ?_);exact ⟨rfl, hch⟩

end

/- A Book of two lists. No condition. -/
section
open Go Sx Wd Fl

theorem GR.cells {w : World} {e : TypeId} {f : Nat → Value} {lo b : Nat} {X : List Nat} {v : Value} {l : List Nat} (h : GR w e f lo X v l) (hb : v.ownBlock = some b) : ∃ cur, w.heap[b]? = some (.cells cur e (0, 0)) := by
  rcases h.1.2 with ⟨rfl, _⟩ | ⟨g, cp, cur, rfl, _, hheap, _⟩
  · cases hb
  · cases hb; exact ⟨cur, hheap⟩
theorem Sep.types {w : World} {e e' : TypeId} {f f' : Nat → Value} {lo lo' : Nat} {X X' : List Nat} {v v' : Value} {l l' : List Nat} (h : GR w e f lo X v l) (h' : GR w e' f' lo' X' v' l') (hne : e ≠ e') : Sep v v' := fun b h1 h2 => by
  obtain ⟨c1, q1⟩ := h.cells h1
  obtain ⟨c2, q2⟩ := h'.cells h2
  rw [q1] at q2
  injection q2 with q2
  injection q2 with _ q3
  exact hne q3
theorem GR.notBK {w : World} {e T : TypeId} {f : Nat → Value} {lo bk : Nat} {X : List Nat} {v : Value} {l : List Nat} {cs : List Value} (h : GR w e f lo X v l) (hb : BK w bk T cs) (hne : e ≠ T) : v.ownBlock ≠ some bk := fun h1 => by
  obtain ⟨c1, q1⟩ := h.cells h1
  have q2 : w.heap[bk]? = some (.cells cs.toArray T (0, 0)) := hb
  rw [q1] at q2
  injection q2 with q2
  injection q2 with _ q3
  exact hne q3
def val4 (va vb vc vd : Value) (p : Nat) : Value := if p = 0 then va else if p = 1 then vb else if p = 2 then vc else vd
theorem sep4 {va vb vc vd : Value} (s1 : Sep va vb) (s2 : Sep va vc) (s3 : Sep va vd) (s4 : Sep vb vc) (s5 : Sep vb vd) (s6 : Sep vc vd) : Apart (val4 va vb vc vd) (2 + 2) := fun p q b hp hq hne h => by
  have hp4 : p = 0 ∨ p = 1 ∨ p = 2 ∨ p = 3 := by omega
  have hq4 : q = 0 ∨ q = 1 ∨ q = 2 ∨ q = 3 := by omega
  rcases hp4 with rfl | rfl | rfl | rfl <;> rcases hq4 with rfl | rfl | rfl | rfl
  · exact absurd rfl hne
  · exact s1 b h
  · exact s2 b h
  · exact s3 b h
  · exact s1.sym b h
  · exact absurd rfl hne
  · exact s4 b h
  · exact s5 b h
  · exact s2.sym b h
  · exact s4.sym b h
  · exact absurd rfl hne
  · exact s6 b h
  · exact s3.sym b h
  · exact s5.sym b h
  · exact s6.sym b h
  · exact absurd rfl hne
theorem book_two {bk lo loB : Nat} {va vb vc vd vO vW : Value} {fO fW : Nat → Value} {L : List Nat} {w : World} (hbk : BK w bk 34 [vO, vW]) (hO : GR w 22 fO loB (bk :: vW.ownBlock.toList) vO (List.range (1 + 1))) (hW : GR w 22 (fput (fput fW 0 vc) 1 vd) loB (bk :: vO.ownBlock.toList) vW (List.range (1 + 1))) (h0 : fO 0 = va) (h1 : fO 1 = vb)
    (ga : GR w 30 f64v lo [] va L) (gb : GR w 30 f64v lo [] vb L) (gc : GR w 30 f64v lo [] vc L) (gd : GR w 30 f64v lo [] vd L) (hA : Apart (val4 va vb vc vd) (2 + 2)) (hlo : lo ≤ loB) (hL : L.length ≤ 1000000) (hWd : ∀ x ∈ L, x < 18446744073709551616) :
    ∃ aO cO aW cW, BM bk 2 lo cO cW aO aW (val4 va vb vc vd) (fun _ => L) w ∧ ∀ i, (val4 va vb vc vd i).oneCell' = true := by
  obtain ⟨aO, cO, rfl, -, -⟩ := hO.row
  obtain ⟨aW, cW, rfl, -, -⟩ := hW.row
  refine ⟨aO, cO, aW, cW, ⟨hbk, (hO.mono hlo fun b hb => .inl hb).congr fun i hi => ?_, (hW.mono hlo fun b hb => .inl hb).congr fun i hi => ?_, ⟨fun p hp => ?_, fun i hi => rfl, fun i => hL, fun i => hWd⟩⟩, fun i => ?_⟩
  · have hi2 : i = 0 ∨ i = 1 := by have := List.mem_range.1 hi; omega
    rcases hi2 with rfl | rfl
    · exact h0
    · exact h1
  · have hi2 : i = 0 ∨ i = 1 := by have := List.mem_range.1 hi; omega
    rcases hi2 with rfl | rfl <;> rfl
  · have key : ∀ v, GR w 30 f64v lo [] v L → GR w 30 f64v lo (bk :: ((Value.slice aO (List.range (1 + 1)).length cO).ownBlock.toList ++ (Value.slice aW (List.range (1 + 1)).length cW).ownBlock.toList)) v L := fun v hv => hv.wide fun b hb => by
      rcases List.mem_cons.1 hb with rfl | hb
      · exact hv.notBK hbk (by decide)
      · rcases List.mem_append.1 hb with hb | hb
        · exact (Sep.types hO hv (by decide)).chg b hb
        · exact (Sep.types hW hv (by decide)).chg b hb
    have hp4 : p = 0 ∨ p = 1 ∨ p = 2 ∨ p = 3 := by omega
    rcases hp4 with rfl | rfl | rfl | rfl
    · exact key _ ga
    · exact key _ gb
    · exact key _ gc
    · exact key _ gd
  · unfold val4
    split
    · exact ga.one
    · split
      · exact gb.one
      · split
        · exact gc.one
        · exact gd.one
end

/- Package steelyardlaw16: QuantSeveral. No condition. -/
section
open Go Sx Wd Fl

theorem sev_wd {l L : List Nat} {parts rule mode e : Int} (h : sevR l parts rule mode L e) (hWl : ∀ x ∈ l, x < 18446744073709551616) : (∀ x ∈ L, x < 18446744073709551616) ∧ L.length ≤ 65537 := by
  rcases h with ⟨_, rfl, _⟩ | ⟨hq, ⟨_, rfl, _⟩ | ⟨h0, _, hlen, hf⟩⟩
  · exact ⟨fun x hx => (by cases hx), by decide⟩
  · exact ⟨fun x hx => (by cases hx), by decide⟩
  · obtain ⟨hm, hru, hp1, hp2⟩ := id hq
    obtain ⟨hl6, hfi, hne⟩ := refuse_ok h0
    have hRow := Row.of hfi hWl hne
    refine ⟨fun x hx => ?_, by omega⟩
    obtain ⟨k, hk, rfl⟩ := List.mem_iff_getElem.1 hx
    obtain ⟨e9, hA⟩ := hf k (by omega)
    have h9 := (at_between hA hRow (by omega) (by omega) hm).2.1
    rwa [List.getD_eq_getElem?_getD, List.getElem?_eq_getElem hk] at h9
structure KQs (b lo lo2 : Nat) (lin L : List Nat) (va vb vw : Value) (w0 : World) (i : Nat) (w : World) : Prop where
  hi : i ≤ L.length
  hl : lo ≤ w.heap.size
  hB : FB w b 30 lin
  ga : GR w 30 f64v lo [] va L
  gb : GR w 30 f64v lo2 [] vb L
  gw : GR w 30 f64v 0 [] vw L
  ch : Chg [] w0 w

theorem QuantSeveral_spec (v : Value) (l : List Nat) (parts rule mode : Int) (w : World) (hg : GW w) (hvl : NF w v l ∧ l.length ≤ 17592186044415) (hpa : -9223372036854775808 ≤ parts ∧ parts ≤ 9223372036854775807) (hru : -9223372036854775808 ≤ rule ∧ rule ≤ 9223372036854775807) (hmo : -9223372036854775808 ≤ mode ∧ mode ≤ 9223372036854775807) : Ret Tryz.prog 3 [v, .int .i64 parts, .int .i64 rule, .int .i64 mode] w fun u w' => u = .bool true ∧ Chg [] w w' := by
  obtain ⟨hv, hlm⟩ := hvl;have hv0 := hv;have hWl := hv.hw;have hll := hv.len;have hch : Chg [] w w := Chg.refl _ _;have hg0 := hg;obtain ⟨⟨al, cl, rfl, hcapl, hrl⟩, -, -⟩ := hv;refine zE4 Tryz.func3 rfl ?_;refine Sr fun _ kh1 => za rfl (zz (kh1 (Sr fun _ kh3 => ?_)));refine WL.call hasF11 rfl rfl (qlive_spec _ (hg0.keep0 hch)) fun v w1 h' => ?_;obtain ⟨rfl, hC⟩ := h';have hch := hch.ta hC;refine za rfl (zz (kh3 (Sr fun _ kh5 => zm rfl ?_)));refine WL.call hasF12 rfl rfl (r1Lent_spec _ l _ (hv0.keep0 hch) hlm) fun v w2 h' => ?_;obtain ⟨b, rfl, hB, hC, hge⟩ := h';have hch := hch.ta hC;refine za rfl (zz (kh5 (Sr fun _ kh7 => zm rfl (zm rfl (zm rfl (zm rfl ?_))))));refine WL.call hasF13 rfl rfl (Several_spec _ l parts rule mode _ (NF.lent hB hWl hll (by omega)) hpa (hg0.keep0 hch)) fun v w3 h' => ?_;obtain ⟨⟨va, L, e, rfl, hga, hM⟩, hC⟩ := h';have hblo := hB.lt;obtain ⟨lo, hlo⟩ : ∃ lo, lo = w2.heap.size := ⟨_, rfl⟩;rw [← hlo] at hga hblo;have hlo1 := hch.size;have hlo2 := hC.size;rw [← hlo] at hlo1 hlo2;obtain ⟨aA, cA, rfl, hcA, -⟩ := hga.row;obtain ⟨hWd, hLl⟩ := sev_wd hM hWl;have hlow := hlo2;have hch := hch.ta hC;have hB := hB.keep0 hC;refine zm rfl (zx rfl rfl (zx rfl rfl (za rfl (za rfl (zz (kh7 (Sr fun _ kh9 => zm rfl (zm rfl (zm rfl (zm rfl ?_))))))))));refine WL.call hasF13 rfl rfl (Several_spec _ l parts rule mode _ (NF.lent hB hWl hll (by omega)) hpa (hg0.keep0 hch)) fun v w4 h' => ?_;obtain ⟨⟨vb, L2, e2, rfl, hgb, hM2⟩, hC⟩ := h';obtain ⟨rfl, rfl⟩ := sev_unique hM hM2;obtain ⟨lo2, hlo3⟩ : ∃ lo, lo = w3.heap.size := ⟨_, rfl⟩;rw [← hlo3] at hgb;have hlt2 : ∀ x, (Value.slice aA L.length cA).ownBlock = some x → x < lo2 := fun x hx => by rw [hlo3]; exact hga.lt hx
  obtain ⟨aB, cB, rfl, hcB, -⟩ := hgb.row;have hlow := Nat.le_trans hlow hC.size;have hSab : Sep (Value.slice aA L.length cA) (Value.slice aB L.length cB) := fun x h1 h2 => by have := hlt2 x h1; have := (hgb.2 x h2).1; omega
  have hch := hch.ta hC;have hB := hB.keep0 hC;have hga := hga.keep0 hC;refine zm rfl (zx rfl rfl (zx rfl rfl (za rfl (za rfl (zz (kh9 (Sr fun _ kh11 => zm rfl (zm rfl ?_))))))));refine WL.call hasF14 rfl rfl (r1AsLent_spec b _ l _ hB (hv0.keep0 hch)) fun v w5 h' => ?_;obtain ⟨rfl, hC⟩ := h';have hlow := Nat.le_trans hlow hC.size;have hch := hch.ta hC;have hB := hB.keep0 hC;have hga := hga.keep0 hC;have hgb := hgb.keep0 hC;refine za rfl (zz (kh11 (Sr fun _ kh13 => zm rfl (zm rfl (zm rfl (zm rfl ?_))))));refine WL.call hasF15 rfl rfl (r16Several_spec _ l parts rule mode _ (hv0.keep0 hch)) fun v w6 h' => ?_;obtain ⟨⟨vw, L3, e3, rfl, hgw, hM3⟩, hC⟩ := h';obtain ⟨rfl, rfl⟩ := sev_unique hM hM3;have hgw := hgw.mono (Nat.zero_le _) (fun y hy => .inl hy);obtain ⟨aC, cC, rfl, hcC, -⟩ := hgw.row;have hlow := Nat.le_trans hlow hC.size;have hch := hch.ta hC;have hB := hB.keep0 hC;have hga := hga.keep0 hC;have hgb := hgb.keep0 hC;refine zm rfl (zx rfl rfl (zx rfl rfl (za rfl (za rfl (zz (kh13 (zc fun _ kh15 => Sr fun _ kh16 => zm rfl ?_)))))));refine WL.ev (Ev.not rfl) rfl ?_;refine zm rfl (zw rfl (zm rfl (zw rfl ?_)));refine WL.ev (Ev.not rfl) rfl ?_;refine ze rfl rfl (zm rfl (zw rfl (zm rfl (zw rfl (zm rfl (zw rfl ?_))))));refine WL.ev (Ev.neq rfl rfl) rfl ?_;rw [decide_eq_false (fun q => q rfl)];refine ze rfl rfl (zm rfl (zw rfl (zm rfl (zw rfl (zm rfl (zw rfl ?_))))));refine WL.ev (Ev.neq rfl rfl) rfl ?_;rw [decide_eq_false (fun q => q rfl)];refine ze rfl rfl (zm rfl (zw rfl (zm rfl (zw rfl (zn rfl (zw rfl (zm rfl (zw rfl (zn rfl (zw rfl ?_))))))))));refine WL.ev (Ev.neq rfl rfl) rfl ?_;rw [decide_eq_false (fun q => q rfl)];refine ze rfl rfl (zm rfl (zw rfl (zm rfl (zw rfl (zn rfl (zw rfl (zm rfl (zw rfl (zn rfl (zw rfl ?_))))))))));refine WL.ev (Ev.neq rfl rfl) rfl ?_;rw [decide_eq_false (fun q => q rfl)];refine ze rfl rfl (zz (kh16 ?_));refine CW.condF rfl ?_;refine zkk ?_;refine kh15 (zc fun _ kh18 => Sr fun _ kh19 => za rfl (zz (kh19 ?_)));refine CW.block ?_;refine CW.loop (S := fun i : Nat => [(0, .slice al l.length cl), (10, .slice (some ⟨b, 0, none⟩) l.length (l.length + 8)), (11, Value.slice aA L.length cA), (13, Value.slice aB L.length cB), (16, Value.slice aC L.length cC), (18, .int .i64 (i : Int))]) (Inv := KQs b lo lo2 (l ++ List.replicate 8 4693671547643874799) L (Value.slice aA L.length cA) (Value.slice aB L.length cB) (Value.slice aC L.length cC) w) (mu := fun i => L.length - i) (0) ?_ ?_ ?_
  · exact ⟨Nat.zero_le _, hlow, hB, hga, hgb, hgw, hch⟩
  · exact SLp
  · rintro i wr ⟨hi, hlow, hB, hga, hgb, hgw, hch⟩;refine zc fun _ kh21 => Sr fun _ kh22 => zm rfl (zm rfl (zn rfl ?_));refine WL.ev (Ev.lss rfl rfl) rfl ?_;refine zz (kh22 ?_);refine zy rfl ?_ ?_<;>intro hc1<;>try simp only [qs] at hc1
    · refine zkk ?_
      refine kh21 (zc fun _ kh24 => ?_);refine CW.block ?_;refine zc fun _ kh25 => ?_;refine CW.regionHC 22 rfl hmix fun kR26 kr26 hS hdr => ?_;have hch := hch.ta hdr;have hB := hB.keep0 hdr;have hga := hga.keep0 hdr;have hgb := hgb.keep0 hdr;have hgw := hgw.keep0 hdr;refine wh 0 rfl hS (fun _ _ => Ev.move rfl) (wh 1 rfl hS (fun _ _ => Ev.move rfl) (wh 2 rfl hS (fun _ hw' => Ev.ixR (i) rfl rfl (hga.rw_.1.keep0 hw') (by omega) (by omega) (by simp; omega)) (wh 3 rfl hS (fun _ hw' => Ev.load rfl rfl ((hga.rw_.1.keep0 hw').f64 (by first | omega | (simp; omega)))) (wh 4 rfl hS (fun _ _ => Ev.move rfl) (wh 5 rfl hS (fun _ _ => Ev.move rfl) (wh 6 rfl hS (fun _ hw' => Ev.ixR (i) rfl rfl (hgw.rw_.1.keep0 hw') (by omega) (by omega) (by simp; omega)) (wh 7 rfl hS (fun _ hw' => Ev.load rfl rfl ((hgw.rw_.1.keep0 hw').f64 (by first | omega | (simp; omega)))) ?_)))))));refine WH.oneCall 8 rfl (by kernel_rfl) hasF16 rfl rfl (qexact_spec _ _ _) fun v w7 h' => ?_;obtain ⟨rfl, rfl⟩ := h';rw [decide_eq_true rfl];refine ⟨hS, ?_⟩;refine wh 9 rfl hS (fun _ _ => Ev.not rfl) (wh 10 rfl hS (fun _ _ => Ev.move rfl) ?_);refine WH.takeG 11 rfl (by kernel_rfl) (by kernel_rfl) (by kernel_rfl) rfl rfl rfl rfl hS (fun w' hw' => Ev.move rfl) rfl ?_;refine WH.takeG 12 rfl (by kernel_rfl) (by kernel_rfl) (by kernel_rfl) rfl rfl rfl rfl hS (fun w' hw' => Ev.move rfl) rfl ?_;refine WH.takeG 13 rfl (by kernel_rfl) (by kernel_rfl) (by kernel_rfl) rfl rfl rfl rfl hS (fun w' hw' => Ev.ixR (i) rfl rfl (hgb.rw_.1.keep0 hw') (by omega) (by omega) (by simp; omega)) rfl ?_;refine WH.takeG 14 rfl (by kernel_rfl) (by kernel_rfl) (by kernel_rfl) rfl rfl rfl rfl hS (fun w' hw' => Ev.load rfl rfl ((hgb.rw_.1.keep0 hw').f64 (by first | omega | (simp; omega)))) rfl ?_;refine WH.takeG 15 rfl (by kernel_rfl) (by kernel_rfl) (by kernel_rfl) rfl rfl rfl rfl hS (fun w' hw' => Ev.move rfl) rfl ?_;refine WH.takeG 16 rfl (by kernel_rfl) (by kernel_rfl) (by kernel_rfl) rfl rfl rfl rfl hS (fun w' hw' => Ev.move rfl) rfl ?_;refine WH.takeG 17 rfl (by kernel_rfl) (by kernel_rfl) (by kernel_rfl) rfl rfl rfl rfl hS (fun w' hw' => Ev.ixR (i) rfl rfl (hgw.rw_.1.keep0 hw') (by omega) (by omega) (by simp; omega)) rfl ?_;refine WH.takeG 18 rfl (by kernel_rfl) (by kernel_rfl) (by kernel_rfl) rfl rfl rfl rfl hS (fun w' hw' => Ev.load rfl rfl ((hgw.rw_.1.keep0 hw').f64 (by first | omega | (simp; omega)))) rfl ?_;refine WH.oneCallG 19 rfl (by kernel_rfl) rfl rfl rfl rfl hasF16 rfl rfl (qexact_spec _ _ _) fun v w8 h' => ?_;obtain ⟨rfl, rfl⟩ := h';rw [decide_eq_true rfl];refine ⟨hS, ?_⟩;refine WH.takeG 20 rfl (by kernel_rfl) (by kernel_rfl) (by kernel_rfl) rfl rfl rfl rfl hS (fun w' hw' => Ev.not rfl) rfl ?_;refine wh 21 rfl hS (fun _ _ => Ev.pickF rfl rfl rfl) ?_;refine WH.done (by kernel_rfl) (kr26 _ _ _ ?_);refine kh25 ?_;refine CW.condF rfl ?_;refine zkk ?_;refine kh24 ?_;refine zR fun _ kr27 => ?_;refine zm rfl ?_;(first | refine zi rfl rfl ?_ | refine zo rfl rfl ?_)
      refine za rfl ?_;refine WL.nil (kr27 _ _ _ ?_);refine ⟨rfl, i + 1, ?_, ?_, ?_⟩
      · exact SLp
      · exact ⟨by omega, Nat.le_trans hlow hdr.size, hB, hga, hgb, hgw, hch⟩
      · show L.length - (i + 1) < L.length - i; omega
    · have hla : ∀ x, (Value.slice aA L.length cA).ownBlock = some x → x < wr.heap.size := fun x hx => hga.lt hx
      have hlb : ∀ x, (Value.slice aB L.length cB).ownBlock = some x → x < wr.heap.size := fun x hx => hgb.lt hx;have hwr := hch.size;have hlor := hlow;refine CW.exit ?_;refine kh18 (Sr fun _ kh28 => ?_);refine WL.ev (Ev.build (vs := _) (cs := [_, _]) rfl rfl) rfl ?_;refine zBh rfl rfl rfl hch fun b110 wm110 hb110 hcm110 hge110 hgehch110 hch => ?_;have hB := hB.keep0 hcm110;have hga := hga.keep0 hcm110;have hgb := hgb.keep0 hcm110;refine za rfl (zz (kh28 (Sr fun _ kh30 => zm rfl (zm rfl ?_))));refine WL.call hasF17 rfl rfl (Take_spec b110 0 wr.heap.size (.slice none 0 0) (.slice none 0 0) (fun i => if i = 0 then Value.slice aA L.length cA else Value.slice aB L.length cB) (fun _ => .slice none 0 0) aA L cA _ hb110 GR.nil GR.nil (fun i => by split <;> rfl) (fun i => rfl) rfl (hga.nf hWd (by omega)) (fun ad e => hla _ (by rw [e]; rfl)) hcm110.size hge110 (by omega) (by omega)) fun v w9 h' => ?_;obtain ⟨vO1, vW1, vc, hbk1, hO1, hW1, hgc, hC1⟩ := h';have hT1 : ∀ y ∈ b110 :: ((Value.slice none 0 0).ownBlock.toList ++ (Value.slice none 0 0).ownBlock.toList), y = b110 := fun y hy => by simpa [Value.ownBlock] using hy
      have hch := hch.step hC1 (fun y hy => .inr (by rw [hT1 y hy]; exact hgehch110));have hB9 := hB.keep hC1 (fun hm => by have := hT1 _ hm; omega);have hga := hga.keepV hC1 (fun y hy e => by have := hT1 y hy; have := hla y e; omega);have hgb := hgb.keepV hC1 (fun y hy e => by have := hT1 y hy; have := hlb y e; omega);have hbc : ∀ x, vc.ownBlock = some x → wm110.heap.size ≤ x := fun x hx => (hgc.2 x hx).1;have hs10 := hcm110.size;have hSac : Sep (Value.slice aA L.length cA) vc := fun x h1 h2 => by have := hla x h1; have := hbc x h2; omega
      have hSbc : Sep (Value.slice aB L.length cB) vc := fun x h1 h2 => by have := hlb x h1; have := hbc x h2; omega
      refine zz (kh30 (Sr fun _ kh32 => zm rfl (zm rfl ?_)));refine WL.call hasF17 rfl rfl (Take_spec b110 1 wr.heap.size vO1 vW1 (fun i => if i = 0 then Value.slice aA L.length cA else Value.slice aB L.length cB) (fput (fun _ => .slice none 0 0) 0 vc) aB L cB _ hbk1 hO1 hW1 (fun i => by split <;> rfl) (fput_one (fun i => rfl) hgc.one) rfl (hgb.nf hWd (by omega)) (fun ad e => hlb _ (by rw [e]; rfl)) (Nat.le_trans hcm110.size hC1.size) hge110 (by omega) (by omega)) fun v w10 h' => ?_;obtain ⟨vO2, vW2, vd, hbk2, hO2, hW2, hgd, hC2⟩ := h';have hT2 : ∀ y ∈ b110 :: (vO1.ownBlock.toList ++ vW1.ownBlock.toList), wr.heap.size ≤ y := fun y hy => by
        rcases List.mem_cons.1 hy with rfl | hy
        · exact hge110
        · rcases List.mem_append.1 hy with hy | hy
          · exact hO1.ge y hy
          · exact hW1.ge y hy
      have hch := hch.step hC2 (fun y hy => .inr (Nat.le_trans hwr (hT2 y hy)));have hB10 := hB9.keep hC2 (fun hm => by have := hT2 _ hm; omega);have hga := hga.keepV hC2 (fun y hy e => by have := hT2 y hy; have := hla y e; omega);have hgb := hgb.keepV hC2 (fun y hy e => by have := hT2 y hy; have := hlb y e; omega);have hgc2 := hgc.keep hC2 (fun y hy => .inl hy);have hbd : ∀ x, vd.ownBlock = some x → w9.heap.size ≤ x := fun x hx => (hgd.2 x hx).1;have hs9 := hC1.size;have hs11 := hC2.size;have hSad : Sep (Value.slice aA L.length cA) vd := fun x h1 h2 => by have := hla x h1; have := hbd x h2; omega
      have hSbd : Sep (Value.slice aB L.length cB) vd := fun x h1 h2 => by have := hlb x h1; have := hbd x h2; omega
      have hScd : Sep vc vd := fun x h1 h2 => by have := hgc.lt h1; have := hbd x h2; omega
      have hA4 := sep4 hSab hSac hSad hSbc hSbd hScd;have hlow : lo ≤ w10.heap.size := by omega
      obtain ⟨aO, cO, aW, cW, hBM, hone⟩ := book_two hbk2 hO2 hW2 rfl rfl hga (hgb.mono (by omega) (fun b hb => by cases hb)) (hgc2.mono (by omega) (fun b hb => by cases hb)) (hgd.mono (by omega) (fun b hb => by cases hb)) hA4 hlor (by omega) hWd;refine zz (kh32 (Sr fun _ kh34 => zm rfl ?_));refine WL.call hasF18 rfl rfl (Owned_spec b110 2 lo cO cW aO aW _ _ _ hBM hA4 hone (by decide) hlow (by omega)) fun v w11 h' => ?_;obtain ⟨rfl, hC3⟩ := h';have hch := hch.step hC3 (fun y hy => .inr (Nat.le_trans hlo1 (upF_ge hy)));have hB11 := hB10.keep hC3 (fun hm => by have := upF_ge hm; omega);refine za rfl (zz (kh34 (Sr fun _ kh36 => zm rfl (zm rfl (zw rfl (zm rfl (zw rfl (zm rfl (zw rfl ?_)))))))));refine WL.call hasF14 rfl rfl (r1AsLent_spec b _ l _ hB11 (hv0.keep0 hch)) fun v w12 h' => ?_;obtain ⟨rfl, hC⟩ := h';have hch := hch.ta hC;refine zt rfl rfl (za rfl (zz (kh36 ?_)));refine zr (zr1 rfl rfl ?_);exact ⟨rfl, hch⟩

end

/- What came in, opened; the listed table, opened. No condition. -/
section
open Go Sx Wd
open Go.ChangeShapes Go.WideShapes Go.ChangeAt Go.WideMaps Go.WideElems Go.RowKit

theorem own : ownKnob Tryz.prog.godebug = none := by kernel_rfl
theorem laidOut : laidOutB Tryz.prog = true := by kernel_rfl
theorem door_met (os : Os) (args : Array Value) : laidMetH Tryz.prog [("math/bits.deBruijn32tab", Rows.laid_math_bits_deBruijn32tab)] ((World.doorLaid Tryz.prog 400 os).forCall (fun _ _ => 0) ⟨#[], args, []⟩).memory :=
  laidMetH_of_parts3 (fuel := 8) (laidMet_of_run' 8 (by kernel_rfl) (by kernel_rfl)) (by kernel_rfl) (by kernel_rfl)
theorem gDeb : Tryz.prog.globalNamed "math/bits.deBruijn32tab" = some 6 := by kernel_rfl
theorem tDeb : (Tryz.prog.globals[6]?).map (·.type) = some 380 := by kernel_rfl
theorem deb_data {H : Type} : (Rows.laid_math_bits_deBruijn32tab : DataW H) = .agg (deb.map fun n : Nat => .lit (.int .u8 (n : Int))) := rfl
theorem gw_of_laid {W : World} (h : laidMetH Tryz.prog [("math/bits.deBruijn32tab", Rows.laid_math_bits_deBruijn32tab)] W) : GW W := by
  rw [MakeChecks.laidMetH_plain _ _ _ (by kernel_rfl)] at h
  obtain ⟨ps, ⟨g0, t0, cs0, f0, p0, q0, hg0, ht0, hv0, hd0, _, _⟩, _, _⟩ := h
  obtain rfl := Option.some.inj (gDeb.symm.trans hg0)
  obtain rfl := Option.some.inj (tDeb.symm.trans ht0)
  obtain ⟨xs, m1, rfl, hx1, hlen, hn3, hel⟩ := DataW.trod_array Tryz.underlying380 hd0
  have c8 : Tryz.prog.cellsOf 5 = 1 := by kernel_rfl
  simp only [Prod.mk.injEq] at hx1
  intro i hi
  have hi' := hel i hi
  rw [c8, Nat.mul_one] at hi'
  have hxi : xs[i]? = some (xs[i]'(by omega)) := List.getElem?_eq_getElem (by omega)
  rw [hxi] at hi'
  obtain ⟨k, e1, e2, _⟩ := DataW.trod_int Tryz.underlying5 hi'
  have hxs : (deb.map fun n : Nat => (DataW.lit (.int .u8 (n : Int)) : DataW Unit)) = xs.map (·.1) := by
    have := hx1.1
    rw [deb_data] at this
    exact DataW.agg.inj this
  have hdat : (deb.map fun n : Nat => (DataW.lit (.int .u8 (n : Int)) : DataW Unit))[i]? = some (.lit (.int .u8 ((deb.getD i 0 : Nat) : Int))) := by
    rw [List.getElem?_map, List.getElem?_eq_getElem (show i < deb.length from hi), List.getD_eq_getElem?_getD, List.getElem?_eq_getElem (show i < deb.length from hi)]; rfl
  rw [hxs, List.getElem?_map, hxi] at hdat
  simp only [Option.map_some] at hdat
  rw [e2] at hdat
  have hk : k = ((deb.getD i 0 : Nat) : Int) := by
    have := Option.some.inj hdat
    simp only [DataW.lit.injEq, Lit.int.injEq, true_and] at this
    exact this
  subst hk
  have hc : cs0[i]? = some (.int .u8 ((deb.getD i 0 : Nat) : Int)) := by
    have h3 : (cs0.toList.drop i)[0]? = some (.int .u8 ((deb.getD i 0 : Nat) : Int)) := by
      have := congrArg (fun l : List Value => l[0]?) e1
      simpa using this
    simpa using h3
  have := World.var?_cell hg0 hv0 i
  rw [hc] at this
  exact this

/-- One float cell, read. -/
theorem float_cell {H : Type} {enc : TypeId × Value → H} {P : Program} {w : World} {base : Nat} {spare : Nat → Bool} {held : Bool} {n : Nat} {e : TypeId} {v : Value} {x : DataW H × List MemPlace} (he : P.underlying e = some (.float .f64)) (h : DataW.trod enc P w base spare held n e [v] = some x) : ∃ b, v = .float .f64 b ∧ b < 18446744073709551616 := by
  cases n with
  | zero => simp [DataW.trod] at h
  | succ n =>
    simp only [DataW.trod, he] at h
    cases v <;> simp_all
    rename_i k b
    cases k <;> simp_all [Lit.wf]
/-- A slice of floats that came in. -/
theorem open_nf {H : Type} {enc : TypeId × Value → H} {P : Program} {w : World} {base b0 : Nat} {spare : Nat → Bool} {held : Bool} {t e : TypeId} {v : Value} {d : DataW H} {ps : List MemPlace} (ht : P.underlying t = some (.slice e)) (he : P.underlying e = some (.float .f64)) (hc : P.cellsOf e = 1) (hb : P.bytesOf e = 8) (hval : Value.okWide P w .any b0 t v) (h : DataW.Trod enc P w base spare held t v d ps)
    (hsz : ∀ elems spare', d = .slice elems spare' → (elems.length + spare'.length) * P.bytesOf e ≤ reachBytes) : ∃ l : List Nat, NF w v l ∧ l.length ≤ 17592186044415 := by
  obtain ⟨a, len, cap, rfl⟩ := okWide_slice ht hval
  obtain ⟨fuel, hf⟩ := h
  rcases Go.Deep.open_slice1 ht hc hf with ⟨hcs, _⟩ | ⟨ad, l, c, m, n, V, D, Pl, hcs, _, hlc, hcm, hm, hx, hV⟩
  · simp [Value.cells] at hcs
    obtain ⟨rfl, rfl, rfl⟩ := hcs
    exact ⟨[], ⟨⟨none, 0, rfl, Nat.le_refl _, RW.nil⟩, fun x hx => (by cases hx), by decide⟩, by decide⟩
  · simp [Value.cells] at hcs
    obtain ⟨rfl, rfl, rfl⟩ := hcs
    have hlm : len ≤ m := by rw [hm]; split <;> omega
    simp only [Prod.mk.injEq] at hx
    have h8 := hsz _ _ hx.1
    rw [hb] at h8
    simp only [List.length_map, List.length_range] at h8
    have hr : reachBytes = 140737488351232 := by decide
    have hlen : len ≤ 17592186044415 := by omega
    obtain ⟨f, hf2⟩ := Go.Deep.choose_lt (α := Nat) (n := len) (p := fun i b => V i = .float .f64 b ∧ b < 18446744073709551616) (fun i hi => float_cell he (hV i (by omega)).2)
    refine ⟨(List.range len).map f, ⟨⟨some ad, cap, by simp, by simpa using hlc, fun i y hy => ?_⟩, fun y hy => ?_, by simp; omega⟩, by simpa using hlen⟩
    · have hi : i < len := by
        by_cases q : i < len
        · exact q
        · rw [List.getElem?_eq_none (by simp; omega)] at hy; cases hy
      simp [List.getElem?_range hi] at hy
      subst hy
      exact ⟨ad, rfl, by rw [(hV i (by omega)).1, (hf2 i hi).1]; rfl⟩
    · obtain ⟨i, hi, rfl⟩ := List.mem_map.1 hy
      exact (hf2 i (List.mem_range.1 hi)).2
end

/- A row's joined facts, one by one. No condition. -/
section
open Go
def jf1 (P : Program) (f : FuncId) (fn : Func) (s : ChangeSpec) (c : OpenClaim) : Bool := c.wf (OpenSpec.ofChange s)
def jf2 (P : Program) (f : FuncId) (fn : Func) (s : ChangeSpec) (c : OpenClaim) : Bool := laidOutB P
def jf3 (P : Program) (f : FuncId) (fn : Func) (s : ChangeSpec) (c : OpenClaim) : Bool := mapsRowed P
def jf4 (P : Program) (f : FuncId) (fn : Func) (s : ChangeSpec) (c : OpenClaim) : Bool := fn.params.all (P.readableRec ·)
def jf5 (P : Program) (f : FuncId) (fn : Func) (s : ChangeSpec) (c : OpenClaim) : Bool := namedTie P c.named s.vars
def jf6 (P : Program) (f : FuncId) (fn : Func) (s : ChangeSpec) (c : OpenClaim) : Bool := (c.stops == [])
def jf7 (P : Program) (f : FuncId) (fn : Func) (s : ChangeSpec) (c : OpenClaim) : Bool := (P.stops == [])
def jf8 (P : Program) (f : FuncId) (fn : Func) (s : ChangeSpec) (c : OpenClaim) : Bool := (c.knobs == [])
def jf9 (P : Program) (f : FuncId) (fn : Func) (s : ChangeSpec) (c : OpenClaim) : Bool := (P.stopKnobs == [])
def jf10 (P : Program) (f : FuncId) (fn : Func) (s : ChangeSpec) (c : OpenClaim) : Bool := (c.inPlace == P.inPlace f)
def jf11 (P : Program) (f : FuncId) (fn : Func) (s : ChangeSpec) (c : OpenClaim) : Bool := (c.unfollowed == P.unfollowed f)
def jf12 (P : Program) (f : FuncId) (fn : Func) (s : ChangeSpec) (c : OpenClaim) : Bool := (c.recurses == P.recurses f)
def jf13 (P : Program) (f : FuncId) (fn : Func) (s : ChangeSpec) (c : OpenClaim) : Bool := (c.named == P.varsNamed f)
def jf14 (P : Program) (f : FuncId) (fn : Func) (s : ChangeSpec) (c : OpenClaim) : Bool := (c.maps == (fn.params.toList ++ s.plain.varTypes P).any (P.mapsRec ·))
def jf15 (P : Program) (f : FuncId) (fn : Func) (s : ChangeSpec) (c : OpenClaim) : Bool := (c.ifaces == (fn.params.toList ++ s.plain.varTypes P).any (P.ifacesRec ·))
def jf16 (P : Program) (f : FuncId) (fn : Func) (s : ChangeSpec) (c : OpenClaim) : Bool := (c.mapsOut == P.mapsAmong fn.resultTypes.toList)
def jf17 (P : Program) (f : FuncId) (fn : Func) (s : ChangeSpec) (c : OpenClaim) : Bool := (c.loops == (fn.params.toList ++ s.plain.varTypes P).any (P.loopsFrom ·))
def jf18 (P : Program) (f : FuncId) (fn : Func) (s : ChangeSpec) (c : OpenClaim) : Bool := (c.wideKeys == (fn.params.toList ++ s.plain.varTypes P ++ fn.resultTypes.toList).any (P.wideKeysFrom ·))
def jf19 (P : Program) (f : FuncId) (fn : Func) (s : ChangeSpec) (c : OpenClaim) : Bool := s.vars.all (P.varReadable ·)
def jf20 (P : Program) (f : FuncId) (fn : Func) (s : ChangeSpec) (c : OpenClaim) : Bool := fn.resultTypes.all (fun t => P.readableRec t && decide (t < P.types.size))
def jf21 (P : Program) (f : FuncId) (fn : Func) (s : ChangeSpec) (c : OpenClaim) : Bool := (c.ifacesOut == fn.resultTypes.toList.any (P.ifacesRec ·))
def jf22 (P : Program) (f : FuncId) (fn : Func) (s : ChangeSpec) (c : OpenClaim) : Bool := (c.loopsOut == fn.resultTypes.toList.any (P.loopsFrom ·))
def jf23 (P : Program) (f : FuncId) (fn : Func) (s : ChangeSpec) (c : OpenClaim) : Bool := (c.plainKeys == P.plainKeys)
def jf24 (P : Program) (f : FuncId) (fn : Func) (s : ChangeSpec) (c : OpenClaim) : Bool := c.shortTexts.isNone
def jf25 (P : Program) (f : FuncId) (fn : Func) (s : ChangeSpec) (c : OpenClaim) : Bool := P.stopsHeard
def jf26 (P : Program) (f : FuncId) (fn : Func) (s : ChangeSpec) (c : OpenClaim) : Bool := P.mayEnter
def jf27 (P : Program) (f : FuncId) (fn : Func) (s : ChangeSpec) (c : OpenClaim) : Bool := (c.lifted == P.liftsFinal)
def jf28 (P : Program) (f : FuncId) (fn : Func) (s : ChangeSpec) (c : OpenClaim) : Bool := (P.make == some c.make)
def jf29 (P : Program) (f : FuncId) (fn : Func) (s : ChangeSpec) (c : OpenClaim) : Bool := (c.kinds == (if c.domain.isEmpty then [] else fn.params.toList.map fun t => match P.underlying t with | some (.int k) => some k | _ => none))
def jf30 (P : Program) (f : FuncId) (fn : Func) (s : ChangeSpec) (c : OpenClaim) : Bool := (c.pinned == c.pinnedBy)
def jf31 (P : Program) (f : FuncId) (fn : Func) (s : ChangeSpec) (c : OpenClaim) : Bool := (c.veiled == (fn.params.toList ++ s.plain.varTypes P ++ fn.resultTypes.toList).any (P.veiledRec ·))
def jf32 (P : Program) (f : FuncId) (fn : Func) (s : ChangeSpec) (c : OpenClaim) : Bool := c.veiledFits P fn.params.toList (fn.params.toList ++ s.plain.varTypes P ++ fn.resultTypes.toList)
theorem joined_of {P : Program} {f : FuncId} {fn : Func} {s : ChangeSpec} {c : OpenClaim}
    (h1 : jf1 P f fn s c = true)
    (h2 : jf2 P f fn s c = true)
    (h3 : jf3 P f fn s c = true)
    (h4 : jf4 P f fn s c = true)
    (h5 : jf5 P f fn s c = true)
    (h6 : jf6 P f fn s c = true)
    (h7 : jf7 P f fn s c = true)
    (h8 : jf8 P f fn s c = true)
    (h9 : jf9 P f fn s c = true)
    (h10 : jf10 P f fn s c = true)
    (h11 : jf11 P f fn s c = true)
    (h12 : jf12 P f fn s c = true)
    (h13 : jf13 P f fn s c = true)
    (h14 : jf14 P f fn s c = true)
    (h15 : jf15 P f fn s c = true)
    (h16 : jf16 P f fn s c = true)
    (h17 : jf17 P f fn s c = true)
    (h18 : jf18 P f fn s c = true)
    (h19 : jf19 P f fn s c = true)
    (h20 : jf20 P f fn s c = true)
    (h21 : jf21 P f fn s c = true)
    (h22 : jf22 P f fn s c = true)
    (h23 : jf23 P f fn s c = true)
    (h24 : jf24 P f fn s c = true)
    (h25 : jf25 P f fn s c = true)
    (h26 : jf26 P f fn s c = true)
    (h27 : jf27 P f fn s c = true)
    (h28 : jf28 P f fn s c = true)
    (h29 : jf29 P f fn s c = true)
    (h30 : jf30 P f fn s c = true)
    (h31 : jf31 P f fn s c = true)
    (h32 : jf32 P f fn s c = true)
    : joinedFacts P f fn s c = true := by
  unfold joinedFacts
  simp only [Bool.and_eq_true]
  exact ⟨⟨⟨⟨⟨⟨⟨⟨⟨⟨⟨⟨⟨⟨⟨⟨⟨⟨⟨⟨⟨⟨⟨⟨⟨⟨⟨⟨⟨⟨⟨h1, h2⟩, h3⟩, h4⟩, h5⟩, h6⟩, h7⟩, h8⟩, h9⟩, h10⟩, h11⟩, h12⟩, h13⟩, h14⟩, h15⟩, h16⟩, h17⟩, h18⟩, h19⟩, h20⟩, h21⟩, h22⟩, h23⟩, h24⟩, h25⟩, h26⟩, h27⟩, h28⟩, h29⟩, h30⟩, h31⟩, h32⟩
end

end Go.Proofs.YtknahdghcfdmgaaGreatDoor