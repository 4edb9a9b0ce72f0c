/- The statement on MeanTrimmed. -/
import Derived.Test.YtphnpchmdpjabaaGreatDoorTr5
import Derived.Shelf.SlGeneric
import Derived.Shelf.SlSortCmp.Whole1
import Derived.Ground.SlsfProg
import Derived.Test.YtphnpchmdpjabaaGreatDoorProg
import Derived.WalkKit
import Derived.ProofKit
import Derived.OpenShut
import Derived.ChangeOld
import Derived.Below
import Derived.Deep.Slices
import Derived.Laws.Cover2
import Derived.LaidMore
import Derived.SizedLaws
import Derived.SevenTiedAt
import Derived.Stop.Joined
import Derived.Test.YtphnpchmdpjabaaGreatDoorRows
import Derived.Test.YtphnpchmdpjabaaGreatDoorTie
import Derived.Test.YtphnpchmdpjabaaGreatDoorCards
set_option linter.unusedVariables false
set_option linter.unusedSimpArgs false
/- Reference of layer 11: half, Nearby. No condition. -/
namespace Go.Proofs.YtphnpchmdpjabaaGreatDoor
open Go Sx Wd

theorem nz_num (k : Nat) : nz k = numM k * 2 ^ (numE k + 1074).toNat := by
  unfold nz numM numE
  by_cases h : k < 4503599627370496
  · rw [if_pos h, if_pos (show k / 4503599627370496 = 0 by omega), if_pos (show k / 4503599627370496 = 0 by omega), show k % 4503599627370496 = k by omega]
    simp
  · rw [if_neg h, if_neg (show ¬ k / 4503599627370496 = 0 by omega), if_neg (show ¬ k / 4503599627370496 = 0 by omega), show (-1074 + ((k / 4503599627370496 : Nat) : Int) - 1 + 1074).toNat = k / 4503599627370496 - 1 by omega]
theorem numE_step (k : Nat) : numE k ≤ numE (k + 1) ∧ numE (k + 1) ≤ numE k + 1 := by
  unfold numE
  by_cases h : k / 4503599627370496 = 0
  · rw [if_pos h]
    by_cases h2 : (k + 1) / 4503599627370496 = 0
    · rw [if_pos h2]; omega
    · rw [if_neg h2]; omega
  · rw [if_neg h, if_neg (show ¬ (k + 1) / 4503599627370496 = 0 by omega)]; omega
theorem sgn_scale (x y c : Nat) : sgn (x * 2 ^ c) (y * 2 ^ c) = sgn x y := by
  have hp := Nat.two_pow_pos c
  have h1 : x * 2 ^ c < y * 2 ^ c ↔ x < y := Nat.mul_lt_mul_right hp
  have h2 : y * 2 ^ c < x * 2 ^ c ↔ y < x := Nat.mul_lt_mul_right hp
  unfold sgn
  simp only [h1, h2]
theorem cmpX_eq {m n a b : Nat} {e f : Int} (h : (a : Int) - b = e - f) : cmpX m e n f = sgn (m * 2 ^ a) (n * 2 ^ b) := by
  unfold cmpX
  obtain ⟨c, hc1, hc2⟩ : ∃ c, a = (e - min e f).toNat + c ∧ b = (f - min e f).toNat + c := by
    rcases Int.le_total e f with q | q
    · exact ⟨a, by omega, by omega⟩
    · exact ⟨b, by omega, by omega⟩
  rw [hc1, hc2, Nat.pow_add, Nat.pow_add, ← Nat.mul_assoc, ← Nat.mul_assoc, sgn_scale]
theorem cmp_num {x y : Nat} {ex ey : Int} {k : Nat} (hk : k < 18446744073709551616) : cmpX (numM k * y) (numE k + ey) x ex = sgn (2 * nz k * (y * dyB (ex - ey))) (dyA x (ex - ey)) := by
  have h1 := (numE_le k hk).1
  unfold dyA dyB
  rw [nz_num, cmpX_eq (a := (numE k + 1074).toNat + 1 + (-(ex - ey + 1075)).toNat) (b := (ex - ey + 1075).toNat) (by omega)]
  congr 1
  rw [Nat.pow_add, Nat.pow_succ]
  simp only [Nat.mul_comm, Nat.mul_left_comm, Nat.mul_assoc]
theorem cmp_mid {x y : Nat} {ex ey : Int} {k d : Nat} (hk : k < 9223372036854775808) (hd : (d : Int) = numE (k + 1) - numE k) : cmpX ((numM k + numM (k + 1) * 2 ^ d) * y) (numE k - 1 + ey) x ex = sgn ((nz k + nz (k + 1)) * (y * dyB (ex - ey))) (dyA x (ex - ey)) := by
  have h1 := (numE_le k (by omega)).1
  have e : nz k + nz (k + 1) = (numM k + numM (k + 1) * 2 ^ d) * 2 ^ (numE k + 1074).toNat := by
    rw [nz_num, nz_num, show (numE (k + 1) + 1074).toNat = d + (numE k + 1074).toNat by omega, Nat.pow_add, Nat.add_mul, Nat.mul_assoc]
  unfold dyA dyB
  rw [e, cmpX_eq (a := (numE k + 1074).toNat + (-(ex - ey + 1075)).toNat) (b := (ex - ey + 1075).toNat) (by omega)]
  congr 1
  rw [Nat.pow_add]
  simp only [Nat.mul_comm, Nat.mul_left_comm, Nat.mul_assoc]
theorem near_of {A B k : Nat} {neg : Bool} {mode : Int} {r : Nat} (hk : k < 9218868437227405312) (h1 : 2 * nz k * B ≤ A) (h2 : A < 2 * nz (k + 1) * B ∨ k + 1 = 9218868437227405312) (hne : 2 * nz k * B ≠ A) {on : Bool} (hup : upM mode neg k A ((nz k + nz (k + 1)) * B) = on) (hr : r = if on = true then k + 1 else k) : IsNear A B neg mode r :=
  ⟨k, hk, h1, h2, by rw [if_neg hne, hup, hr]⟩
theorem near_eq {A B k : Nat} {neg : Bool} {mode : Int} (hk : k < 9218868437227405312) (h2 : A < 2 * nz (k + 1) * B ∨ k + 1 = 9218868437227405312) (he : 2 * nz k * B = A) : IsNear A B neg mode k :=
  ⟨k, hk, Nat.le_of_eq he, h2, by rw [if_pos he]⟩
theorem up_even {neg : Bool} {k A M : Nat} : upM 0 neg k A M = (decide (M < A) || (decide (M = A) && decide (k % 2 = 1))) := by unfold upM; rw [if_pos rfl]
theorem up_up {neg : Bool} {k A M : Nat} : upM 2 neg k A M = !neg := by unfold upM; rw [if_neg (by decide), if_pos rfl]
theorem up_down {neg : Bool} {k A M : Nat} : upM 3 neg k A M = neg := by unfold upM; rw [if_neg (by decide), if_neg (by decide), if_pos rfl]
theorem up_away {neg : Bool} {k A M : Nat} : upM 4 neg k A M = decide (M ≤ A) := by unfold upM; rw [if_neg (by decide), if_neg (by decide), if_neg (by decide), if_pos rfl]
theorem up_zero {neg : Bool} {k A M : Nat} : upM 1 neg k A M = false := by unfold upM; rw [if_neg (by decide), if_neg (by decide), if_neg (by decide), if_neg (by decide)]
structure KNb (x y : Dy) (A B : Nat) (w0 : World) (b4 b5 : Nat) (vn vd : Value) (g : Nat × Nat) (w : World) : Prop where
  lt : g.1 < g.2
  le : g.2 ≤ 9218868437227405312
  lo : 2 * nz g.1 * B ≤ A
  hi : A < 2 * nz g.2 * B ∨ g.2 = 9218868437227405312
  h4 : BK w b4 124 [.int .i64 53, .int .i64 (-1074), .int .u64 9218868437227405312]
  h5 : BK w b5 73 [.bool x.neg, vn, .int .i64 x.e, .bool y.neg, vd, .int .i64 y.e]
  hn : NU w vn (wd x.m)
  hd : NU w vd (wd y.m)
  ch : Chg [] w0 w
theorem num_len (k : Nat) : (wd (numM k)).length ≤ 2 := wd_length_le.2 (by have := numM_lt k; omega)

set_option maxRecDepth 8000 in
set_option maxHeartbeats 2000000 in
theorem r11half_spec (k : Nat) (nn nd : Bool) (vn vd : Value) (ln ld : List Nat) (en ed : Int) (w : World) (hk : k < 9218868437227405312) (hn : NU w vn ln) (hd : NU w vd ld) (hen : -1048576 ≤ en ∧ en ≤ 1048576) (hed : -1048576 ≤ ed ∧ ed ≤ 1048576) (hln : ln.length ≤ 8192) (hld : ld.length ≤ 8192) : Ret Tryz.prog 170 [.agg [.int .i64 53, .int .i64 (-1074), .int .u64 9218868437227405312].toArray, .int .u64 (k : Int), .agg [.bool nn, vn, .int .i64 en, .bool nd, vd, .int .i64 ed].toArray, .bool false] w fun u w' => u = .int .i64 (cmpX ((numM k + numM (k + 1) * 2 ^ (numE (k + 1) - numE k).toNat) * val ld) (numE k - 1 + ed) (val ln) en) ∧ Chg [] w w' := by
 have hch : Chg [] w w := Chg.refl _ _
 have hon := hn.one
 have hod := hd.one
 have hes := numE_step k
 have he1 := numE_le k (by omega)
 have hm1 := num_len k
 have hm2 := num_len (k + 1)
 obtain ⟨d, hdd⟩ : ∃ d : Nat, (d : Int) = numE (k + 1) - numE k := ⟨(numE (k + 1) - numE k).toNat, by omega⟩
 rw [show (numE (k + 1) - numE k).toNat = d by omega]
 refine Ret.enter Tryz.func170 rfl rfl ?_
 simp only [args0, Nat.zero_add, Nat.reduceAdd]
 refine Sr fun _ kh1 => ?_
 refine WL.boxB rfl rfl rfl fun b4 wm4 hb4 hcm4 hge4 => ?_
 have hgehch4 := Nat.le_trans hch.size hge4
 have hch := hch.trans (Chg.any hcm4)
 have hn := hn.keep0 hcm4
 have hd := hd.keep0 hcm4
 refine WL.boxB rfl rfl rfl fun b6 wm6 hb6 hcm6 hge6 => ?_
 have hgehch6 := Nat.le_trans hch.size hge6
 have hch := hch.trans (Chg.any hcm6)
 have hn := hn.keep0 hcm6
 have hd := hd.keep0 hcm6
 have hneb46 : b4 ≠ b6 := by have := hb4.lt; omega
 have hb4 := hb4.keep0 hcm6
 refine za rfl (zz (kh1 (Sr fun _ kh3 => zg hb4 rfl (zm rfl ?_))))
 refine WL.call hasF168 rfl rfl (r3Number_spec (k) _ (by omega)) fun v w1 h' => ?_
 obtain ⟨⟨va, rfl, hNa⟩, hC⟩ := h'
 have hch := hch.trans (Chg.any hC)
 have hb4 := hb4.keep0 hC
 have hb6 := hb6.keep0 hC
 have hn := hn.keep0 hC
 have hd := hd.keep0 hC
 refine zm rfl (zx rfl rfl (zx rfl rfl (za rfl (za rfl (zz (kh3 (Sr fun _ kh5 => zg hb4 rfl (zm rfl ?_))))))))
 first | refine WL.ev (Ev.add64In (b := 1) rfl rfl (by omega)) rfl ?_ | refine WL.ev (Ev.add64 (b := 1) rfl rfl) rfl ?_
 refine WL.call hasF168 rfl rfl (r3Number_spec (k + 1) _ (by omega)) fun v w2 h' => ?_
 obtain ⟨⟨vb, rfl, hNb⟩, hC⟩ := h'
 have hch := hch.trans (Chg.any hC)
 have hb4 := hb4.keep0 hC
 have hb6 := hb6.keep0 hC
 have hn := hn.keep0 hC
 have hd := hd.keep0 hC
 have hNa := hNa.keep0 hC
 refine zm rfl (zx rfl rfl (zx rfl rfl (za rfl (za rfl (zz (kh5 (Sr fun _ kh7 => zm rfl (zm rfl (zm rfl (zm rfl ?_))))))))))
 refine WL.ev (Ev.subIn rfl rfl (by omega)) rfl ?_
 rw [← hdd]
 refine WL.call hasF126 rfl rfl (r2MovedUp_spec _ _ _ hNb d (by omega) (by omega)) fun v w3 h' => ?_
 obtain ⟨hNc, hC, hF⟩ := h'
 rw [val_wd] at hNc
 have hcl : (wd (numM (k + 1) * 2 ^ d)).length ≤ 3 := wd_length_le.2 (by have h7 := numM_lt (k + 1); have h8 : 2 ^ d ≤ 2 ^ 1 := Nat.pow_le_pow_right (by decide) (by omega); have h9 := Nat.mul_le_mul (Nat.le_of_lt h7) h8; omega)
 have hch := hch.trans (Chg.any hC)
 have hb4 := hb4.keep0 hC
 have hb6 := hb6.keep0 hC
 have hn := hn.keep0 hC
 have hd := hd.keep0 hC
 have hNa := hNa.keep0 hC
 have hNb := hNb.keep0 hC
 refine WL.call hasF179 rfl rfl (r2Plus_spec _ _ _ _ _ hNa hNc (by omega) (by omega)) fun v w4 h' => ?_
 obtain ⟨hNs, hC, hF⟩ := h'
 rw [val_wd, val_wd] at hNs
 have hsl : (wd (numM k + numM (k + 1) * 2 ^ d)).length ≤ 4 := wd_length_le.2 (by have h5 := numM_lt k; have h6 := wd_length_le.1 hcl; omega)
 have hch := hch.trans (Chg.any hC)
 have hb4 := hb4.keep0 hC
 have hb6 := hb6.keep0 hC
 have hn := hn.keep0 hC
 have hd := hd.keep0 hC
 have hNa := hNa.keep0 hC
 have hNb := hNb.keep0 hC
 have hNc := hNc.keep0 hC
 refine za rfl (zz (kh7 (Sr fun _ kh9 => zm rfl (zm rfl ?_))))
 refine WL.ev (Ev.subIn rfl rfl (by omega)) rfl ?_
 refine zg hb6 rfl (zm rfl ?_)
 refine WL.call hasF169 rfl rfl (r11Against_spec _ _ _ _ _ _ _ _ _ _ _ _ hNs (by omega) (by omega) hn hd hen hed hln hld) fun v w5 h' => ?_
 obtain ⟨rfl, hC⟩ := h'
 rw [val_wd]
 have hch := hch.trans (Chg.any hC)
 have hb4 := hb4.keep0 hC
 have hb6 := hb6.keep0 hC
 have hn := hn.keep0 hC
 have hd := hd.keep0 hC
 have hNa := hNa.keep0 hC
 have hNb := hNb.keep0 hC
 have hNc := hNc.keep0 hC
 have hNs := hNs.keep0 hC
 refine za rfl (zz (kh9 ?_))
 refine CW.ret ?_
 refine bodyA.ret1 rfl rfl ?_
 exact ⟨rfl, hch⟩

end Go.Proofs.YtphnpchmdpjabaaGreatDoor

/- Reference of layer 11: Nearby. No condition. -/
namespace Go.Proofs.YtphnpchmdpjabaaGreatDoor
open Go Sx Wd

set_option maxRecDepth 8000 in
set_option maxHeartbeats 2000000 in
theorem r11Nearby_spec (x y : Dy) (vn vd : Value) (mode : Int) (w : World) (hm : 0 ≤ mode ∧ mode ≤ 4) (hn : NU w vn (wd x.m)) (hd : NU w vd (wd y.m)) (hx : x.ok) (hy : y.ok) : Ret Tryz.prog 128 [.agg [.int .i64 53, .int .i64 (-1074), .int .u64 9218868437227405312].toArray, .agg [.bool x.neg, vn, .int .i64 x.e, .bool y.neg, vd, .int .i64 y.e].toArray, .bool false, .int .i64 mode] w fun u w' => ∃ r : Nat, u = .int .u64 (r : Int) ∧ IsNear (dyA x.m (x.e - y.e)) (y.m * dyB (x.e - y.e)) x.neg mode r ∧ r ≤ 9218868437227405312 ∧ Chg [] w w' := by
 have hch : Chg [] w w := Chg.refl _ _
 have hon1 := hn.one
 have hod1 := hd.one
 obtain ⟨A, hA⟩ : ∃ A, A = (dyA x.m (x.e - y.e)) := ⟨_, rfl⟩
 obtain ⟨B, hB⟩ : ∃ B, B = (y.m * dyB (x.e - y.e)) := ⟨_, rfl⟩
 rw [← hA, ← hB]
 refine Ret.enter Tryz.func128 rfl rfl ?_
 simp only [args0, Nat.zero_add, Nat.reduceAdd]
 refine Sr fun _ kh1 => ?_
 refine WL.boxB rfl rfl rfl fun b4 wm4 hb4 hcm4 hge4 => ?_
 have hgehch4 := Nat.le_trans hch.size hge4
 have hch := hch.trans (Chg.any hcm4)
 have hn := hn.keep0 hcm4
 have hd := hd.keep0 hcm4
 refine WL.boxB rfl rfl rfl fun b5 wm5 hb5 hcm5 hge5 => ?_
 have hgehch5 := Nat.le_trans hch.size hge5
 have hch := hch.trans (Chg.any hcm5)
 have hn := hn.keep0 hcm5
 have hd := hd.keep0 hcm5
 have hneb45 : b4 ≠ b5 := by have := hb4.lt; omega
 have hb4 := hb4.keep0 hcm5
 refine za rfl (zz (kh1 (Sr fun _ kh3 => za rfl (zz (kh3 (Sr fun _ kh5 => zf rfl (zl hb4 rfl rfl (za rfl (zz (kh5 (zc fun _ kh7 => ?_)))))))))))
 refine CW.block ?_
 refine CW.loop (S := fun g : Nat × Nat => [(2, .bool false), (3, .int .i64 mode), (4, .pointer (some ⟨b4, 0, none⟩)), (5, .pointer (some ⟨b5, 0, none⟩)), (9, .int .u64 (g.1 : Int)), (10, .int .u64 (g.2 : Int))]) (Inv := KNb x y A B w b4 b5 vn vd) (mu := fun g => g.2 - g.1) ((0, 9218868437227405312)) ?_ ?_ ?_
 ·
  exact ⟨by decide, Nat.le_refl _, by rw [show nz 0 = 0 from rfl, Nat.mul_zero, Nat.zero_mul]; exact Nat.zero_le _, .inr rfl, hb4, hb5, hn, hd, hch⟩
 ·
  exact SLp
 ·
  rintro ⟨f, t⟩ wr ⟨hft, ht, hlo, hhi, hb4, hb5, hn, hd, hch⟩
  dsimp only at hft ht hlo hhi
  dsimp only
  refine zc fun _ kh8 => Sr fun _ kh9 => zm rfl (zm rfl ?_)
  first | refine WL.ev (Ev.sub64In rfl rfl (by omega) (by omega)) rfl ?_ | refine WL.ev (Ev.sub64 rfl rfl (by omega)) rfl ?_
  refine WL.ev (Ev.gtr rfl rfl) rfl ?_
  refine zz (kh9 ?_)
  refine CW.cond rfl (fun hc1 => ?_) (fun hc1 => ?_)
  ·
   try simp only [qs] at hc1
   have hm1 : f < (f + t) / 2 := by omega
   have hm2 : (f + t) / 2 < t := by omega
   refine CW.skip ?_
   refine kh8 ?_
   refine CW.block ?_
   refine Sr fun _ kh11 => zm rfl (zm rfl ?_)
   first | refine WL.ev (Ev.add64In rfl rfl (by omega)) rfl ?_ | refine WL.ev (Ev.add64 rfl rfl) rfl ?_
   refine WL.ev (Ev.quoU (b := 2) rfl rfl (by omega) (in_u64 (by omega)).2) rfl ?_
   refine za rfl (zz (kh11 (Sr fun _ kh13 => zg hb4 rfl (zm rfl ?_))))
   refine WL.call hasF168 rfl rfl (r3Number_spec ((f + t) / 2) _ (by omega)) fun v w1 h' => ?_
   obtain ⟨⟨va, rfl, hNa⟩, hC⟩ := h'
   have hch := hch.trans (Chg.any hC)
   have hb4 := hb4.keep0 hC
   have hb5 := hb5.keep0 hC
   have hn := hn.keep0 hC
   have hd := hd.keep0 hC
   refine zm rfl (zx rfl rfl (zx rfl rfl (za rfl (za rfl (zz (kh13 (Sr fun _ kh15 => zm rfl (zm rfl (zg hb5 rfl (zm rfl ?_))))))))))
   refine WL.call hasF169 rfl rfl (r11Against_spec _ _ _ _ _ _ _ _ _ _ _ _ hNa (by have := numE_le ((f + t) / 2) (by omega); omega) (by have := num_len ((f + t) / 2); omega) hn hd hx.e hy.e hx.len hy.len) fun v w2 h' => ?_
   obtain ⟨rfl, hC⟩ := h'
   rw [val_wd, val_wd, val_wd, cmp_num (by omega), ← hB, ← hA]
   have hch := hch.trans (Chg.any hC)
   have hb4 := hb4.keep0 hC
   have hb5 := hb5.keep0 hC
   have hn := hn.keep0 hC
   have hd := hd.keep0 hC
   have hNa := hNa.keep0 hC
   refine WL.ev (Ev.leq rfl rfl) rfl ?_
   refine zz (kh15 ?_)
   refine CW.cond rfl (fun hc2 => ?_) (fun hc2 => ?_)
   ·
    try simp only [qs] at hc2
    have hle : 2 * nz ((f + t) / 2) * B ≤ A := sgn_le.1 hc2
    refine CW.region fun kR17 kr17 => ?_
    refine zm rfl (za rfl ?_)
    refine WL.nil (kr17 _ _ _ ?_)
    refine ⟨rfl, ((f + t) / 2, t), ?_, ?_, ?_⟩
    ·
     exact SLp
    ·
     exact ⟨hm2, ht, hle, hhi, hb4, hb5, hn, hd, hch⟩
    ·
     show t - (f + t) / 2 < t - f; omega
   ·
    try simp only [qs] at hc2
    have hle : A < 2 * nz ((f + t) / 2) * B := Nat.lt_of_not_le fun q => by have := sgn_le.2 q; omega
    refine CW.region fun kR18 kr18 => ?_
    refine zm rfl (za rfl ?_)
    refine WL.nil (kr18 _ _ _ ?_)
    refine ⟨rfl, (f, (f + t) / 2), ?_, ?_, ?_⟩
    ·
     exact SLp
    ·
     exact ⟨hm1, by dsimp only; omega, hlo, .inl hle, hb4, hb5, hn, hd, hch⟩
    ·
     show (f + t) / 2 - f < t - f; omega
  ·
   try simp only [qs] at hc1
   have et : t = f + 1 := by omega
   subst et
   have hft' : f < 9218868437227405312 := by omega
   have hhi' := hhi
   refine CW.exit ?_
   refine kh7 (Sr fun _ kh19 => zg hb4 rfl (zm rfl ?_))
   refine WL.call hasF168 rfl rfl (r3Number_spec (f) _ (by omega)) fun v w3 h' => ?_
   obtain ⟨⟨vc, rfl, hNc⟩, hC⟩ := h'
   have hch := hch.trans (Chg.any hC)
   have hb4 := hb4.keep0 hC
   have hb5 := hb5.keep0 hC
   have hn := hn.keep0 hC
   have hd := hd.keep0 hC
   refine zm rfl (zx rfl rfl (zx rfl rfl (za rfl (za rfl (zz (kh19 (zc fun _ kh21 => Sr fun _ kh22 => zm rfl (zm rfl (zg hb5 rfl (zm rfl ?_))))))))))
   refine WL.call hasF169 rfl rfl (r11Against_spec _ _ _ _ _ _ _ _ _ _ _ _ hNc (by have := numE_le (f) (by omega); omega) (by have := num_len (f); omega) hn hd hx.e hy.e hx.len hy.len) fun v w4 h' => ?_
   obtain ⟨rfl, hC⟩ := h'
   rw [val_wd, val_wd, val_wd, cmp_num (by omega), ← hB, ← hA]
   have hch := hch.trans (Chg.any hC)
   have hb4 := hb4.keep0 hC
   have hb5 := hb5.keep0 hC
   have hn := hn.keep0 hC
   have hd := hd.keep0 hC
   have hNc := hNc.keep0 hC
   refine zq rfl rfl (zz (kh22 ?_))
   refine CW.cond rfl (fun hc3 => ?_) (fun hc3 => ?_)
   ·
    try simp only [qs] at hc3
    have he := sgn_zero.1 hc3
    refine Sr fun _ kh24 => zm rfl (za rfl (zz (kh24 ?_)))
    refine CW.ret ?_
    refine bodyA.ret1 rfl rfl ?_
    exact ⟨f, rfl, near_eq hft' hhi' he, by omega, hch⟩
   ·
    try simp only [qs] at hc3
    have hne : 2 * nz f * B ≠ A := fun q => hc3 (sgn_zero.2 q)
    have hes := numE_step f
    obtain ⟨d, hdd⟩ : ∃ d : Nat, (d : Int) = numE (f + 1) - numE f := ⟨(numE (f + 1) - numE f).toNat, by omega⟩
    refine CW.skip ?_
    refine kh21 (Sr fun _ kh26 => zg hb4 rfl (zm rfl (zg hb5 rfl (zm rfl ?_))))
    refine WL.call hasF170 rfl rfl (r11half_spec f _ _ _ _ _ _ _ _ _ hft' hn hd hx.e hy.e hx.len hy.len) fun v w5 h' => ?_
    obtain ⟨rfl, hC⟩ := h'
    rw [val_wd, val_wd, show (numE (f + 1) - numE f).toNat = d by omega, cmp_mid (by omega) hdd, ← hB, ← hA]
    obtain ⟨M, hM⟩ : ∃ M, M = (nz f + nz (f + 1)) * B := ⟨_, rfl⟩
    rw [← hM]
    have hs1 := sgn_le (a := M) (b := A)
    have hs2 := sgn_zero (a := M) (b := A)
    obtain ⟨h, hh⟩ : ∃ h, h = sgn M A := ⟨_, rfl⟩
    rw [← hh] at hs1 hs2
    rw [← hh]
    have hch := hch.trans (Chg.any hC)
    have hb4 := hb4.keep0 hC
    have hb5 := hb5.keep0 hC
    have hn := hn.keep0 hC
    have hd := hd.keep0 hC
    have hNc := hNc.keep0 hC
    refine za rfl (zz (kh26 (Sr fun _ kh28 => za rfl (zz (kh28 (zc fun _ kh30 => Sr fun _ kh31 => zm rfl (zz (kh31 ?_))))))))
    refine CW.block ?_
    refine Sr fun _ kh33 => zq rfl rfl (za rfl (zz (kh33 ?_)))
    refine CW.cond rfl (fun hc4 => ?_) (fun hc4 => ?_)
    ·
     try simp only [qs] at hc4
     have hmo : mode = 0 := hc4
     refine CW.region fun kR35 kr35 => ?_
     refine zm rfl ?_
     refine WL.ev (Ev.lss rfl rfl) rfl ?_
     refine zm rfl ?_
     refine WL.boolCase (fun hg5 => ?_) (fun hg5 => ?_)
     ·
      try simp only [qs] at hg5
      have hup : upM mode x.neg f A ((nz f + nz (f + 1)) * B) = true := by
       rw [← hM, hmo, up_even, decide_eq_true (show M < A by omega)]; rfl
      refine zv rfl (zv rfl (zv rfl (zu rfl (zu rfl (zu rfl (zv rfl (zt rfl rfl (za rfl ?_))))))))
      refine WL.nil (kr35 _ _ _ (kh30 ?_))
      refine zc fun _ kh36 => Sr fun _ kh37 => zm rfl (zz (kh37 ?_))
      refine CW.condT rfl ?_
      refine CW.region fun kR39 kr39 => ?_
      refine zm rfl ?_
      first | refine WL.ev (Ev.add64In (b := 1) rfl rfl (by omega)) rfl ?_ | refine WL.ev (Ev.add64 (b := 1) rfl rfl) rfl ?_
      refine za rfl ?_
      refine WL.nil (kr39 _ _ _ (kh36 ?_))
      refine Sr fun _ kh40 => zm rfl (za rfl (zz (kh40 ?_)))
      refine CW.ret ?_
      refine bodyA.ret1 rfl rfl ?_
      exact ⟨f + 1, rfl, near_of hft' hlo hhi' hne (on := true) (by first | exact hup | exact hup.trans hon) rfl, by omega, hch⟩
     ·
      try simp only [qs] at hg5
      refine zw rfl (zm rfl (zw rfl (zq rfl rfl (zw rfl (zm rfl ?_)))))
      refine WL.boolCase (fun hg6 => ?_) (fun hg6 => ?_)
      ·
       try simp only [qs] at hg6
       have hup : upM mode x.neg f A ((nz f + nz (f + 1)) * B) = decide (f % 2 = 1) := by
        rw [← hM, hmo, up_even, decide_eq_false (show ¬ M < A by omega), decide_eq_true (show M = A by omega)]; simp
       refine zw rfl (zm rfl (zw rfl ?_))
       refine WL.ev (Ev.remU (b := 2) rfl rfl (by omega)) rfl ?_
       refine zw rfl (zq rfl rfl ?_)
       rw [show decide (((f % 2 : Nat) : Int) = 1) = decide (f % 2 = 1) from decide_eq_decide.2 (by omega)]
       refine zw rfl (zt rfl rfl (ze rfl rfl (za rfl ?_)))
       refine WL.nil (kr35 _ _ _ (kh30 ?_))
       refine zc fun _ kh42 => Sr fun _ kh43 => zm rfl (zz (kh43 ?_))
       refine CW.cond rfl (fun hc7 => ?_) (fun hc7 => ?_)
       ·
        try simp only [qs] at hc7
        have hon := decide_eq_true hc7
        refine CW.region fun kR45 kr45 => ?_
        refine zm rfl ?_
        first | refine WL.ev (Ev.add64In (b := 1) rfl rfl (by omega)) rfl ?_ | refine WL.ev (Ev.add64 (b := 1) rfl rfl) rfl ?_
        refine za rfl ?_
        refine WL.nil (kr45 _ _ _ (kh42 ?_))
        refine Sr fun _ kh46 => zm rfl (za rfl (zz (kh46 ?_)))
        refine CW.ret ?_
        refine bodyA.ret1 rfl rfl ?_
        exact ⟨f + 1, rfl, near_of hft' hlo hhi' hne (on := true) (by first | exact hup | exact hup.trans hon) rfl, by omega, hch⟩
       ·
        try simp only [qs] at hc7
        have hon := decide_eq_false hc7
        refine CW.skip ?_
        refine kh42 (Sr fun _ kh48 => zm rfl (za rfl (zz (kh48 ?_))))
        refine CW.ret ?_
        refine bodyA.ret1 rfl rfl ?_
        exact ⟨f, rfl, near_of hft' hlo hhi' hne (on := false) (by first | exact hup | exact hup.trans hon) rfl, by omega, hch⟩
      ·
       try simp only [qs] at hg6
       have hup : upM mode x.neg f A ((nz f + nz (f + 1)) * B) = false := by
        rw [← hM, hmo, up_even, decide_eq_false (show ¬ M < A by omega), decide_eq_false (show ¬ M = A by omega)]; rfl
       refine zv rfl (zv rfl (zv rfl (zw rfl (ze rfl rfl (ze rfl rfl (za rfl ?_))))))
       refine WL.nil (kr35 _ _ _ (kh30 ?_))
       refine zc fun _ kh50 => Sr fun _ kh51 => zm rfl (zz (kh51 ?_))
       refine CW.condF rfl ?_
       refine CW.skip ?_
       refine kh50 (Sr fun _ kh53 => zm rfl (za rfl (zz (kh53 ?_))))
       refine CW.ret ?_
       refine bodyA.ret1 rfl rfl ?_
       exact ⟨f, rfl, near_of hft' hlo hhi' hne (on := false) (by first | exact hup | exact hup.trans hon) rfl, by omega, hch⟩
    ·
     try simp only [qs] at hc4
     refine Sr fun _ kh55 => zq rfl rfl (za rfl (zz (kh55 ?_)))
     refine CW.cond rfl (fun hc8 => ?_) (fun hc8 => ?_)
     ·
      try simp only [qs] at hc8
      have hmo : mode = 2 := hc8
      have hup : upM mode x.neg f A ((nz f + nz (f + 1)) * B) = !x.neg := by rw [hmo, up_up]
      refine CW.region fun kR57 kr57 => ?_
      refine zf rfl (zf rfl (zl hb5 rfl rfl ?_))
      refine WL.ev (Ev.not rfl) rfl ?_
      refine za rfl ?_
      refine WL.nil (kr57 _ _ _ (kh30 ?_))
      refine zc fun _ kh58 => Sr fun _ kh59 => zm rfl (zz (kh59 ?_))
      refine CW.cond rfl (fun hc9 => ?_) (fun hc9 => ?_)
      ·
       try simp only [qs] at hc9
       have hon : (!x.neg) = true := by simpa using hc9
       refine CW.region fun kR61 kr61 => ?_
       refine zm rfl ?_
       first | refine WL.ev (Ev.add64In (b := 1) rfl rfl (by omega)) rfl ?_ | refine WL.ev (Ev.add64 (b := 1) rfl rfl) rfl ?_
       refine za rfl ?_
       refine WL.nil (kr61 _ _ _ (kh58 ?_))
       refine Sr fun _ kh62 => zm rfl (za rfl (zz (kh62 ?_)))
       refine CW.ret ?_
       refine bodyA.ret1 rfl rfl ?_
       exact ⟨f + 1, rfl, near_of hft' hlo hhi' hne (on := true) (by first | exact hup | exact hup.trans hon) rfl, by omega, hch⟩
      ·
       try simp only [qs] at hc9
       have hon : (!x.neg) = false := by simpa using hc9
       refine CW.skip ?_
       refine kh58 (Sr fun _ kh64 => zm rfl (za rfl (zz (kh64 ?_))))
       refine CW.ret ?_
       refine bodyA.ret1 rfl rfl ?_
       exact ⟨f, rfl, near_of hft' hlo hhi' hne (on := false) (by first | exact hup | exact hup.trans hon) rfl, by omega, hch⟩
     ·
      try simp only [qs] at hc8
      refine Sr fun _ kh66 => zq rfl rfl (za rfl (zz (kh66 ?_)))
      refine CW.cond rfl (fun hc10 => ?_) (fun hc10 => ?_)
      ·
       try simp only [qs] at hc10
       have hmo : mode = 3 := hc10
       have hup : upM mode x.neg f A ((nz f + nz (f + 1)) * B) = x.neg := by rw [hmo, up_down]
       refine CW.region fun kR68 kr68 => ?_
       refine zf rfl (zf rfl (zl hb5 rfl rfl (za rfl ?_)))
       refine WL.nil (kr68 _ _ _ (kh30 ?_))
       refine zc fun _ kh69 => Sr fun _ kh70 => zm rfl (zz (kh70 ?_))
       refine CW.cond rfl (fun hc11 => ?_) (fun hc11 => ?_)
       ·
        try simp only [qs] at hc11
        have hon : x.neg = true := by simpa using hc11
        refine CW.region fun kR72 kr72 => ?_
        refine zm rfl ?_
        first | refine WL.ev (Ev.add64In (b := 1) rfl rfl (by omega)) rfl ?_ | refine WL.ev (Ev.add64 (b := 1) rfl rfl) rfl ?_
        refine za rfl ?_
        refine WL.nil (kr72 _ _ _ (kh69 ?_))
        refine Sr fun _ kh73 => zm rfl (za rfl (zz (kh73 ?_)))
        refine CW.ret ?_
        refine bodyA.ret1 rfl rfl ?_
        exact ⟨f + 1, rfl, near_of hft' hlo hhi' hne (on := true) (by first | exact hup | exact hup.trans hon) rfl, by omega, hch⟩
       ·
        try simp only [qs] at hc11
        have hon : x.neg = false := by simpa using hc11
        refine CW.skip ?_
        refine kh69 (Sr fun _ kh75 => zm rfl (za rfl (zz (kh75 ?_))))
        refine CW.ret ?_
        refine bodyA.ret1 rfl rfl ?_
        exact ⟨f, rfl, near_of hft' hlo hhi' hne (on := false) (by first | exact hup | exact hup.trans hon) rfl, by omega, hch⟩
      ·
       try simp only [qs] at hc10
       refine Sr fun _ kh77 => zq rfl rfl (za rfl (zz (kh77 ?_)))
       refine CW.cond rfl (fun hc12 => ?_) (fun hc12 => ?_)
       ·
        try simp only [qs] at hc12
        have hmo : mode = 4 := hc12
        have hup : upM mode x.neg f A ((nz f + nz (f + 1)) * B) = decide (h ≤ 0) := by rw [← hM, hmo, up_away]; exact decide_eq_decide.2 hs1.symm
        refine CW.region fun kR79 kr79 => ?_
        refine zm rfl ?_
        refine WL.ev (Ev.leq rfl rfl) rfl ?_
        refine za rfl ?_
        refine WL.nil (kr79 _ _ _ (kh30 ?_))
        refine zc fun _ kh80 => Sr fun _ kh81 => zm rfl (zz (kh81 ?_))
        refine CW.cond rfl (fun hc13 => ?_) (fun hc13 => ?_)
        ·
         try simp only [qs] at hc13
         have hon : decide (h ≤ 0) = true := decide_eq_true (by have := hc13; omega)
         refine CW.region fun kR83 kr83 => ?_
         refine zm rfl ?_
         first | refine WL.ev (Ev.add64In (b := 1) rfl rfl (by omega)) rfl ?_ | refine WL.ev (Ev.add64 (b := 1) rfl rfl) rfl ?_
         refine za rfl ?_
         refine WL.nil (kr83 _ _ _ (kh80 ?_))
         refine Sr fun _ kh84 => zm rfl (za rfl (zz (kh84 ?_)))
         refine CW.ret ?_
         refine bodyA.ret1 rfl rfl ?_
         exact ⟨f + 1, rfl, near_of hft' hlo hhi' hne (on := true) (by first | exact hup | exact hup.trans hon) rfl, by omega, hch⟩
        ·
         try simp only [qs] at hc13
         have hon : decide (h ≤ 0) = false := decide_eq_false (by have := hc13; omega)
         refine CW.skip ?_
         refine kh80 (Sr fun _ kh86 => zm rfl (za rfl (zz (kh86 ?_))))
         refine CW.ret ?_
         refine bodyA.ret1 rfl rfl ?_
         exact ⟨f, rfl, near_of hft' hlo hhi' hne (on := false) (by first | exact hup | exact hup.trans hon) rfl, by omega, hch⟩
       ·
        try simp only [qs] at hc12
        have hmo : mode = 1 := by omega
        have hup : upM mode x.neg f A ((nz f + nz (f + 1)) * B) = false := by rw [hmo, up_zero]
        refine CW.skip ?_
        refine kh30 (zc fun _ kh88 => Sr fun _ kh89 => zm rfl (zz (kh89 ?_)))
        refine CW.condF rfl ?_
        refine CW.skip ?_
        refine kh88 (Sr fun _ kh91 => zm rfl (za rfl (zz (kh91 ?_))))
        refine CW.ret ?_
        refine bodyA.ret1 rfl rfl ?_
        exact ⟨f, rfl, near_of hft' hlo hhi' hne (on := false) (by first | exact hup | exact hup.trans hon) rfl, by omega, hch⟩

end Go.Proofs.YtphnpchmdpjabaaGreatDoor

/- Reference of layer 11: rounded, Quot. No condition. -/
namespace Go.Proofs.YtphnpchmdpjabaaGreatDoor
open Go Sx Wd

/-- What rounded answers. -/
def RdP (u : Value) (nn nd : Bool) (ln ld : Nat) (en ed mode : Int) : Prop :=
  (¬ (0 ≤ mode ∧ mode ≤ 4) ∧ u = .tuple [.int .u64 0, .bool false, .int .i64 1].toArray) ∨ ((0 ≤ mode ∧ mode ≤ 4) ∧
    ((sgD nd ld < 0 ∧ u = .tuple [.int .u64 0, .bool false, .int .i64 1].toArray) ∨ (0 ≤ sgD nd ld ∧ (formD nn ln en = none ∨ formD nd ld ed = none) ∧ u = .tuple [.int .u64 0, .bool false, .int .i64 2].toArray) ∨
     (0 ≤ sgD nd ld ∧ ∃ x y, formD nn ln en = some x ∧ formD nd ld ed = some y ∧ ((y.m = 0 ∧ u = .tuple [.int .u64 0, .bool false, .int .i64 21].toArray) ∨
       (y.m ≠ 0 ∧ ∃ r : Nat, IsNear (dyA x.m (x.e - y.e)) (y.m * dyB (x.e - y.e)) x.neg mode r ∧ r ≤ 9218868437227405312 ∧ u = .tuple [.int .u64 (r : Int), .bool x.neg, .int .i64 0].toArray)))))

set_option maxRecDepth 8000 in
set_option maxHeartbeats 2000000 in
theorem r11rounded_spec (nn nd : Bool) (vn vd : Value) (ln ld : List Nat) (en ed : Int) (mode : Int) (w : World) (hn : NU w vn ln) (hd : NU w vd ld) (hen : -9223372036854775808 ≤ en ∧ en ≤ 9223372036854775807) (hed : -9223372036854775808 ≤ ed ∧ ed ≤ 9223372036854775807) (hln : ln.length ≤ 34359738368) (hld : ld.length ≤ 34359738368) : Ret Tryz.prog 81 [.agg [.int .i64 53, .int .i64 (-1074), .int .u64 9218868437227405312].toArray, .agg [.bool nn, vn, .int .i64 en, .bool nd, vd, .int .i64 ed].toArray, .bool false, .int .i64 mode] w fun u w' => RdP u nn nd (val ln) (val ld) en ed mode ∧ Chg [] w w' := by
 have hch : Chg [] w w := Chg.refl _ _
 have hon1 := hn.one
 have hod1 := hd.one
 refine Ret.enter Tryz.func81 rfl rfl ?_
 simp only [args0, Nat.zero_add, Nat.reduceAdd]
 refine Sr fun _ kh1 => ?_
 refine WL.boxB rfl rfl rfl fun b4 wm4 hb4 hcm4 hge4 => ?_
 have hgehch4 := Nat.le_trans hch.size hge4
 have hch := hch.trans (Chg.any hcm4)
 have hn := hn.keep0 hcm4
 have hd := hd.keep0 hcm4
 refine WL.boxB rfl rfl rfl fun b5 wm5 hb5 hcm5 hge5 => ?_
 have hgehch5 := Nat.le_trans hch.size hge5
 have hch := hch.trans (Chg.any hcm5)
 have hn := hn.keep0 hcm5
 have hd := hd.keep0 hcm5
 have hneb45 : b4 ≠ b5 := by have := hb4.lt; omega
 have hb4 := hb4.keep0 hcm5
 refine za rfl (za rfl (za rfl (zz (kh1 (zc fun _ kh3 => ?_)))))
 refine CW.seqM 18 (decide (mode < 0 ∨ 4 < mode)) ?_ ?_
 ·
  refine CW.region fun kR4 kr4 => ?_
  refine zm rfl ?_
  refine WL.ev (Ev.lss rfl rfl) rfl ?_
  refine zm rfl ?_
  refine WL.boolCase (fun hg1 => ?_) (fun hg1 => ?_)
  ·
   try simp only [qs] at hg1
   refine zv rfl (zv rfl (zt rfl rfl ?_))
   refine WL.nil (kr4 _ _ _ ?_)
   refine ⟨rfl, rfl, Subs.consB rfl ?_ ?_⟩
   ·
    first | (simp; omega) | (simp_all; done) | (refine decide_eq_decide.2 ?_; omega)
   ·
    exact SMg
  ·
   try simp only [qs] at hg1
   refine zw rfl (zm rfl (zw rfl ?_))
   refine WL.ev (Ev.gtr rfl rfl) rfl ?_
   refine ze rfl rfl ?_
   refine WL.nil (kr4 _ _ _ ?_)
   refine ⟨rfl, rfl, Subs.consB rfl ?_ ?_⟩
   ·
    first | (simp; omega) | (simp_all; done) | (refine decide_eq_decide.2 ?_; omega)
   ·
    exact SMg
 ·
  refine CW.cond rfl (fun hc2 => ?_) (fun hc2 => ?_)
  ·
   try simp only [qs] at hc2
   have hm := hc2
   refine Sr fun _ kh5 => za rfl (za rfl (za rfl (zz (kh5 ?_))))
   refine CW.ret ?_
   refine bodyA.ret3 rfl rfl rfl rfl ?_
   exact ⟨.inl ⟨by omega, rfl⟩, hch⟩
  ·
   try simp only [qs] at hc2
   have hm : 0 ≤ mode ∧ mode ≤ 4 := by have := hc2; omega
   refine CW.skip ?_
   refine kh3 (Sr fun _ kh7 => zg hb5 rfl ?_)
   refine WL.buildSlice (m := 1) (cs := [.bool nn, vn, .int .i64 en, .bool nd, vd, .int .i64 ed]) (by decide) (by decide) rfl (by kernel_rfl) rfl fun b21 w21 hn21 => ?_
   have hcm21 := hn21.chg
   have hb21 : BK w21 b21 _ [.bool nn, vn, .int .i64 en, .bool nd, vd, .int .i64 ed] := hn21.at_
   have hge21 := hn21.ge
   have hch := hch.trans hcm21
   have hn := hn.keep0 hcm21
   have hd := hd.keep0 hcm21
   have hb4 := hb4.keep0 hcm21
   have hb5 := hb5.keep0 hcm21
   refine WL.call hasF127 rfl rfl (r11may_spec b21 _ _ _ _ _ _ _ _ _ hb21 hn hd hen hed hln hld) fun v w1 h' => ?_
   obtain ⟨hD, hC22⟩ := h'
   have hch := hch.trans (Chg.any hC22)
   have hb4 := hb4.keep0 hC22
   have hb5 := hb5.keep0 hC22
   have hn := hn.keep0 hC22
   have hd := hd.keep0 hC22
   rcases hD with ⟨hs, rfl⟩ | ⟨hs, hno, rfl⟩ | ⟨hs, dx, dy, hex, hey, hy0, rfl⟩ | ⟨hs, dx, dy, hex, hey, hy0, gg, cc, rx, ry, rfl, hrc, hNx, hNy⟩
   ·
    refine zm rfl (zx rfl rfl (zx rfl rfl (za rfl (za rfl (zz (kh7 (zc fun _ kh9 => Sr fun _ kh10 => zm rfl ?_)))))))
    refine WL.ev (Ev.neq rfl rfl) rfl ?_
    refine zz (kh10 ?_)
    refine CW.condT rfl ?_
    refine Sr fun _ kh12 => zm rfl (za rfl (za rfl (za rfl (zz (kh12 ?_)))))
    refine CW.ret ?_
    refine bodyA.ret3 rfl rfl rfl rfl ?_
    exact ⟨.inr ⟨hm, .inl ⟨hs, rfl⟩⟩, hch⟩
   ·
    refine zm rfl (zx rfl rfl (zx rfl rfl (za rfl (za rfl (zz (kh7 (zc fun _ kh14 => Sr fun _ kh15 => zm rfl ?_)))))))
    refine WL.ev (Ev.neq rfl rfl) rfl ?_
    refine zz (kh15 ?_)
    refine CW.condT rfl ?_
    refine Sr fun _ kh17 => zm rfl (za rfl (za rfl (za rfl (zz (kh17 ?_)))))
    refine CW.ret ?_
    refine bodyA.ret3 rfl rfl rfl rfl ?_
    exact ⟨.inr ⟨hm, .inr (.inl ⟨hs, hno, rfl⟩)⟩, hch⟩
   ·
    refine zm rfl (zx rfl rfl (zx rfl rfl (za rfl (za rfl (zz (kh7 (zc fun _ kh19 => Sr fun _ kh20 => zm rfl ?_)))))))
    refine WL.ev (Ev.neq rfl rfl) rfl ?_
    refine zz (kh20 ?_)
    refine CW.condT rfl ?_
    refine Sr fun _ kh22 => zm rfl (za rfl (za rfl (za rfl (zz (kh22 ?_)))))
    refine CW.ret ?_
    refine bodyA.ret3 rfl rfl rfl rfl ?_
    exact ⟨.inr ⟨hm, .inr (.inr ⟨hs, dx, dy, hex, hey, .inl ⟨hy0, rfl⟩⟩)⟩, hch⟩
   ·
    have hokx := formD_ok hex
    have hoky := formD_ok hey
    have hrl := hrc.lt (by simp [ratC])
    refine zm rfl (zx rfl rfl (zx rfl rfl (za rfl (za rfl (zz (kh7 (zc fun _ kh24 => Sr fun _ kh25 => zm rfl ?_)))))))
    refine WL.ev (Ev.neq rfl rfl) rfl ?_
    refine zz (kh25 ?_)
    refine CW.condF rfl ?_
    refine CW.skip ?_
    refine kh24 (zc fun _ kh27 => Sr fun _ kh28 => zm rfl (zm rfl (zv rfl (zv rfl (zv rfl (zv rfl (zv rfl (ze rfl rfl (zz (kh28 ?_))))))))))
    refine CW.condF rfl ?_
    refine CW.skip ?_
    refine kh27 (zc fun _ kh30 => ?_)
    refine CW.regionHC 15 rfl hmix fun kR31 kr31 hS hdr => ?_
    have hch := hch.trans (Chg.any hdr)
    have hb4 := hb4.keep0 hdr
    have hb5 := hb5.keep0 hdr
    have hn := hn.keep0 hdr
    have hd := hd.keep0 hdr
    have hrc := hrc.keep0 hdr
    have hNx := hNx.keep0 hdr
    have hNy := hNy.keep0 hdr
    have hch_r := hch
    have hb4_r := hb4
    have hb5_r := hb5
    have hrc_r := hrc
    refine wh 0 rfl hS (fun _ hw' => Ev.loadA rfl rfl (hb4_r.keep0 hw') rfl) (wh 1 rfl hS (fun _ _ => Ev.move rfl) (wh 2 rfl hS (fun _ _ => Ev.indexAddr (i := 0) rfl rfl (by decide) (by decide)) (wh 3 rfl hS (fun _ hw' => Ev.loadAgg (cs := ratC dx dy rx ry) rfl rfl rfl (hrc_r.keep0 hw')) ?_)))
    unfold ratC
    refine wh 4 rfl hS (fun _ _ => Ev.move rfl) (wh 5 rfl hS (fun _ _ => Ev.move rfl) (wh 7 rfl hS (fun _ _ => Ev.move rfl) (wh 8 rfl hS (fun _ _ => Ev.indexAddr (i := 0) rfl rfl (by decide) (by decide)) (wh 9 rfl hS (fun _ _ => Ev.fieldAddr rfl) (wh 10 rfl hS (fun _ _ => Ev.fieldAddr rfl) (wh 11 rfl hS (fun _ hw' => Ev.load (v := .bool dx.neg) rfl rfl ((hrc_r.keep0 hw') 0 _ rfl)) ?_))))))
    refine WH.oneCall 6 rfl (by kernel_rfl) hasF128 rfl rfl (r11Nearby_spec dx dy rx ry mode _ hm hNx hNy hokx hoky) fun v w2 h' => ?_
    obtain ⟨r, rfl, hNr, hr, hC⟩ := h'
    have hch := hch.trans (Chg.any hC)
    have hb4 := hb4.keep0 hC
    have hb5 := hb5.keep0 hC
    have hn := hn.keep0 hC
    have hd := hd.keep0 hC
    have hrc := hrc.keep0 hC
    have hNx := hNx.keep0 hC
    have hNy := hNy.keep0 hC
    have hS := hS.trans hC
    refine ⟨hS, ?_⟩
    refine wh 12 rfl hS (fun _ _ => Ev.assign rfl) (wh 13 rfl hS (fun _ _ => Ev.assign rfl) (wh 14 rfl hS (fun _ _ => Ev.assign rfl) ?_))
    refine WH.done (by kernel_rfl) (kr31 _ _ _ ?_)
    refine kh30 ?_
    refine CW.ret ?_
    refine bodyA.ret3 rfl rfl rfl rfl ?_
    exact ⟨.inr ⟨hm, .inr (.inr ⟨hs, dx, dy, hex, hey, .inr ⟨hy0, r, hNr, hr, rfl⟩⟩)⟩, hch⟩

set_option maxRecDepth 8000 in
set_option maxHeartbeats 2000000 in
theorem r11wide64_spec (k : Nat) (neg : Bool) (e : Int) (w : World) (hk : k ≤ 9218868437227405312) : Ret Tryz.prog 83 [.int .u64 (k : Int), .bool neg, .int .i64 e] w fun u w' => u = .tuple [.float .f64 (if neg then k + 9223372036854775808 else k), .int .i64 e].toArray ∧ w = w' := by
 refine Ret.enter Tryz.func83 rfl rfl ?_
 simp only [args0, Nat.zero_add, Nat.reduceAdd]
 refine Sr fun _ kh1 => za rfl (za rfl (zz (kh1 (zc fun _ kh3 => Sr fun _ kh4 => zm rfl (zz (kh4 ?_))))))
 refine CW.cond rfl (fun hc1 => ?_) (fun hc1 => ?_)
 ·
  try simp only [qs] at hc1
  have hng := hc1
  refine CW.region fun kR6 kr6 => ?_
  refine zm rfl ?_
  refine WL.ev (Ev.add64In (b := 9223372036854775808) rfl rfl (by omega)) rfl ?_
  refine za rfl ?_
  refine WL.nil (kr6 _ _ _ (kh3 ?_))
  refine Sr fun _ kh7 => zm rfl ?_
  refine WL.ev (Ev.ext rfl (ext53 _ _)) rfl ?_
  refine zm rfl (za rfl (za rfl (zz (kh7 ?_))))
  refine CW.ret ?_
  refine bodyA.ret2 rfl rfl rfl ?_
  rw [if_pos hng]
  exact ⟨rfl, rfl⟩
 ·
  try simp only [qs] at hc1
  have hng := hc1
  refine CW.skip ?_
  refine kh3 (Sr fun _ kh9 => zm rfl ?_)
  refine WL.ev (Ev.ext rfl (ext53 _ _)) rfl ?_
  refine zm rfl (za rfl (za rfl (zz (kh9 ?_))))
  refine CW.ret ?_
  refine bodyA.ret2 rfl rfl rfl ?_
  rw [if_neg (by rw [hng]; decide)]
  exact ⟨rfl, rfl⟩

set_option maxRecDepth 8000 in
set_option maxHeartbeats 2000000 in
theorem r11Quot_spec (nn nd : Bool) (vn vd : Value) (ln ld : List Nat) (en ed : Int) (mode : Int) (w : World) (hn : NU w vn ln) (hd : NU w vd ld) (hen : -9223372036854775808 ≤ en ∧ en ≤ 9223372036854775807) (hed : -9223372036854775808 ≤ ed ∧ ed ≤ 9223372036854775807) (hln : ln.length ≤ 34359738368) (hld : ld.length ≤ 34359738368) : Ret Tryz.prog 38 [.agg [.bool nn, vn, .int .i64 en, .bool nd, vd, .int .i64 ed].toArray, .int .i64 mode] w fun u w' => (∃ bits e, u = .tuple [.float .f64 bits, .int .i64 e].toArray ∧ QuotP nn nd (val ln) (val ld) en ed mode bits e) ∧ Chg [] w w' := by
 have hch : Chg [] w w := Chg.refl _ _
 have hon1 := hn.one
 have hod1 := hd.one
 refine Ret.enter Tryz.func38 rfl rfl ?_
 simp only [args0, Nat.zero_add, Nat.reduceAdd]
 refine Sr fun _ kh1 => ?_
 refine WL.boxB rfl rfl rfl fun b2 wm2 hb2 hcm2 hge2 => ?_
 have hgehch2 := Nat.le_trans hch.size hge2
 have hch := hch.trans (Chg.any hcm2)
 have hn := hn.keep0 hcm2
 have hd := hd.keep0 hcm2
 refine za rfl (za rfl (zz (kh1 (zc fun _ kh3 => ?_))))
 refine CW.regionHC 11 rfl hmix fun kR4 kr4 hS hdr => ?_
 have hch := hch.trans (Chg.any hdr)
 have hb2 := hb2.keep0 hdr
 have hn := hn.keep0 hdr
 have hd := hd.keep0 hdr
 have hch_r := hch
 have hb2_r := hb2
 refine wh 1 rfl hS (fun _ hw' => Ev.loadA rfl rfl (hb2_r.keep0 hw') rfl) (wh 2 rfl hS (fun _ _ => Ev.move rfl) ?_)
 refine WH.oneCall 0 rfl (by kernel_rfl) hasF82 rfl rfl (r3Of64_spec _) fun v w1 h' => ?_
 obtain ⟨rfl, hC⟩ := h'
 have hch := hch.trans (Chg.any hC)
 have hb2 := hb2.keep0 hC
 have hn := hn.keep0 hC
 have hd := hd.keep0 hC
 have hS := hS.trans hC
 refine ⟨hS, ?_⟩
 refine WH.oneCall 3 rfl (by kernel_rfl) hasF81 rfl rfl (r11rounded_spec _ _ _ _ _ _ _ _ mode _ hn hd hen hed hln hld) fun v w2 h' => ?_
 obtain ⟨hD, hC13⟩ := h'
 have hch := hch.trans (Chg.any hC13)
 have hb2 := hb2.keep0 hC13
 have hn := hn.keep0 hC13
 have hd := hd.keep0 hC13
 have hS := hS.trans hC13
 refine ⟨hS, ?_⟩
 rcases hD with ⟨hm, rfl⟩ | ⟨hm, ⟨hs, rfl⟩ | ⟨hs, hno, rfl⟩ | ⟨hs, dx, dy, hex, hey, ⟨hy0, rfl⟩ | ⟨hy0, r, hNr, hr, rfl⟩⟩⟩
 ·
  refine wh 4 rfl hS (fun _ _ => Ev.move rfl) (wh 5 rfl hS (fun _ _ => Ev.extract rfl rfl) (wh 6 rfl hS (fun _ _ => Ev.extract rfl rfl) (wh 7 rfl hS (fun _ _ => Ev.extract rfl rfl) (wh 8 rfl hS (fun _ _ => Ev.assign rfl) (wh 9 rfl hS (fun _ _ => Ev.assign rfl) (wh 10 rfl hS (fun _ _ => Ev.assign rfl) ?_))))))
  refine WH.done (by kernel_rfl) (kr4 _ _ _ ?_)
  refine kh3 (Sr fun _ kh5 => zm rfl (zm rfl (zm rfl ?_)))
  refine WL.call hasF83 rfl rfl (r11wide64_spec 0 false 1 _ (by omega)) fun v w3 h' => ?_
  obtain ⟨rfl, rfl⟩ := h'
  refine zx rfl rfl (zx rfl rfl (za rfl (za rfl (zz (kh5 ?_)))))
  refine CW.ret ?_
  refine bodyA.ret2 rfl rfl rfl ?_
  exact ⟨⟨_, _, rfl, .inl ⟨hm, rfl, rfl⟩⟩, hch⟩
 ·
  refine wh 4 rfl hS (fun _ _ => Ev.move rfl) (wh 5 rfl hS (fun _ _ => Ev.extract rfl rfl) (wh 6 rfl hS (fun _ _ => Ev.extract rfl rfl) (wh 7 rfl hS (fun _ _ => Ev.extract rfl rfl) (wh 8 rfl hS (fun _ _ => Ev.assign rfl) (wh 9 rfl hS (fun _ _ => Ev.assign rfl) (wh 10 rfl hS (fun _ _ => Ev.assign rfl) ?_))))))
  refine WH.done (by kernel_rfl) (kr4 _ _ _ ?_)
  refine kh3 (Sr fun _ kh7 => zm rfl (zm rfl (zm rfl ?_)))
  refine WL.call hasF83 rfl rfl (r11wide64_spec 0 false 1 _ (by omega)) fun v w4 h' => ?_
  obtain ⟨rfl, rfl⟩ := h'
  refine zx rfl rfl (zx rfl rfl (za rfl (za rfl (zz (kh7 ?_)))))
  refine CW.ret ?_
  refine bodyA.ret2 rfl rfl rfl ?_
  exact ⟨⟨_, _, rfl, .inr ⟨hm, .inl ⟨hs, rfl, rfl⟩⟩⟩, hch⟩
 ·
  refine wh 4 rfl hS (fun _ _ => Ev.move rfl) (wh 5 rfl hS (fun _ _ => Ev.extract rfl rfl) (wh 6 rfl hS (fun _ _ => Ev.extract rfl rfl) (wh 7 rfl hS (fun _ _ => Ev.extract rfl rfl) (wh 8 rfl hS (fun _ _ => Ev.assign rfl) (wh 9 rfl hS (fun _ _ => Ev.assign rfl) (wh 10 rfl hS (fun _ _ => Ev.assign rfl) ?_))))))
  refine WH.done (by kernel_rfl) (kr4 _ _ _ ?_)
  refine kh3 (Sr fun _ kh9 => zm rfl (zm rfl (zm rfl ?_)))
  refine WL.call hasF83 rfl rfl (r11wide64_spec 0 false 2 _ (by omega)) fun v w5 h' => ?_
  obtain ⟨rfl, rfl⟩ := h'
  refine zx rfl rfl (zx rfl rfl (za rfl (za rfl (zz (kh9 ?_)))))
  refine CW.ret ?_
  refine bodyA.ret2 rfl rfl rfl ?_
  exact ⟨⟨_, _, rfl, .inr ⟨hm, .inr (.inl ⟨hs, hno, rfl, rfl⟩)⟩⟩, hch⟩
 ·
  refine wh 4 rfl hS (fun _ _ => Ev.move rfl) (wh 5 rfl hS (fun _ _ => Ev.extract rfl rfl) (wh 6 rfl hS (fun _ _ => Ev.extract rfl rfl) (wh 7 rfl hS (fun _ _ => Ev.extract rfl rfl) (wh 8 rfl hS (fun _ _ => Ev.assign rfl) (wh 9 rfl hS (fun _ _ => Ev.assign rfl) (wh 10 rfl hS (fun _ _ => Ev.assign rfl) ?_))))))
  refine WH.done (by kernel_rfl) (kr4 _ _ _ ?_)
  refine kh3 (Sr fun _ kh11 => zm rfl (zm rfl (zm rfl ?_)))
  refine WL.call hasF83 rfl rfl (r11wide64_spec 0 false 21 _ (by omega)) fun v w6 h' => ?_
  obtain ⟨rfl, rfl⟩ := h'
  refine zx rfl rfl (zx rfl rfl (za rfl (za rfl (zz (kh11 ?_)))))
  refine CW.ret ?_
  refine bodyA.ret2 rfl rfl rfl ?_
  exact ⟨⟨_, _, rfl, .inr ⟨hm, .inr (.inr ⟨hs, dx, dy, hex, hey, .inl ⟨hy0, rfl, rfl⟩⟩)⟩⟩, hch⟩
 ·
  refine wh 4 rfl hS (fun _ _ => Ev.move rfl) (wh 5 rfl hS (fun _ _ => Ev.extract rfl rfl) (wh 6 rfl hS (fun _ _ => Ev.extract rfl rfl) (wh 7 rfl hS (fun _ _ => Ev.extract rfl rfl) (wh 8 rfl hS (fun _ _ => Ev.assign rfl) (wh 9 rfl hS (fun _ _ => Ev.assign rfl) (wh 10 rfl hS (fun _ _ => Ev.assign rfl) ?_))))))
  refine WH.done (by kernel_rfl) (kr4 _ _ _ ?_)
  refine kh3 (Sr fun _ kh13 => zm rfl (zm rfl (zm rfl ?_)))
  refine WL.call hasF83 rfl rfl (r11wide64_spec r dx.neg 0 _ (by omega)) fun v w7 h' => ?_
  obtain ⟨rfl, rfl⟩ := h'
  refine zx rfl rfl (zx rfl rfl (za rfl (za rfl (zz (kh13 ?_)))))
  refine CW.ret ?_
  refine bodyA.ret2 rfl rfl rfl ?_
  exact ⟨⟨_, _, rfl, .inr ⟨hm, .inr (.inr ⟨hs, dx, dy, hex, hey, .inr ⟨hy0, r, hNr, hr, rfl, rfl⟩⟩)⟩⟩, hch⟩

end Go.Proofs.YtphnpchmdpjabaaGreatDoor

/- Reference of layer 1: parts, classes. No condition. -/
namespace Go.Proofs.YtphnpchmdpjabaaGreatDoor
open Go Sx Wd

set_option maxRecDepth 8000 in
set_option maxHeartbeats 2000000 in
theorem r1parts_spec (x : Nat) (w : World) (hx : x < 18446744073709551616) : Ret Tryz.prog 176 [.int .u64 (x : Int), .int .i64 11, .int .i64 52] w fun u w' => u = .agg [.bool (splitP x).neg, .int .i64 ((splitP x).cls : Int), .int .i64 (splitP x).exp, .int .u64 ((splitP x).frac : Int)].toArray ∧ Chg [] w w' := by
 have hch : Chg [] w w := Chg.refl _ _
 refine Ret.enter Tryz.func176 rfl rfl ?_
 simp only [args0, Nat.zero_add, Nat.reduceAdd]
 refine Sr fun _ kh1 => ?_
 refine WL.allocB (l := [.bool false, .int .i64 0, .int .i64 0, .int .u64 0]) rfl rfl fun b6 wm6 hb6 hcm6 hge6 => ?_
 have hgehch6 := Nat.le_trans hch.size hge6
 have hch := hch.trans (Chg.any hcm6)
 refine zz (kh1 (Sr fun _ kh3 => zm rfl (zm rfl ?_)))
 refine WL.ev (Ev.convIn rfl rfl (in_u64 (by omega))) rfl ?_
 refine WL.ev (Ev.shrU (b := 52) rfl rfl (by simp only [IntKind.bits]; omega)) rfl ?_
 rw [show x / 2 ^ 52 = x / 4503599627370496 from rfl]
 refine zm rfl ?_
 refine WL.ev (Ev.convIn rfl rfl (in_u64 (by omega))) rfl ?_
 refine WL.ev (Ev.shlU64 (a := 1) (b := 11) rfl rfl) rfl ?_
 rw [show 1 * 2 ^ 11 % 18446744073709551616 = 2048 from rfl]
 refine WL.ev (Ev.remU (b := 2048) rfl rfl (by omega)) rfl ?_
 refine WL.ev (Ev.convIn rfl rfl (in_i64 (by omega))) rfl ?_
 refine za rfl (zz (kh3 (Sr fun _ kh5 => zm rfl (zm rfl ?_))))
 refine WL.ev (Ev.convIn rfl rfl (in_u64 (by omega))) rfl ?_
 refine WL.ev (Ev.shlU64 (a := 1) (b := 52) rfl rfl) rfl ?_
 rw [show 1 * 2 ^ 52 % 18446744073709551616 = 4503599627370496 from rfl]
 refine WL.ev (Ev.remU (b := 4503599627370496) rfl rfl (by omega)) rfl ?_
 refine za rfl (zz (kh5 (Sr fun _ kh7 => zm rfl (zm rfl (zm rfl ?_)))))
 refine WL.ev (Ev.addIn rfl rfl (by omega)) rfl ?_
 rw [show (11 : Int) + 52 = ((63 : Nat) : Int) by omega]
 refine WL.ev (Ev.convIn rfl rfl (in_u64 (by omega))) rfl ?_
 refine WL.ev (Ev.shrU (b := 63) rfl rfl (by simp only [IntKind.bits]; omega)) rfl ?_
 rw [show x / 2 ^ 63 = x / 9223372036854775808 from rfl]
 refine WL.ev (Ev.remU (b := 2) rfl rfl (by omega)) rfl ?_
 refine zq rfl rfl ?_
 rw [show decide (((x / 9223372036854775808 % 2 : Nat) : Int) = 1) = decide (x / 9223372036854775808 % 2 = 1) from decide_eq_decide.2 (by omega)]
 refine WL.ev (Ev.build (vs := _) (cs := [_, _, _, _]) rfl rfl) rfl ?_
 refine WL.allocB (l := [.bool false, .int .i64 0, .int .i64 0, .int .u64 0]) rfl rfl fun b9 wm9 hb9 hcm9 hge9 => ?_
 have hgehch9 := Nat.le_trans hch.size hge9
 have hch := hch.trans (Chg.any hcm9)
 have hneb69 : b6 ≠ b9 := by have := hb6.lt; omega
 have hb6 := hb6.keep0 hcm9
 refine WL.storeB rfl rfl rfl ao hb9 (by simp) rfl fun ws1 hb9_ hcs1 => ?_
 try simp only [Sx.splice, qt] at hb9_
 have hch := hch.s1 hcs1
 have hb6 := hb6.keep hcs1 (by simp; omega)
 have hb9 := hb9_
 refine zz (kh7 (Sr fun _ kh9 => zm rfl ?_))
 refine WL.ev (Ev.subIn rfl rfl (by omega)) rfl ?_
 rw [show (11 : Int) - 1 = ((10 : Nat) : Int) by omega]
 refine WL.ev (Ev.convIn rfl rfl (in_u64 (by omega))) rfl ?_
 refine WL.ev (Ev.shlI (a := 1) (b := 10) (c := 1024) rfl rfl (by decide) (by decide)) rfl ?_
 refine WL.ev (Ev.subIn rfl rfl (by omega)) rfl ?_
 refine zm rfl ?_
 refine WL.ev (Ev.subIn rfl rfl (by omega)) rfl ?_
 rw [show (2 : Int) - 1024 - 52 = -1074 by omega]
 refine za rfl (zz (kh9 (zc fun _ kh11 => Sr fun _ kh12 => zm rfl (zm rfl ?_))))
 refine WL.ev (Ev.convIn rfl rfl (in_u64 (by omega))) rfl ?_
 refine WL.ev (Ev.shlI (a := 1) (b := 11) (c := 2048) rfl rfl (by decide) (by decide)) rfl ?_
 refine WL.ev (Ev.subIn rfl rfl (by omega)) rfl ?_
 rw [show (2048 : Int) - 1 = ((2047 : Nat) : Int) by omega]
 refine zq rfl rfl (zz (kh12 ?_))
 refine CW.cond rfl (fun hc1 => ?_) (fun hc1 => ?_)
 ·
  try simp only [qs] at hc1
  have k1 : x / 4503599627370496 % 2048 = 2047 := by omega
  refine zc fun _ kh14 => Sr fun _ kh15 => zm rfl ?_
  refine WL.ev (Ev.gtr rfl rfl) rfl ?_
  refine zz (kh15 ?_)
  refine CW.cond rfl (fun hc2 => ?_) (fun hc2 => ?_)
  ·
   try simp only [qs] at hc2
   have k2 : x % 4503599627370496 ≠ 0 := by omega
   refine Sr fun _ kh17 => ?_
   refine WL.ev (Ev.build (vs := _) (cs := [_, _, _, _]) rfl rfl) rfl ?_
   refine WL.storeB rfl rfl rfl ao hb6 (by simp) rfl fun ws2 hb6_ hcs2 => ?_
   try simp only [Sx.splice, qt] at hb6_
   have hch := hch.s1 hcs2
   have hb9 := hb9.keep hcs2 (by simp; omega)
   have hb6 := hb6_
   refine zz (kh17 ?_)
   refine CW.ret ?_
   refine bodyA.retR1 rfl (RVal.cell rfl (hb6.varA rfl rfl)) ?_
   unfold splitP; rw [if_pos ⟨k1, k2⟩]
   exact ⟨rfl, hch⟩
  ·
   try simp only [qs] at hc2
   have k2 : ¬ x % 4503599627370496 ≠ 0 := by omega
   refine CW.skip ?_
   refine kh14 (Sr fun _ kh19 => zf rfl ?_)
   refine WL.storeC rfl rfl o1 hb9 (by simp) rfl fun ws3 hb9_ hcs3 => ?_
   try simp only [Sx.splice, qt] at hb9_
   have hch := hch.s1 hcs3
   have hb6 := hb6.keep hcs3 (by simp; omega)
   have hb9 := hb9_
   refine zz (kh19 (Sr fun _ kh21 => zg hb9 rfl ?_))
   refine WL.storeB rfl rfl rfl ao hb6 (by simp) rfl fun ws4 hb6_ hcs4 => ?_
   try simp only [Sx.splice, qt] at hb6_
   have hch := hch.s1 hcs4
   have hb9 := hb9.keep hcs4 (by simp; omega)
   have hb6 := hb6_
   refine zz (kh21 ?_)
   refine CW.ret ?_
   refine bodyA.retR1 rfl (RVal.cell rfl (hb6.varA rfl rfl)) ?_
   unfold splitP; rw [if_neg (fun q => k2 q.2), if_pos k1]
   exact ⟨rfl, hch⟩
 ·
  try simp only [qs] at hc1
  have k1 : ¬ x / 4503599627370496 % 2048 = 2047 := by omega
  refine CW.skip ?_
  refine kh11 (Sr fun _ kh23 => zm rfl (zf rfl ?_))
  refine WL.storeC rfl rfl o1 hb9 (by simp) rfl fun ws5 hb9_ hcs5 => ?_
  try simp only [Sx.splice, qt] at hb9_
  have hch := hch.s1 hcs5
  have hb6 := hb6.keep hcs5 (by simp; omega)
  have hb9 := hb9_
  refine zz (kh23 (Sr fun _ kh25 => zm rfl (zf rfl ?_)))
  refine WL.storeC rfl rfl o1 hb9 (by simp) rfl fun ws6 hb9_ hcs6 => ?_
  try simp only [Sx.splice, qt] at hb9_
  have hch := hch.s1 hcs6
  have hb6 := hb6.keep hcs6 (by simp; omega)
  have hb9 := hb9_
  refine zz (kh25 (zc fun _ kh27 => ?_))
  refine CW.block ?_
  refine Sr fun _ kh28 => zm rfl ?_
  refine WL.ev (Ev.gtr rfl rfl) rfl ?_
  refine za rfl (zz (kh28 ?_))
  refine CW.cond rfl (fun hc3 => ?_) (fun hc3 => ?_)
  ·
   try simp only [qs] at hc3
   have k3 : 0 < x / 4503599627370496 % 2048 := by omega
   refine Sr fun _ kh30 => zf rfl ?_
   refine WL.storeC rfl rfl o1 hb9 (by simp) rfl fun ws7 hb9_ hcs7 => ?_
   try simp only [Sx.splice, qt] at hb9_
   have hch := hch.s1 hcs7
   have hb6 := hb6.keep hcs7 (by simp; omega)
   have hb9 := hb9_
   refine zz (kh30 (Sr fun _ kh32 => zm rfl (zm rfl ?_)))
   refine WL.ev (Ev.convIn rfl rfl (in_u64 (by omega))) rfl ?_
   refine WL.ev (Ev.shlU64 (a := 1) (b := 52) rfl rfl) rfl ?_
   rw [show 1 * 2 ^ 52 % 18446744073709551616 = 4503599627370496 from rfl]
   refine WL.ev (Ev.add64In rfl rfl (by omega)) rfl ?_
   refine zf rfl ?_
   refine WL.storeC rfl rfl o1 hb9 (by simp) rfl fun ws8 hb9_ hcs8 => ?_
   try simp only [Sx.splice, qt] at hb9_
   have hch := hch.s1 hcs8
   have hb6 := hb6.keep hcs8 (by simp; omega)
   have hb9 := hb9_
   refine zz (kh32 ?_)
   refine CW.region fun kR34 kr34 => ?_
   refine zm rfl (zm rfl ?_)
   refine WL.ev (Ev.addIn rfl rfl (by omega)) rfl ?_
   refine WL.ev (Ev.subIn rfl rfl (by omega)) rfl ?_
   refine zf rfl ?_
   refine WL.storeC rfl rfl o1 hb9 (by simp) rfl fun ws9 hb9_ hcs9 => ?_
   try simp only [Sx.splice, qt] at hb9_
   have hch := hch.s1 hcs9
   have hb6 := hb6.keep hcs9 (by simp; omega)
   have hb9 := hb9_
   refine WL.nil (kr34 _ _ _ (kh27 ?_))
   refine Sr fun _ kh35 => zg hb9 rfl ?_
   refine WL.storeB rfl rfl rfl ao hb6 (by simp) rfl fun ws10 hb6_ hcs10 => ?_
   try simp only [Sx.splice, qt] at hb6_
   have hch := hch.s1 hcs10
   have hb9 := hb9.keep hcs10 (by simp; omega)
   have hb6 := hb6_
   refine zz (kh35 ?_)
   refine CW.ret ?_
   refine bodyA.retR1 rfl (RVal.cell rfl (hb6.varA rfl rfl)) ?_
   unfold splitP; rw [if_neg (fun q => k1 q.1), if_neg k1, if_pos k3]
   exact ⟨rfl, hch⟩
  ·
   try simp only [qs] at hc3
   have k3 : ¬ 0 < x / 4503599627370496 % 2048 := by omega
   refine Sr fun _ kh37 => zm rfl ?_
   refine WL.ev (Ev.gtr rfl rfl) rfl ?_
   refine za rfl (zz (kh37 ?_))
   refine CW.cond rfl (fun hc4 => ?_) (fun hc4 => ?_)
   ·
    try simp only [qs] at hc4
    have k4 : 0 < x % 4503599627370496 := by omega
    refine CW.region fun kR39 kr39 => ?_
    refine zf rfl ?_
    refine WL.storeC rfl rfl o1 hb9 (by simp) rfl fun ws11 hb9_ hcs11 => ?_
    try simp only [Sx.splice, qt] at hb9_
    have hch := hch.s1 hcs11
    have hb6 := hb6.keep hcs11 (by simp; omega)
    have hb9 := hb9_
    refine WL.nil (kr39 _ _ _ (kh27 ?_))
    refine Sr fun _ kh40 => zg hb9 rfl ?_
    refine WL.storeB rfl rfl rfl ao hb6 (by simp) rfl fun ws12 hb6_ hcs12 => ?_
    try simp only [Sx.splice, qt] at hb6_
    have hch := hch.s1 hcs12
    have hb9 := hb9.keep hcs12 (by simp; omega)
    have hb6 := hb6_
    refine zz (kh40 ?_)
    refine CW.ret ?_
    refine bodyA.retR1 rfl (RVal.cell rfl (hb6.varA rfl rfl)) ?_
    unfold splitP; rw [if_neg (fun q => k1 q.1), if_neg k1, if_neg k3, if_pos k4]
    exact ⟨rfl, hch⟩
   ·
    try simp only [qs] at hc4
    have k4 : ¬ 0 < x % 4503599627370496 := by omega
    refine CW.region fun kR42 kr42 => ?_
    refine zf rfl ?_
    refine WL.storeC rfl rfl o1 hb9 (by simp) rfl fun ws13 hb9_ hcs13 => ?_
    try simp only [Sx.splice, qt] at hb9_
    have hch := hch.s1 hcs13
    have hb6 := hb6.keep hcs13 (by simp; omega)
    have hb9 := hb9_
    refine WL.nil (kr42 _ _ _ (kh27 ?_))
    refine Sr fun _ kh43 => zg hb9 rfl ?_
    refine WL.storeB rfl rfl rfl ao hb6 (by simp) rfl fun ws14 hb6_ hcs14 => ?_
    try simp only [Sx.splice, qt] at hb6_
    have hch := hch.s1 hcs14
    have hb9 := hb9.keep hcs14 (by simp; omega)
    have hb6 := hb6_
    refine zz (kh43 ?_)
    refine CW.ret ?_
    refine bodyA.retR1 rfl (RVal.cell rfl (hb6.varA rfl rfl)) ?_
    unfold splitP; rw [if_neg (fun q => k1 q.1), if_neg k1, if_neg k3, if_neg k4, show x % 4503599627370496 = 0 by omega]
    exact ⟨rfl, hch⟩

/-- The bits of a number, of a NaN those of the one NaN. -/
def oneNaN (x : Nat) : Nat := if 9218868437227405312 < x % 9223372036854775808 then 9221120237041090560 else x
theorem oneNaN_lt {x : Nat} (h : x < 18446744073709551616) : oneNaN x < 18446744073709551616 := by unfold oneNaN; split <;> omega
theorem oneNaN_split (x : Nat) : splitP (oneNaN x) = splitP x := by
  unfold oneNaN
  by_cases h : 9218868437227405312 < x % 9223372036854775808
  · rw [if_pos h]
    have : splitP x = ⟨false, 4, 0, 0⟩ := by unfold splitP; rw [if_pos (by omega)]
    rw [this]; rfl
  · rw [if_neg h]

set_option maxRecDepth 8000 in
set_option maxHeartbeats 2000000 in
theorem r1Bits_spec (x : Nat) (w : World) (hx : x < 18446744073709551616) : Ret Tryz.prog 177 [.float .f64 x] w fun u w' => u = .int .u64 (oneNaN x : Int) ∧ w = w' := by
 refine Ret.enter Tryz.func177 rfl rfl ?_
 simp only [args0, Nat.zero_add, Nat.reduceAdd]
 refine Sr fun _ kh1 => za rfl (zz (kh1 (Sr fun _ kh3 => zm rfl ?_)))
 refine WL.ev (Ev.ext rfl (ext40 _ _)) rfl ?_
 refine za rfl (zz (kh3 (zc fun _ kh5 => Sr fun _ kh6 => zm rfl ?_)))
 refine WL.ev (Ev.remU (b := 9223372036854775808) rfl rfl (by omega)) rfl ?_
 refine WL.ev (Ev.gtr rfl rfl) rfl ?_
 refine zz (kh6 ?_)
 refine CW.cond rfl (fun hc1 => ?_) (fun hc1 => ?_)
 ·
  try simp only [qs] at hc1
  have k : 9218868437227405312 < x % 9223372036854775808 := by omega
  refine Sr fun _ kh8 => za rfl (zz (kh8 ?_))
  refine CW.ret ?_
  refine bodyA.ret1 rfl rfl ?_
  unfold oneNaN; rw [if_pos k]
  exact ⟨rfl, rfl⟩
 ·
  try simp only [qs] at hc1
  have k : ¬ 9218868437227405312 < x % 9223372036854775808 := by omega
  refine CW.skip ?_
  refine kh5 (Sr fun _ kh10 => zm rfl (za rfl (zz (kh10 ?_))))
  refine CW.ret ?_
  refine bodyA.ret1 rfl rfl ?_
  unfold oneNaN; rw [if_neg k]
  exact ⟨rfl, rfl⟩

set_option maxRecDepth 8000 in
set_option maxHeartbeats 2000000 in
theorem r1Split_spec (x : Nat) (w : World) (hx : x < 18446744073709551616) : Ret Tryz.prog 145 [.float .f64 x] w fun u w' => u = .agg [.bool (splitP x).neg, .int .i64 ((splitP x).cls : Int), .int .i64 (splitP x).exp, .int .u64 ((splitP x).frac : Int)].toArray ∧ Chg [] w w' := by
 have hch : Chg [] w w := Chg.refl _ _
 refine Ret.enter Tryz.func145 rfl rfl ?_
 simp only [args0, Nat.zero_add, Nat.reduceAdd]
 refine Sr fun _ kh1 => ?_
 refine WL.allocB (l := [.bool false, .int .i64 0, .int .i64 0, .int .u64 0]) rfl rfl fun b2 wm2 hb2 hcm2 hge2 => ?_
 have hgehch2 := Nat.le_trans hch.size hge2
 have hch := hch.trans (Chg.any hcm2)
 refine zz (kh1 (Sr fun _ kh3 => zm rfl ?_))
 refine WL.call hasF177 rfl rfl (r1Bits_spec x _ hx) fun v w1 h' => ?_
 obtain ⟨rfl, rfl⟩ := h'
 refine WL.call hasF176 rfl rfl (r1parts_spec (oneNaN x) _ (oneNaN_lt hx)) fun v w2 h' => ?_
 obtain ⟨rfl, hC⟩ := h'
 rw [oneNaN_split]
 have hch := hch.trans (Chg.any hC)
 have hb2 := hb2.keep0 hC
 refine WL.storeB rfl rfl rfl ao hb2 (by simp) rfl fun ws15 hb2_ hcs15 => ?_
 try simp only [Sx.splice, qt] at hb2_
 have hch := hch.s1 hcs15
 have hb2 := hb2_
 refine zz (kh3 ?_)
 refine CW.ret ?_
 refine bodyA.retR1 rfl (RVal.cell rfl (hb2.varA rfl rfl)) ?_
 exact ⟨rfl, hch⟩

set_option maxRecDepth 8000 in
set_option maxHeartbeats 2000000 in
theorem r1Class_spec (x : Nat) (w : World) (hx : x < 18446744073709551616) : Ret Tryz.prog 111 [.float .f64 x] w fun u w' => u = .int .i64 ((splitP x).cls : Int) ∧ Chg [] w w' := by
 have hch : Chg [] w w := Chg.refl _ _
 refine Ret.enter Tryz.func111 rfl rfl ?_
 simp only [args0, Nat.zero_add, Nat.reduceAdd]
 refine Sr fun _ kh1 => za rfl (zz (kh1 (Sr fun _ kh3 => zm rfl ?_)))
 refine WL.call hasF145 rfl rfl (r1Split_spec x _ hx) fun v w1 h' => ?_
 obtain ⟨rfl, hC⟩ := h'
 have hch := hch.trans (Chg.any hC)
 refine WL.ev (Ev.field (ft := 3) rfl rfl rfl rfl rfl) rfl ?_
 refine za rfl (zz (kh3 ?_))
 refine CW.ret ?_
 refine bodyA.ret1 rfl rfl ?_
 exact ⟨rfl, hch⟩

theorem r1Of_spec (x : Nat) (w : World) (hx : x < 18446744073709551616) : Ret Tryz.prog 61 [.int .u64 (x : Int)] w fun u w' => u = .float .f64 x ∧ w = w' := by
 refine Ret.enter Tryz.func61 rfl rfl ?_
 simp only [args0, Nat.zero_add, Nat.reduceAdd]
 refine Sr fun _ kh1 => za rfl (zz (kh1 (Sr fun _ kh3 => zm rfl ?_)))
 refine WL.ev (Ev.ext rfl (ext53 _ _)) rfl ?_
 refine za rfl (zz (kh3 ?_))
 refine CW.ret ?_
 refine bodyA.ret1 rfl rfl ?_
 refine ⟨?_, rfl⟩
 first | rfl | simp

theorem r1raw_spec (x : Nat) (w : World) (hx : x < 18446744073709551616) : Ret Tryz.prog 67 [.float .f64 x] w fun u w' => u = .int .u64 (x : Int) ∧ w = w' := by
 refine Ret.enter Tryz.func67 rfl rfl ?_
 simp only [args0, Nat.zero_add, Nat.reduceAdd]
 refine Sr fun _ kh1 => za rfl (zz (kh1 (Sr fun _ kh3 => zm rfl ?_)))
 refine WL.ev (Ev.ext rfl (ext40 _ _)) rfl ?_
 refine za rfl (zz (kh3 ?_))
 refine CW.ret ?_
 refine bodyA.ret1 rfl rfl ?_
 exact ⟨rfl, rfl⟩

end Go.Proofs.YtphnpchmdpjabaaGreatDoor

/- Reference of layer 13: Told, finite. No condition. -/
namespace Go.Proofs.YtphnpchmdpjabaaGreatDoor
open Go Sx Wd

theorem r13no_spec (e : Int) (w : World) : Ret Tryz.prog 36 [.int .i64 e] w fun u w' => u = .tuple [.float .f64 0, .int .i64 e].toArray ∧ w = w' := by
 refine Ret.enter Tryz.func36 rfl rfl ?_
 simp only [args0, Nat.zero_add, Nat.reduceAdd]
 refine Sr fun _ kh1 => za rfl (za rfl (zz (kh1 (Sr fun _ kh3 => ?_))))
 refine WL.call hasF61 rfl rfl (r1Of_spec 0 _ (by omega)) fun v w1 h' => ?_
 obtain ⟨rfl, rfl⟩ := h'
 refine zm rfl (za rfl (za rfl (zz (kh3 ?_))))
 refine CW.ret ?_
 refine bodyA.ret2 rfl rfl rfl ?_
 exact ⟨rfl, rfl⟩

set_option maxRecDepth 8000 in
set_option maxHeartbeats 2000000 in
theorem r13Told_spec (d : Dy) (v : Value) (n : Nat) (s : SP) (mode : Int) (w : World) (hn : NU w v (wd d.m)) (hok : d.ok) (hnn : n ≤ 1099511627776) (hs : s.le 1000000000000000) : Ret Tryz.prog 71 [.agg [.bool d.neg, v, .int .i64 d.e].toArray, .int .i64 (n : Int), .agg [.int .i64 (s.na : Int), .int .i64 (s.up : Int), .int .i64 (s.dn : Int), .int .i64 (s.mi : Int), .int .i64 (s.pl : Int), .int .i64 (s.al : Int)].toArray, .int .i64 mode] w fun u w' => (∃ bits e, u = .tuple [.float .f64 bits, .int .i64 e].toArray ∧ toldR d n s mode bits e) ∧ Chg [] w w' := by
 have hch : Chg [] w w := Chg.refl _ _
 have he := hok.e
 have hl := hok.len
 have hn1 := hn
 obtain ⟨⟨av, cv, rfl, hcapv, hrv⟩, hWv, hlv⟩ := hn1
 have hon := hn.one
 have hok2 := intD_ok (n := (n : Int)) (by omega)
 have he2 := hok2.e
 have hl2 := hok2.len
 refine Ret.enter Tryz.func71 rfl rfl ?_
 simp only [args0, Nat.zero_add, Nat.reduceAdd]
 refine Sr fun _ kh1 => ?_
 refine WL.boxB rfl rfl rfl fun b4 wm4 hb4 hcm4 hge4 => ?_
 have hgehch4 := Nat.le_trans hch.size hge4
 have hch := hch.trans (Chg.any hcm4)
 have hn := hn.keep0 hcm4
 refine WL.boxB rfl rfl rfl fun b6 wm6 hb6 hcm6 hge6 => ?_
 have hgehch6 := Nat.le_trans hch.size hge6
 have hch := hch.trans (Chg.any hcm6)
 have hn := hn.keep0 hcm6
 have hneb46 : b4 ≠ b6 := by have := hb4.lt; omega
 have hb4 := hb4.keep0 hcm6
 refine za rfl (za rfl (zz (kh1 (zc fun _ kh3 => Sr fun _ kh4 => zf rfl (zl hb4 rfl rfl (zn rfl (zq rfl rfl (zz (kh4 ?_)))))))))
 refine CW.cond rfl (fun hc1 => ?_) (fun hc1 => ?_)
 ·
  try simp only [qs] at hc1
  have h0 : d.m = 0 := wd_eq_nil.1 (List.length_eq_zero_iff.1 (by omega))
  refine Sr fun _ kh6 => zg hb6 rfl (zm rfl ?_)
  refine WL.call hasF115 rfl rfl (r6Nought_spec s mode _ hs) fun v w1 h' => ?_
  obtain ⟨rfl, hC⟩ := h'
  have hch := hch.trans (Chg.any hC)
  have hb4 := hb4.keep0 hC
  have hb6 := hb6.keep0 hC
  have hn := hn.keep0 hC
  refine za rfl (za rfl (zz (kh6 ?_)))
  refine CW.ret ?_
  refine bodyA.ret2 rfl rfl rfl ?_
  exact ⟨⟨_, _, rfl, .inl ⟨h0, rfl, rfl⟩⟩, hch⟩
 ·
  try simp only [qs] at hc1
  have h0 : d.m ≠ 0 := fun q => by rw [q, wd_zero] at hc1; exact hc1 rfl
  refine CW.skip ?_
  refine kh3 (zc fun _ kh8 => ?_)
  refine CW.regionHC 10 rfl hmix fun kR9 kr9 hS hdr => ?_
  have hch := hch.trans (Chg.any hdr)
  have hb4 := hb4.keep0 hdr
  have hb6 := hb6.keep0 hdr
  have hn := hn.keep0 hdr
  have hch_r := hch
  have hb4_r := hb4
  have hb6_r := hb6
  refine wh 0 rfl hS (fun _ hw' => Ev.loadA rfl rfl (hb4_r.keep0 hw') rfl) (wh 1 rfl hS (fun _ _ => Ev.move rfl) (wh 4 rfl hS (fun _ _ => Ev.move rfl) ?_))
  refine WH.oneCall 2 rfl (by kernel_rfl) hasF39 rfl rfl (r3Int_spec n _ (by omega)) fun v w2 h' => ?_
  obtain ⟨⟨ri, rfl, hNi⟩, hC⟩ := h'
  have hch := hch.trans (Chg.any hC)
  have hb4 := hb4.keep0 hC
  have hb6 := hb6.keep0 hC
  have hn := hn.keep0 hC
  have hS := hS.trans hC
  refine ⟨hS, ?_⟩
  refine wh 3 rfl hS (fun _ _ => Ev.build (vs := _) (cs := [_, _, _, _, _, _]) rfl rfl) ?_
  refine WH.oneCall 5 rfl (by kernel_rfl) hasF38 rfl rfl (r11Quot_spec _ _ _ _ _ _ _ _ mode _ hn hNi (by omega) (by omega) (by omega) (by omega)) fun v w3 h' => ?_
  obtain ⟨⟨bits, e, rfl, hQ⟩, hC⟩ := h'
  rw [val_wd, val_wd] at hQ
  have hch := hch.trans (Chg.any hC)
  have hb4 := hb4.keep0 hC
  have hb6 := hb6.keep0 hC
  have hn := hn.keep0 hC
  have hNi := hNi.keep0 hC
  have hS := hS.trans hC
  refine ⟨hS, ?_⟩
  refine wh 6 rfl hS (fun _ _ => Ev.extract rfl rfl) (wh 7 rfl hS (fun _ _ => Ev.extract rfl rfl) (wh 8 rfl hS (fun _ _ => Ev.assign rfl) (wh 9 rfl hS (fun _ _ => Ev.assign rfl) ?_)))
  refine WH.done (by kernel_rfl) (kr9 _ _ _ ?_)
  refine kh8 ?_
  refine CW.ret ?_
  refine bodyA.ret2 rfl rfl rfl ?_
  exact ⟨⟨bits, e, rfl, .inr ⟨h0, hQ⟩⟩, hch⟩

structure KFn (l : List Nat) (w0 : World) (i : Nat) (w : World) : Prop where
  hi : i ≤ l.length
  f : finL (l.take i)
  ch : Chg [] w0 w

set_option maxRecDepth 8000 in
set_option maxHeartbeats 2000000 in
theorem r13finite_spec (v : Value) (l : List Nat) (w : World) (hv : NF w v l) : Ret Tryz.prog 68 [v] w fun u w' => u = .bool (decide (finL l)) ∧ Chg [] w w' := by
 obtain ⟨⟨al, cl, rfl, hcapl, hrl⟩, hWl, hll⟩ := hv
 have hch : Chg [] w w := Chg.refl _ _
 refine Ret.enter Tryz.func68 rfl rfl ?_
 simp only [args0, Nat.zero_add, Nat.reduceAdd]
 refine Sr fun _ kh1 => za rfl (zz (kh1 (zc fun _ kh3 => Sr fun _ kh4 => za rfl (zz (kh4 ?_)))))
 refine CW.block ?_
 refine CW.loop (S := fun i : Nat => [(0, .slice al l.length cl), (3, .int .i64 (i : Int))]) (Inv := KFn l w) (mu := fun i => l.length - i) (0) ?_ ?_ ?_
 ·
  exact ⟨Nat.zero_le _, fun x hx => by simp at hx, hch⟩
 ·
  exact SLp
 ·
  rintro i wr ⟨hi, hf, hch⟩
  refine zc fun _ kh6 => Sr fun _ kh7 => zm rfl (zm rfl (zn rfl ?_))
  refine WL.ev (Ev.lss rfl rfl) rfl ?_
  refine zz (kh7 ?_)
  refine CW.cond rfl (fun hc1 => ?_) (fun hc1 => ?_)
  ·
   try simp only [qs] at hc1
   have hx := D_getD hWl i
   refine CW.skip ?_
   refine kh6 (zc fun _ kh9 => ?_)
   refine CW.block ?_
   refine Sr fun _ kh10 => zm rfl (zm rfl ?_)
   refine WL.ev (Ev.ixR (i) rfl rfl (hrl.keep0 hch) (by omega) (by omega) (by simp; omega)) rfl ?_
   refine WL.ev (Ev.load rfl rfl ((hrl.keep0 hch).f64 (by first | omega | (simp; omega)))) rfl ?_
   refine WL.call hasF111 rfl rfl (r1Class_spec (l.getD i 0) _ hx) fun v w1 h' => ?_
   obtain ⟨rfl, hC⟩ := h'
   have hch := hch.trans (Chg.any hC)
   refine WL.ev (Ev.gtr rfl rfl) rfl ?_
   refine zz (kh10 ?_)
   refine CW.cond rfl (fun hc2 => ?_) (fun hc2 => ?_)
   ·
    try simp only [qs] at hc2
    refine Sr fun _ kh12 => za rfl (zz (kh12 ?_))
    refine CW.ret ?_
    refine bodyA.ret1 rfl rfl ?_
    refine ⟨?_, hch⟩
    rw [decide_eq_false]
    intro q
    have := q (l.getD i 0) (by rw [List.getD_eq_getElem?_getD, List.getElem?_eq_getElem (by omega)]; exact List.getElem_mem _)
    omega
   ·
    try simp only [qs] at hc2
    refine CW.skip ?_
    refine kh9 ?_
    refine CW.region fun kR14 kr14 => ?_
    refine zm rfl ?_
    first | refine WL.ev (Ev.addIn rfl rfl (by omega)) rfl ?_ | refine WL.ev (Ev.add rfl rfl) rfl ?_
    refine za rfl ?_
    refine WL.nil (kr14 _ _ _ ?_)
    refine ⟨rfl, i + 1, ?_, ?_, ?_⟩
    ·
     exact SLp
    ·
     exact ⟨by omega, (finL_step (by omega)).2 ⟨hf, by omega⟩, hch⟩
    ·
     show l.length - (i + 1) < l.length - i; omega
  ·
   try simp only [qs] at hc1
   have hiX : i = l.length := by omega
   subst hiX
   rw [List.take_length] at hf
   refine CW.exit ?_
   refine kh3 (Sr fun _ kh15 => za rfl (zz (kh15 ?_)))
   refine CW.ret ?_
   refine bodyA.ret1 rfl rfl ?_
   rw [decide_eq_true hf]
   exact ⟨rfl, hch⟩

end Go.Proofs.YtphnpchmdpjabaaGreatDoor

/- Reference of layer 13: Mean. No condition. -/
namespace Go.Proofs.YtphnpchmdpjabaaGreatDoor
open Go Sx Wd

end Go.Proofs.YtphnpchmdpjabaaGreatDoor

/- Reference of layer 13: Middle, Of. No condition. -/
namespace Go.Proofs.YtphnpchmdpjabaaGreatDoor
open Go Sx Wd

theorem mean_plain {l : List Nat} {mode : Int} {bits : Nat} {e : Int} (hm : 0 ≤ mode ∧ mode ≤ 4) (h : finL l) (hl : l.length ≤ 65536) (h0 : l ≠ []) (hT : toldR (sumD (sumI l)) l.length (cntP l) mode bits e) : meanR l mode 0 0 bits e := by
  have hf := fil_fin h
  obtain ⟨hs, hv⟩ := sift_fin (pn := 0) (pi := 0) h hl (by unfold mayQ; omega)
  exact .inr ⟨hm, .inr ⟨hs, .inr ⟨hv, .inr ⟨by rw [hf]; exact h0, by rw [hf]; exact hT⟩⟩⟩⟩

end Go.Proofs.YtphnpchmdpjabaaGreatDoor

/- What the laws compare is determined: each answer is the only one. No condition. -/
namespace Go.Proofs.YtphnpchmdpjabaaGreatDoor
open Go Sx Wd

theorem quot_unique {nn nd : Bool} {ln ld : Nat} {en ed mode : Int} {b b' : Nat} {e e' : Int} (h : QuotP nn nd ln ld en ed mode b e) (h' : QuotP nn nd ln ld en ed mode b' e') : b = b' ∧ e = e' := by
  rcases h with ⟨a, b1, e1⟩ | ⟨a, h⟩ <;> rcases h' with ⟨a', b2, e2⟩ | ⟨a', h'⟩
  · exact ⟨b1.trans b2.symm, e1.trans e2.symm⟩
  · exact absurd a' a
  · exact absurd a a'
  · rcases h with ⟨s, b1, e1⟩ | ⟨s, n, b1, e1⟩ | ⟨s, x, y, hx, hy, h⟩ <;> rcases h' with ⟨s', b2, e2⟩ | ⟨s', n', b2, e2⟩ | ⟨s', x', y', hx', hy', h'⟩
    · exact ⟨b1.trans b2.symm, e1.trans e2.symm⟩
    · omega
    · omega
    · omega
    · exact ⟨b1.trans b2.symm, e1.trans e2.symm⟩
    · rcases n with n | n
      · rw [hx'] at n; cases n
      · rw [hy'] at n; cases n
    · omega
    · rcases n' with n | n
      · rw [hx] at n; cases n
      · rw [hy] at n; cases n
    · rw [hx] at hx'; cases hx'
      rw [hy] at hy'; cases hy'
      rcases h with ⟨z, b1, e1⟩ | ⟨z, r, N, _, b1, e1⟩ <;> rcases h' with ⟨z', b2, e2⟩ | ⟨z', r', N', _, b2, e2⟩
      · exact ⟨b1.trans b2.symm, e1.trans e2.symm⟩
      · exact absurd z z'
      · exact absurd z' z
      · have := N.unique (Nat.mul_pos (by omega) (dyB_pos _)) N'
        subst this
        exact ⟨b1.trans b2.symm, e1.trans e2.symm⟩
theorem told_unique {d : Dy} {n : Nat} {s : SP} {mode : Int} {b b' : Nat} {e e' : Int} (h : toldR d n s mode b e) (h' : toldR d n s mode b' e') : b = b' ∧ e = e' := by
  rcases h with ⟨a, b1, e1⟩ | ⟨a, h⟩ <;> rcases h' with ⟨a', b2, e2⟩ | ⟨a', h'⟩
  · exact ⟨b1.trans b2.symm, e1.trans e2.symm⟩
  · exact absurd a a'
  · exact absurd a' a
  · exact quot_unique h h'
theorem mean_unique {l : List Nat} {mode pn pi : Int} {b b' : Nat} {e e' : Int} (h : meanR l mode pn pi b e) (h' : meanR l mode pn pi b' e') : b = b' ∧ e = e' := by
  rcases h with ⟨a, b1, e1⟩ | ⟨a, h⟩ <;> rcases h' with ⟨a', b2, e2⟩ | ⟨a', h'⟩
  · exact ⟨b1.trans b2.symm, e1.trans e2.symm⟩
  · exact absurd a' a
  · exact absurd a a'
  · rcases h with ⟨s, b1, e1⟩ | ⟨s, h⟩ <;> rcases h' with ⟨s', b2, e2⟩ | ⟨s', h'⟩
    · exact ⟨b1.trans b2.symm, e1.trans e2.symm⟩
    · exact absurd s' s
    · exact absurd s s'
    · rcases h with ⟨v, e1⟩ | ⟨v, h⟩ <;> rcases h' with ⟨v', e2⟩ | ⟨v', h'⟩
      · rw [v] at v'; cases v'; exact ⟨rfl, e1.trans e2.symm⟩
      · rw [v] at v'; cases v'
      · rw [v] at v'; cases v'
      · rcases h with ⟨f, b1, e1⟩ | ⟨f, h⟩ <;> rcases h' with ⟨f', b2, e2⟩ | ⟨f', h'⟩
        · exact ⟨b1.trans b2.symm, e1.trans e2.symm⟩
        · exact absurd f f'
        · exact absurd f' f
        · exact told_unique h h'
end Go.Proofs.YtphnpchmdpjabaaGreatDoor

/- Numbers in order: the sorted list of a list's numbers is the only one. No condition. -/
namespace Go.Proofs.YtphnpchmdpjabaaGreatDoor
open Go Fl

theorem key_inj {a b : Nat} (ha : a < 18446744073709551616) (hb : b < 18446744073709551616) (na : isNaN a = false) (nb : isNaN b = false) (h : key a = key b) : a = b := by
  unfold key at h
  rw [na, nb] at h
  simp only [Bool.false_eq_true, if_false] at h
  split at h <;> split at h <;> omega
/-- In order. -/
def Srt (l : List Nat) : Prop := l.Pairwise fun a b => key a ≤ key b
/-- Numbers that are no NaN. -/
def Nums (l : List Nat) : Prop := ∀ x ∈ l, x < 18446744073709551616 ∧ isNaN x = false
theorem Nums.tail {x : Nat} {l : List Nat} (h : Nums (x :: l)) : Nums l := fun y hy => h y (List.mem_cons_of_mem _ hy)
theorem Nums.perm {a b : List Nat} (h : Nums a) (p : a.Perm b) : Nums b := fun y hy => h y (p.mem_iff.2 hy)
theorem sorted_unique : ∀ {a b : List Nat}, a.Perm b → Srt a → Srt b → Nums a → a = b
  | [], b, h, _, _, _ => (List.Perm.nil_eq h)
  | x :: a, [], h, _, _, _ => by have := h.length_eq; simp at this
  | x :: a, y :: b, h, ha, hb, hw => by
    have hx : x ∈ y :: b := h.mem_iff.1 (List.mem_cons_self ..)
    have hy : y ∈ x :: a := h.mem_iff.2 (List.mem_cons_self ..)
    have h1 : key y ≤ key x := by
      rcases List.mem_cons.1 hx with e | e
      · rw [e]; exact Int.le_refl _
      · exact (List.pairwise_cons.1 hb).1 x e
    have h2 : key x ≤ key y := by
      rcases List.mem_cons.1 hy with e | e
      · rw [e]; exact Int.le_refl _
      · exact (List.pairwise_cons.1 ha).1 y e
    have hx2 := hw x (List.mem_cons_self ..)
    have hy2 := hw y hy
    have e : x = y := key_inj hx2.1 hy2.1 hx2.2 hy2.2 (by omega)
    subst e
    rw [sorted_unique ((List.perm_cons x).1 h) (List.pairwise_cons.1 ha).2 (List.pairwise_cons.1 hb).2 hw.tail]
/-- A list in order. -/
def sortP (l : List Nat) : List Nat := l.mergeSort fun a b => decide (key a ≤ key b)
theorem sortP_perm (l : List Nat) : (sortP l).Perm l := List.mergeSort_perm ..
theorem sortP_srt (l : List Nat) : Srt (sortP l) := by
  have h := List.pairwise_mergeSort (le := fun a b => decide (key a ≤ key b)) (fun a b c h1 h2 => by simp at *; omega) (fun a b => by simp; omega) l
  exact h.imp (fun h => by simpa using h)
theorem sortP_length (l : List Nat) : (sortP l).length = l.length := (sortP_perm l).length_eq
theorem sortP_eq {a l : List Nat} (p : a.Perm l) (s : Srt a) (h : Nums l) : a = sortP l :=
  sorted_unique (p.trans (sortP_perm l).symm) s (sortP_srt l) (h.perm p.symm)
end Go.Proofs.YtphnpchmdpjabaaGreatDoor

/- Means of a list's numbers: put in another order, weighed alike, trimmed. No condition. -/
namespace Go.Proofs.YtphnpchmdpjabaaGreatDoor
open Go Sx Wd Fl
set_option exponentiation.threshold 9000

theorem fin_num {x : Nat} (h : (splitP x).cls ≤ 2) : isNaN x = false := by
  have := fin_mod h
  unfold isNaN
  exact decide_eq_false (by omega)
theorem finL_nums {l : List Nat} (h : finL l) (hw : ∀ x ∈ l, x < 18446744073709551616) : Nums l := fun x hx => ⟨hw x hx, fin_num (h x hx)⟩
/-- What Trimmed answers. -/
def trimR (l : List Nat) (k mode : Int) (bits : Nat) (e : Int) : Prop :=
  (¬ ((0 ≤ mode ∧ mode ≤ 4) ∧ 0 ≤ k) ∧ bits = 0 ∧ e = 1) ∨ (((0 ≤ mode ∧ mode ≤ 4) ∧ 0 ≤ k) ∧
    ((65536 < l.length ∧ bits = 0 ∧ e = 2) ∨ (¬ 65536 < l.length ∧
      ((¬ finL l ∧ bits = 0 ∧ e = 30) ∨ (finL l ∧
        (((l.length : Int) ≤ 2 * k ∧ bits = 0 ∧ e = 3) ∨ (2 * k < (l.length : Int) ∧ meanR (((sortP l).drop k.toNat).take (l.length - 2 * k.toNat)) mode 0 0 bits e)))))))
theorem trim_unique {l : List Nat} {k mode : Int} {b b' : Nat} {e e' : Int} (h : trimR l k mode b e) (h' : trimR l k mode b' e') : b = b' ∧ e = e' := by
  rcases h with ⟨a, b1, e1⟩ | ⟨a, h⟩ <;> rcases h' with ⟨a', b2, e2⟩ | ⟨a', h'⟩
  · exact ⟨b1.trans b2.symm, e1.trans e2.symm⟩
  · exact absurd a' a
  · exact absurd a a'
  · rcases h with ⟨s, b1, e1⟩ | ⟨s, h⟩ <;> rcases h' with ⟨s', b2, e2⟩ | ⟨s', h'⟩
    · exact ⟨b1.trans b2.symm, e1.trans e2.symm⟩
    · exact absurd s s'
    · exact absurd s' s
    · rcases h with ⟨s, b1, e1⟩ | ⟨s, h⟩ <;> rcases h' with ⟨s', b2, e2⟩ | ⟨s', h'⟩
      · exact ⟨b1.trans b2.symm, e1.trans e2.symm⟩
      · exact absurd s' s
      · exact absurd s s'
      · rcases h with ⟨s, b1, e1⟩ | ⟨s, h⟩ <;> rcases h' with ⟨s', b2, e2⟩ | ⟨s', h'⟩
        · exact ⟨b1.trans b2.symm, e1.trans e2.symm⟩
        · omega
        · omega
        · exact mean_unique h h'
end Go.Proofs.YtphnpchmdpjabaaGreatDoor

/- Two lists in order, put together. No condition. -/
namespace Go.Proofs.YtphnpchmdpjabaaGreatDoor
open Go Sx Wd Fl

def leK (a b : Nat) : Bool := decide (key a ≤ key b)
def mrg (A B : List Nat) : List Nat := A.merge B leK
theorem mrg_left {A B : List Nat} {i k : Nat} (hi : i < A.length) (hk : k ≤ B.length) (h : k = B.length ∨ key (A.getD i 0) ≤ key (B.getD k 0)) : mrg (A.drop i) (B.drop k) = A.getD i 0 :: mrg (A.drop (i + 1)) (B.drop k) := by
  rw [List.getD_eq_getElem?_getD, List.getElem?_eq_getElem hi, Option.getD_some] at *
  rw [List.drop_eq_getElem_cons hi]
  by_cases hB : k < B.length
  · rw [List.getD_eq_getElem?_getD, List.getElem?_eq_getElem hB, Option.getD_some] at h
    rw [List.drop_eq_getElem_cons hB]
    unfold mrg
    rw [List.cons_merge_cons_pos]
    unfold leK
    exact decide_eq_true (by rcases h with h | h; omega; exact h)
  · rw [List.drop_eq_nil_of_le (show B.length ≤ k by omega)]
    unfold mrg
    rw [List.merge_right, List.merge_right]
theorem mrg_right {A B : List Nat} {i k : Nat} (hk : k < B.length) (hi : i ≤ A.length) (h : i = A.length ∨ ¬ key (A.getD i 0) ≤ key (B.getD k 0)) : mrg (A.drop i) (B.drop k) = B.getD k 0 :: mrg (A.drop i) (B.drop (k + 1)) := by
  rw [List.getD_eq_getElem?_getD (l := B), List.getElem?_eq_getElem hk, Option.getD_some] at *
  rw [List.drop_eq_getElem_cons hk]
  by_cases hA : i < A.length
  · rw [List.getD_eq_getElem?_getD, List.getElem?_eq_getElem hA, Option.getD_some] at h
    rw [List.drop_eq_getElem_cons hA]
    unfold mrg
    rw [List.cons_merge_cons_neg]
    unfold leK
    rw [decide_eq_false (by rcases h with h | h; omega; exact h)]
    decide
  · rw [List.drop_eq_nil_of_le (show A.length ≤ i by omega)]
    unfold mrg
    rw [List.nil_merge, List.nil_merge]
theorem mrg_sorted {a b l : List Nat} (h : (a ++ b).Perm l) (hn : Nums l) : mrg (sortP a) (sortP b) = sortP l := by
  refine sortP_eq ?_ ?_ hn
  · unfold mrg
    exact (List.merge_perm_append _).trans (((sortP_perm a).append (sortP_perm b)).trans h)
  · have tr : ∀ a b c : Nat, leK a b = true → leK b c = true → leK a c = true := fun a b c h1 h2 => by
      unfold leK at *; simp only [decide_eq_true_eq] at *; omega
    have to : ∀ a b : Nat, (leK a b || leK b a) = true := fun a b => by
      unfold leK; simp only [Bool.or_eq_true, decide_eq_true_eq]; omega
    have := List.pairwise_merge tr to (sortP a) (sortP b) ((sortP_srt a).imp fun h => by unfold leK; exact decide_eq_true h) ((sortP_srt b).imp fun h => by unfold leK; exact decide_eq_true h)
    exact this.imp fun h => by unfold leK at h; exact of_decide_eq_true h
theorem sortP_short {l : List Nat} (h : l.length < 2) (hn : Nums l) : sortP l = l := by
  refine (sortP_eq (List.Perm.refl _) ?_ hn).symm
  match l, h with
  | [], _ => exact List.Pairwise.nil
  | [x], _ => exact List.pairwise_singleton _ _
theorem place_key {x : Nat} (h : isNaN x = false) : place x = key x := by
  have hc : canon x = x := by unfold canon; rw [h]; rfl
  unfold place key
  rw [hc, h]
  simp
theorem cmp_le (a b : Int) : cmpI a b ≤ 0 ↔ a ≤ b := by unfold cmpI; split <;> (try split) <;> omega
theorem Nums.getD {l : List Nat} (h : Nums l) {i : Nat} (hi : i < l.length) : l.getD i 0 < 18446744073709551616 ∧ isNaN (l.getD i 0) = false := by
  rw [List.getD_eq_getElem?_getD, List.getElem?_eq_getElem hi]
  exact h _ (List.getElem_mem hi)
theorem Nums.take {l : List Nat} (h : Nums l) (k : Nat) : Nums (l.take k) := fun x hx => h x (List.mem_of_mem_take hx)
theorem Nums.drop {l : List Nat} (h : Nums l) (k : Nat) : Nums (l.drop k) := fun x hx => h x (List.mem_of_mem_drop hx)

end Go.Proofs.YtphnpchmdpjabaaGreatDoor

/- Slices against nil; an empty slice that is laid and grows. No condition. -/
namespace Go.Proofs.YtphnpchmdpjabaaGreatDoor
open Go Sx Wd
section
variable {P : Program} {n : Nat} {D : List Deferred} {s : Sl} {w : World} {ops : Array Oper} {K : KK} {rest : List Oper} {ty : TypeId} {pos : String} {af : Array Edge} {d : Nat} {x y : Operand}
theorem eqGuard_slice (op : BinOp) (t : TypeId) (x y : Operand) (a b : Option Addr) (i j k l : Nat) : (eqGuard op t x y (.slice a i j) (.slice b k l)).run P w = .ok () w := by
  unfold eqGuard; split <;> simp
/-- A slice against nil. -/
theorem Ev.eqlSliceNil {t t' e : TypeId} {sz by_ : Nat} {z : Value} {a : Option Addr} {m c : Nat} [hT : HasT P t (.slice e) sz by_ z] (hx : opnd s x = some (.slice a m c)) (hy : opnd s y = some (.slice none 0 0)) : Ev P s (.binOp .eql t x y t') ty w (.bool a.isNone) w :=
  run_bin hx hy (fun _ _ => eqGuard_slice _ _ _ _ _ _ _ _ _ _) (by
    have := run_eqIn (P := P) (w := w) (t := t) (u := .slice a m c) (v := .slice none 0 0) (r := a.isNone) (fun d => by cases a <;> simp [Op.equalIn, hT.underlying])
    simp only [binOp]
    simp [this])
/-- A drawn region's answer in one slot. -/
theorem Sx.CW.seqMD {A : AQ} {x y : Code} (c : Nat) (b : Bool) (hx : CW P x (thenK (fun D' s' w' => D' = D ∧ w' = w.drew ∧ Subs ((c, .bool b) :: s) s') A) n D s w) (hy : Chg [] w w.drew → CW P y A n D ((c, .bool b) :: s) w.drew) : CW P (.seq x y) A n D s w :=
  CW.seqJ _ hx fun D' s' w' ⟨h1, h2, h3⟩ => by subst h1; subst h2; exact (hy (Chg.drew _ _)).sub h3
/-- An empty slice of one's own. -/
theorem WL.emptySlice {t e : TypeId} {de : TypeDesc} {sz by_ es be : Nat} {z ze : Value} {f : Nat → Value} {lo : Nat} {X : List Nat} [hT : HasT P t (.slice e) sz by_ z] [hE : HasT P e de es be ze] (hlo : lo ≤ w.heap.size) (hX : ∀ b ∈ X, b < w.heap.size) (hd : Nat.blt d n = true)
    (k : ∀ v w', GR w' e f lo X v [] → Chg [] w w' → WL P ops K rest n D ((d, v) :: s) w') : WL P ops K (⟨some d, .buildSlice t 0 #[], ty, pos, af, none⟩ :: rest) n D s w := by
  refine WL.ev (v := .slice (some ⟨w.heap.size, 0, none⟩) 0 0) (w' := w.alloc (.cells #[] e)) (fun ρ d' pos af g hρ => ?_) hd (k _ _ ?_ (new_alloc w _).chg)
  · simp [execOp, Instr.buildSlice, hT.underlying, hE.sizeOf, Instr.fill, newRow]
    rw [show Array.range 0 = #[] from by decide, Array.map_empty]
  · refine ⟨⟨by simp, .inr ⟨w.heap.size, 0, #[], rfl, Nat.zero_le _, ?_, Nat.le_refl _, by unfold maxLen; omega, by simp, by simp⟩⟩, fun b hb => ?_⟩
    · exact (new_alloc w (.cells #[] e)).at_
    · cases hb
      exact ⟨hlo, fun hm => Nat.lt_irrefl _ (hX _ hm)⟩
end
theorem GR.own {w : World} {e : TypeId} {f : Nat → Value} {lo : Nat} {X : List Nat} {v : Value} {l : List Nat} (h : GR w e f lo X v l) (hne : l ≠ []) : ∃ b c cur, v = .slice (some ⟨b, 0, none⟩) l.length c ∧ w.heap[b]? = some (.cells cur e (0, 0)) ∧ l.length ≤ c ∧ c ≤ maxLen ∧ cur.size = c ∧ cur.toList.take l.length = l.map f ∧ lo ≤ b ∧ b ∉ X := by
  obtain ⟨⟨_, hcase⟩, hb⟩ := h
  rcases hcase with ⟨_, h0⟩ | ⟨g, cp, cur, rfl, _, hheap, hnc, hcm, hcs, htake⟩
  · exact absurd (List.length_eq_zero_iff.1 h0) hne
  · obtain ⟨h1, h2⟩ := hb g rfl
    rw [Nat.mul_one] at hcs htake
    exact ⟨g, cp, cur, rfl, hheap, hnc, hcm, hcs, htake, h1, h2⟩
end Go.Proofs.YtphnpchmdpjabaaGreatDoor

/- Copies of numbers. No condition. -/
namespace Go.Proofs.YtphnpchmdpjabaaGreatDoor.Sx
open Go
section
variable {P : Program} {n : Nat} {D : List Deferred} {s : Sl} {w : World} {ops : Array Oper} {K : KK} {rest : List Oper} {ty : TypeId} {pos : String} {af : Array Edge} {d : Nat} {x y : Operand}
theorem WL.copyF {t t' : TypeId} {e be : Nat} {b m c n' c2 : Nat} {a : Option Addr} {l xs : List Nat} {sz by_ : Nat} {z ze : Value} {de : TypeDesc} [hT : HasT P t (.slice e) sz by_ z] [hE : HasT P e de 1 be ze] (hx : opnd s x = some (.slice (some ⟨b, 0, none⟩) m c)) (hy : opnd s y = some (.slice a n' c2)) (hb : FB w b e l) (hr : RW w a (xs.map f64v)) (hn : n' ≤ xs.length) (hm : m ≤ l.length) (hd : Nat.blt d n = true)
    (k : ∀ w', FB w' b e (xs.take (min n' m) ++ l.drop (min n' m)) → Chg [b] w w' → WL P ops K rest n D ((d, .int .i64 ((min n' m : Nat) : Int)) :: s) w') : WL P ops K (⟨some d, .call ⟨.builtin .copy, [x, y].toArray, #[t, t']⟩, ty, pos, af, none⟩ :: rest) n D s w := by
  obtain ⟨i, hi, hi1, hi2, hi3⟩ := hE.inf
  have hsz : (P.info? e).map (·.size) = some 1 := by rw [hi]; simp [hi1]
  by_cases h0 : min n' m = 0
  · refine WL.ev (v := goInt 0) (w' := w) (fun ρ d' pos af g hρ => ?_) hd ?_
    · have e1 := hρ x _ hx
      have e2 := hρ y _ hy
      have := run_copy_none (P := P) w t t' ty e (some ⟨b, 0, none⟩) a m c n' c2 hT.und hsz h0
      simp [execOp, resolve, invoke, builtin, e1, e2, this]
    · have := k w (by rw [h0]; simpa using hb) (Chg.refl _ _)
      rw [h0] at this
      exact this
  · obtain ⟨ad, rfl⟩ := hr.some_ (by simp; omega)
    have hlen : ((xs.take (min n' m)).map f64v).length = Nat.min n' m := by
      show _ = min n' m
      simp; omega
    have hrun := run_copy_row (P := P) w t t' ty e b 0 m c ad n' c2 (l.map f64v).toArray e ((xs.take (min n' m)).map f64v) hT.und hsz hb hlen
      (fun j v hv => by
        obtain ⟨ad', e0, h2⟩ := (by rw [List.map_take]; exact hr.take (min n' m) : RW w (some ad) ((xs.take (min n' m)).map f64v)) j v hv
        cases e0; exact h2)
      (by simp; omega) (fun u hu => by obtain ⟨i, _, rfl⟩ := List.mem_map.1 hu; rfl)
    obtain ⟨Wn, hWn⟩ : ∃ Wn, Wn = w.setRow b ((l.map f64v).toArray.toList.take 0 ++ (xs.take (min n' m)).map f64v ++ (l.map f64v).toArray.toList.drop (0 + ((xs.take (min n' m)).map f64v).length)).toArray := ⟨_, rfl⟩
    rw [← hWn] at hrun
    refine WL.ev (v := goInt ((xs.take (min n' m)).map f64v).length) (w' := Wn) (fun ρ d' pos af g hρ => ?_) hd ?_
    · have e1 := hρ x _ hx
      have e2 := hρ y _ hy
      simp [execOp, resolve, invoke, builtin, e1, e2, hrun]
    · rw [hlen]
      refine k _ ?_ ?_
      · have := setRow_heap w b _ ((l.map f64v).toArray.toList.take 0 ++ (xs.take (min n' m)).map f64v ++ (l.map f64v).toArray.toList.drop (0 + ((xs.take (min n' m)).map f64v).length)).toArray e (0, 0) hb
        rw [← hWn] at this
        unfold FB
        rw [this, hlen]
        simp [List.map_drop]
      · subst hWn
        exact ⟨rfl, rfl, rfl, by simp [World.setRow], fun q hq hnq => setRow_other w b q _ (by simpa using hnq)⟩
end
end Go.Proofs.YtphnpchmdpjabaaGreatDoor.Sx

/- Copies of lists of numbers; parts of them. No condition. -/
namespace Go.Proofs.YtphnpchmdpjabaaGreatDoor
open Go Sx Wd Fl

theorem GR.nf {w : World} {e : TypeId} {lo : Nat} {X : List Nat} {v : Value} {l : List Nat} (h : GR w e f64v lo X v l) (hw : ∀ x ∈ l, x < 18446744073709551616) (hl : l.length ≤ 70368744177664) : NF w v l := by
  obtain ⟨a, c, rfl, hc, hr⟩ := h.row
  exact ⟨⟨a, c, rfl, hc, hr⟩, hw, hl⟩
theorem NF.mid {w : World} {a : Option Addr} {l : List Nat} {n c lo hi : Nat} (h : NF w (.slice a n c) l) (h1 : lo ≤ hi) (h2 : hi ≤ l.length) : NF w (.slice (cutAt a lo c 1) (hi - lo) (c - lo)) ((l.drop lo).take (hi - lo)) := by
  obtain ⟨⟨a', c', e, hc, hr⟩, hw, hl⟩ := h
  cases e
  have e1 : ((l.drop lo).take (hi - lo)).length = hi - lo := by rw [List.length_take, List.length_drop]; omega
  refine ⟨⟨cutAt a lo c 1, c - lo, by rw [e1], by omega, ?_⟩, fun x hx => hw x (List.mem_of_mem_drop (List.mem_of_mem_take hx)), by omega⟩
  rw [List.map_take, List.map_drop]
  exact (hr.cut lo c (by simp; omega) (by simpa using hc)).take _
theorem NF.head {w : World} {a : Option Addr} {l : List Nat} {n c hi : Nat} (h : NF w (.slice a n c) l) (h2 : hi ≤ l.length) : NF w (.slice a hi c) (l.take hi) := by
  obtain ⟨⟨a', c', e, hc, hr⟩, hw, hl⟩ := h
  cases e
  have e1 : (l.take hi).length = hi := by rw [List.length_take]; omega
  refine ⟨⟨a, c, by rw [e1], by omega, ?_⟩, fun x hx => hw x (List.mem_of_mem_take hx), by omega⟩
  rw [List.map_take]
  exact hr.take _
theorem NF.tail_ {w : World} {a : Option Addr} {l : List Nat} {n c lo : Nat} (h : NF w (.slice a n c) l) (h2 : lo ≤ l.length) : NF w (.slice (cutAt a lo c 1) (n - lo) (c - lo)) (l.drop lo) := by
  obtain ⟨⟨a', c', e, hc, hr⟩, hw, hl⟩ := h
  cases e
  have e1 : (l.drop lo).length = l.length - lo := List.length_drop
  refine ⟨⟨cutAt a lo c 1, c - lo, by rw [e1], by omega, ?_⟩, fun x hx => hw x (List.mem_of_mem_drop hx), by omega⟩
  rw [List.map_drop]
  exact hr.cut lo c (by simp; omega) (by simpa using hc)

set_option maxRecDepth 8000 in
set_option maxHeartbeats 2000000 in
theorem CloneF_spec (v : Value) (l : List Nat) (w : World) (hv : NF w v l) (hlm : l.length ≤ 1000000) : Ret Tryz.prog 63 [v] w fun u w' => GR w' 28 f64v w.heap.size [] u l ∧ Chg [] w w' := by
 obtain ⟨⟨al, cl, rfl, hcap, hrl⟩, hWl, hll⟩ := hv
 have hch : Chg [] w w := Chg.refl _ _
 refine Ret.enter Tryz.func63 rfl rfl ?_
 simp only [args0, Nat.zero_add, Nat.reduceAdd]
 refine Sr fun _ kh1 => za rfl (zz (kh1 (zc fun _ kh3 => Sr fun _ kh4 => zm rfl ?_)))
 refine WL.ev (Ev.eqlSliceNil rfl rfl) rfl ?_
 refine zz (kh4 ?_)
 refine CW.cond rfl (fun hc1 => ?_) (fun hc1 => ?_)
 ·
  try simp only [qs] at hc1
  obtain rfl : al = none := by simpa using hc1
  have hl0 : l = [] := by cases l with | nil => rfl | cons x r => obtain ⟨ad, e1, _⟩ := hrl 0 _ rfl; cases e1
  subst hl0
  refine Sr fun _ kh6 => za rfl (zz (kh6 ?_))
  refine CW.ret ?_
  refine bodyA.ret1 rfl rfl ?_
  exact ⟨GR.nil, hch⟩
 ·
  try simp only [qs] at hc1
  refine CW.skip ?_
  refine kh3 (Sr fun _ kh8 => ?_)
  refine WL.emptySlice (f := f64v) (lo := w.heap.size) (X := []) hch.size (by simp) rfl fun v5 w5 hg5 hcm5 => ?_
  have hch := hch.trans (Chg.any hcm5)
  refine zm rfl ?_
  refine WL.growR (f := f64v) (lo := w.heap.size) (X := []) (l := []) (news := l) (by rfl) (fun i => rfl) rfl rfl hg5 (by first | rfl | (simp; done) | (simp; omega) | omega) (hrl.keep0 hch) (by first | omega | exact hch.size | exact hcr.size | exact Nat.le_refl _) (by simp) (by simp only [List.length_append, List.length_cons, List.length_nil]; omega) (by simp only [List.length_append, List.length_cons, List.length_nil]; omega) rfl fun v7 w7 hg7 hcg7 => ?_
  have hch := GR.frame hg5 hcg7 hch (by first | omega | exact Nat.le_refl _)
  have hg5 := hg7
  rw [show ([] ++ l) = l from by simp] at hg5
  refine za rfl (zz (kh8 ?_))
  refine CW.ret ?_
  refine bodyA.ret1 rfl rfl ?_
  exact ⟨hg5, hch⟩

end Go.Proofs.YtphnpchmdpjabaaGreatDoor

/- Maps keyed by whole numbers, in the engine. No condition. -/
namespace Go.Proofs.YtphnpchmdpjabaaGreatDoor.Sx
open Go

structure ME where
  key : Int
  val : Value
  born : Nat
def meV (kk : IntKind) (e : ME) : MapEntry := ⟨.int kk e.key, e.val, e.born⟩
def mapO (kk : IntKind) (es : List ME) (c : Nat) : Obj := .map (es.map (meV kk)).toArray c
section
variable {P : Program} {t key elem : TypeId} {kk : IntKind} {w : World} {sk bk : Nat} {zk : Value}
end

section
variable {P : Program} {n : Nat} {D : List Deferred} {s : Sl} {w : World} {ty : TypeId} {x y z : Operand} {ops : Array Oper} {K : KK} {rest : List Oper} {pos : String} {af : Array Edge} {d : Nat}
variable {t key elem : TypeId} {kk : IntKind} {sz by_ sk bk se be : Nat} {zt zk ze : Value} {de : TypeDesc} {r c : Nat} {es : List ME} {k : Int}
/-! A range over a map -/
end
end Go.Proofs.YtphnpchmdpjabaaGreatDoor.Sx

/- The walks of the small functions on numbers' bits. No condition. -/
namespace Go.Proofs.YtphnpchmdpjabaaGreatDoor
open Go Sx Fl

theorem andNot_top (b : Nat) (h : 9223372036854775808 ≤ b) (hb : b < 18446744073709551616) : bits2 .andNot .u64 (b : Int) 9223372036854775808 = (b : Int) - 9223372036854775808 := by
  have e : (BitVec.ofInt 64 (b : Int) &&& ~~~BitVec.ofInt 64 9223372036854775808).toNat = b - 9223372036854775808 := by
    rw [BitVec.toNat_and, BitVec.toNat_not]
    have h1 : (BitVec.ofInt 64 (b : Int)).toNat = b := by simp [BitVec.toNat_ofInt]; omega
    have h2 : (BitVec.ofInt 64 9223372036854775808).toNat = 9223372036854775808 := by decide
    rw [h1, h2]
    have h3 : b &&& (2 ^ 64 - 1 - 9223372036854775808) = b % 2 ^ 63 := by
      rw [← Nat.and_two_pow_sub_one_eq_mod]
    rw [h3]
    omega
  show IntKind.u64.wrap ((BitVec.ofInt 64 (b : Int) &&& ~~~BitVec.ofInt 64 9223372036854775808).toNat : Int) = _
  rw [e, IntWalk.u64_in _ (by omega)]
  omega
theorem compl_i64 (n : Int) (h0 : 0 ≤ n) (h1 : n ≤ 9223372036854775807) : bits2 .xor .i64 (-1) n = -1 - n := by
  have e : (BitVec.ofInt 64 (-1) ^^^ BitVec.ofInt 64 n).toNat = 18446744073709551615 - n.toNat := by
    have ha : BitVec.ofInt 64 (-1) = BitVec.allOnes 64 := by decide
    rw [ha, BitVec.allOnes_xor, BitVec.toNat_not]
    have h2 : (BitVec.ofInt 64 n).toNat = n.toNat := by simp [BitVec.toNat_ofInt]; omega
    rw [h2]
  show IntKind.i64.wrap ((BitVec.ofInt 64 (-1) ^^^ BitVec.ofInt 64 n).toNat : Int) = _
  rw [e, IntKind.wrap_i64]
  omega
theorem shr63 (b : Nat) (hb : b < 18446744073709551616) : (b : Int).fdiv (2 ^ (min (63 : Int).toNat IntKind.u64.bits)) = if 9223372036854775808 ≤ b then 1 else 0 := by
  show (b : Int).fdiv 9223372036854775808 = _
  rw [Int.fdiv_eq_ediv_of_nonneg _ (by omega)]
  split <;> omega
theorem key_neg (b : Nat) (hb : b < 18446744073709551616) (h1 : isNaN b = false) (h2 : (b : Int).fdiv (2 ^ (min (63 : Int).toNat IntKind.u64.bits)) = 1) :
    bits2 .xor .i64 (if IntKind.i64.signed then -1 else IntKind.i64.max) (IntKind.i64.wrap (bits2 .andNot .u64 (b : Int) 9223372036854775808)) = key b := by
  rw [shr63 b hb] at h2
  have h3 : 9223372036854775808 ≤ b := by
    by_cases h : 9223372036854775808 ≤ b
    · exact h
    · rw [if_neg h] at h2; cases h2
  rw [key_neg_eq h1 h3, andNot_top b h3 hb, wrap_i64 (by omega)]
  exact compl_i64 _ (by omega) (by omega)
theorem key_pos (b : Nat) (hb : b < 18446744073709551616) (h1 : isNaN b = false) (h2 : ¬ (b : Int).fdiv (2 ^ (min (63 : Int).toNat IntKind.u64.bits)) = 1) : IntKind.i64.wrap (b : Int) = key b := by
  rw [shr63 b hb] at h2
  have h3 : b < 9223372036854775808 := by
    by_cases h : 9223372036854775808 ≤ b
    · rw [if_pos h] at h2; exact absurd rfl h2
    · omega
  rw [key_pos_eq h1 h3, wrap_i64 (by omega)]
theorem canon_lt' {b : Nat} (h : b < 18446744073709551616) : (canon b : Int) < 18446744073709551616 := by
  have := canon_lt h; omega
theorem place_neg (b : Nat) (hb : b < 18446744073709551616) (h : 9223372036854775808 ≤ ((canon b : Nat) : Int)) : IntKind.i64.wrap (-1 - IntKind.i64.wrap (IntKind.u64.wrap ((canon b : Nat) - 9223372036854775808))) = place b := by
  have := canon_lt' hb
  rw [IntWalk.u64_in _ (by omega), wrap_i64 (n := (canon b : Int) - 9223372036854775808) (by omega), wrap_i64 (by omega), place, if_pos (by omega)]
theorem place_pos (b : Nat) (hb : b < 18446744073709551616) (h : ((canon b : Nat) : Int) < 9223372036854775808) : IntKind.i64.wrap ((canon b : Nat) : Int) = place b := by
  rw [wrap_i64 (by omega), place, if_neg (by omega)]

theorem bits_key_spec (b : Nat) (hb : b < 18446744073709551616) (w : World) : Ret Tryz.prog 110 [.float .f64 b] w fun v w' => v = .int .i64 (key b) ∧ w = w' := by
 refine Ret.enter Tryz.func110 rfl rfl ?_
 refine Sr fun _ kh1 => za rfl (zz (kh1 (zc fun _ kh3 => Sr fun _ kh4 => zm rfl (zm rfl ?_))))
 refine WL.ev (Ev.fneq rfl rfl) rfl ?_
 refine zz (kh4 ?_)
 refine CW.cond rfl (fun hc1 => ?_) (fun hc1 => ?_)
 ·
  rw [order_self] at hc1
  refine Sr fun _ kh6 => za rfl (zz (kh6 ?_))
  refine CW.ret ?_
  refine bodyA.ret1 rfl rfl ?_
  exact ⟨by simp [key, hc1], rfl⟩
 ·
  rw [order_self] at hc1
  refine CW.skip ?_
  refine kh3 (Sr fun _ kh8 => zm rfl ?_)
  refine WL.ev (Ev.ext rfl (ext40 _ _)) rfl ?_
  refine za rfl (zz (kh8 (zc fun _ kh10 => Sr fun _ kh11 => zm rfl ?_)))
  refine WL.ev (Ev.shr rfl rfl (by omega)) rfl ?_
  refine zq rfl rfl (zz (kh11 ?_))
  refine CW.cond rfl (fun hc2 => ?_) (fun hc2 => ?_)
  ·
   simp only [decide_eq_true_eq, decide_eq_false_iff_not] at hc2
   refine Sr fun _ kh13 => zm rfl ?_
   refine WL.ev (Ev.andNot rfl rfl) rfl ?_
   refine WL.ev (Ev.conv rfl rfl) rfl ?_
   refine WL.ev (Ev.compl rfl) rfl ?_
   refine za rfl (zz (kh13 ?_))
   refine CW.ret ?_
   refine bodyA.ret1 rfl rfl ?_
   exact ⟨by rw [key_neg b hb hc1 hc2], rfl⟩
  ·
   simp only [decide_eq_true_eq, decide_eq_false_iff_not] at hc2
   refine CW.skip ?_
   refine kh10 (Sr fun _ kh15 => zm rfl ?_)
   refine WL.ev (Ev.conv rfl rfl) rfl ?_
   refine za rfl (zz (kh15 ?_))
   refine CW.ret ?_
   refine bodyA.ret1 rfl rfl ?_
   exact ⟨by rw [key_pos b hb hc1 hc2], rfl⟩

theorem bits_Order_spec (a b : Nat) (ha : a < 18446744073709551616) (hb : b < 18446744073709551616) (w : World) : Ret Tryz.prog 65 [.float .f64 a, .float .f64 b] w fun v w' => v = .int .i64 (cmpI (key a) (key b)) ∧ w = w' := by
 refine Ret.enter Tryz.func65 rfl rfl ?_
 refine Sr fun _ kh1 => za rfl (zz (kh1 (Sr fun _ kh3 => zm rfl ?_)))
 refine WL.call hasF110 rfl rfl (bits_key_spec _ ha _) fun v w1 h => ?_
 obtain ⟨rfl, rfl⟩ := h
 refine zm rfl ?_
 refine WL.call hasF110 rfl rfl (bits_key_spec _ hb _) fun v w2 h => ?_
 obtain ⟨rfl, rfl⟩ := h
 refine za rfl (za rfl (zz (kh3 (zc fun _ kh5 => ?_))))
 refine CW.block ?_
 refine Sr fun _ kh6 => zm rfl (zm rfl ?_)
 refine WL.ev (Ev.lss rfl rfl) rfl ?_
 refine za rfl (zz (kh6 ?_))
 refine CW.cond rfl (fun hc1 => ?_) (fun hc1 => ?_)
 ·
  simp only [decide_eq_true_eq, decide_eq_false_iff_not, Decidable.not_not, Bool.and_eq_true, Bool.or_eq_true, Bool.not_eq_true', ne_eq, Int.not_lt, Int.not_le] at hc1
  refine Sr fun _ kh8 => za rfl (zz (kh8 ?_))
  refine CW.ret ?_
  refine bodyA.ret1 rfl rfl ?_
  exact ⟨by rw [cmpI, if_pos hc1], rfl⟩
 ·
  simp only [decide_eq_true_eq, decide_eq_false_iff_not, Decidable.not_not, Bool.and_eq_true, Bool.or_eq_true, Bool.not_eq_true', ne_eq, Int.not_lt, Int.not_le] at hc1
  refine Sr fun _ kh10 => zm rfl (zm rfl ?_)
  refine WL.ev (Ev.gtr rfl rfl) rfl ?_
  refine za rfl (zz (kh10 ?_))
  refine CW.cond rfl (fun hc2 => ?_) (fun hc2 => ?_)
  ·
   simp only [decide_eq_true_eq, decide_eq_false_iff_not, Decidable.not_not, Bool.and_eq_true, Bool.or_eq_true, Bool.not_eq_true', ne_eq, Int.not_lt, Int.not_le] at hc2
   refine Sr fun _ kh12 => za rfl (zz (kh12 ?_))
   refine CW.ret ?_
   refine bodyA.ret1 rfl rfl ?_
   exact ⟨by rw [cmpI, if_neg (by omega), if_pos hc2], rfl⟩
  ·
   simp only [decide_eq_true_eq, decide_eq_false_iff_not, Decidable.not_not, Bool.and_eq_true, Bool.or_eq_true, Bool.not_eq_true', ne_eq, Int.not_lt, Int.not_le] at hc2
   refine CW.skip ?_
   refine kh5 (Sr fun _ kh14 => za rfl (zz (kh14 ?_)))
   refine CW.ret ?_
   refine bodyA.ret1 rfl rfl ?_
   exact ⟨by rw [cmpI, if_neg (by omega), if_neg (by omega)], rfl⟩

theorem steelyardref01_Bits_spec (b : Nat) (hb : b < 18446744073709551616) (w : World) : Ret Tryz.prog 177 [.float .f64 b] w fun v w' => v = .int .u64 (canon b : Nat) ∧ w = w' := by
 refine Ret.enter Tryz.func177 rfl rfl ?_
 refine Sr fun _ kh1 => za rfl (zz (kh1 (Sr fun _ kh3 => zm rfl ?_)))
 refine WL.ev (Ev.ext rfl (ext40 _ _)) rfl ?_
 refine za rfl (zz (kh3 (zc fun _ kh5 => Sr fun _ kh6 => zm rfl ?_)))
 first | refine WL.ev (Ev.remIn rfl rfl (by omega) (by omega)) rfl ?_ | refine WL.ev (Ev.rem rfl rfl (by omega)) rfl ?_
 refine WL.ev (Ev.gtr rfl rfl) rfl ?_
 refine zz (kh6 ?_)
 refine CW.cond rfl (fun hc1 => ?_) (fun hc1 => ?_)
 ·
  simp only [decide_eq_true_eq, decide_eq_false_iff_not, Decidable.not_not, Bool.and_eq_true, Bool.or_eq_true, Bool.not_eq_true', ne_eq, Int.not_lt, Int.not_le] at hc1
  refine Sr fun _ kh8 => za rfl (zz (kh8 ?_))
  refine CW.ret ?_
  refine bodyA.ret1 rfl rfl ?_
  exact ⟨by rw [canon, if_pos (by simp only [isNaN, decide_eq_true_eq]; omega)]; rfl, rfl⟩
 ·
  simp only [decide_eq_true_eq, decide_eq_false_iff_not, Decidable.not_not, Bool.and_eq_true, Bool.or_eq_true, Bool.not_eq_true', ne_eq, Int.not_lt, Int.not_le] at hc1
  refine CW.skip ?_
  refine kh5 (Sr fun _ kh10 => zm rfl (za rfl (zz (kh10 ?_))))
  refine CW.ret ?_
  refine bodyA.ret1 rfl rfl ?_
  exact ⟨by rw [canon, if_neg (by simp only [isNaN, decide_eq_true_eq]; omega)], rfl⟩

theorem steelyardref01_place_spec (b : Nat) (hb : b < 18446744073709551616) (w : World) : Ret Tryz.prog 146 [.float .f64 b] w fun v w' => v = .int .i64 (place b) ∧ w = w' := by
 refine Ret.enter Tryz.func146 rfl rfl ?_
 refine Sr fun _ kh1 => za rfl (zz (kh1 (Sr fun _ kh3 => zm rfl ?_)))
 refine WL.call hasF177 rfl rfl (steelyardref01_Bits_spec _ hb _) fun v w1 h => ?_
 obtain ⟨rfl, rfl⟩ := h
 refine za rfl (zz (kh3 (zc fun _ kh5 => Sr fun _ kh6 => zm rfl ?_)))
 refine WL.ev (Ev.geq rfl rfl) rfl ?_
 refine zz (kh6 ?_)
 refine CW.cond rfl (fun hc1 => ?_) (fun hc1 => ?_)
 ·
  simp only [decide_eq_true_eq, decide_eq_false_iff_not, Decidable.not_not, Bool.and_eq_true, Bool.or_eq_true, Bool.not_eq_true', ne_eq, Int.not_lt, Int.not_le] at hc1
  refine Sr fun _ kh8 => zm rfl ?_
  refine WL.ev (Ev.sub rfl rfl) rfl ?_
  refine WL.ev (Ev.conv rfl rfl) rfl ?_
  first | refine WL.ev (Ev.subIn rfl rfl (by omega)) rfl ?_ | refine WL.ev (Ev.sub rfl rfl) rfl ?_
  refine za rfl (zz (kh8 ?_))
  refine CW.ret ?_
  refine bodyA.ret1 rfl rfl ?_
  exact ⟨by rw [place_neg b hb hc1], rfl⟩
 ·
  simp only [decide_eq_true_eq, decide_eq_false_iff_not, Decidable.not_not, Bool.and_eq_true, Bool.or_eq_true, Bool.not_eq_true', ne_eq, Int.not_lt, Int.not_le] at hc1
  refine CW.skip ?_
  refine kh5 (Sr fun _ kh10 => zm rfl ?_)
  refine WL.ev (Ev.conv rfl rfl) rfl ?_
  refine za rfl (zz (kh10 ?_))
  refine CW.ret ?_
  refine bodyA.ret1 rfl rfl ?_
  exact ⟨by rw [place_pos b hb hc1], rfl⟩

theorem steelyardref01_Order_spec (a b : Nat) (ha : a < 18446744073709551616) (hb : b < 18446744073709551616) (w : World) : Ret Tryz.prog 112 [.float .f64 a, .float .f64 b] w fun v w' => v = .int .i64 (cmpI (place a) (place b)) ∧ w = w' := by
 refine Ret.enter Tryz.func112 rfl rfl ?_
 refine Sr fun _ kh1 => za rfl (zz (kh1 (Sr fun _ kh3 => zm rfl ?_)))
 refine WL.call hasF146 rfl rfl (steelyardref01_place_spec _ ha _) fun v w1 h => ?_
 obtain ⟨rfl, rfl⟩ := h
 refine za rfl (zz (kh3 (Sr fun _ kh5 => zm rfl ?_)))
 refine WL.call hasF146 rfl rfl (steelyardref01_place_spec _ hb _) fun v w2 h => ?_
 obtain ⟨rfl, rfl⟩ := h
 refine za rfl (zz (kh5 (zc fun _ kh7 => Sr fun _ kh8 => zm rfl (zm rfl ?_))))
 refine WL.ev (Ev.lss rfl rfl) rfl ?_
 refine zz (kh8 ?_)
 refine CW.cond rfl (fun hc1 => ?_) (fun hc1 => ?_)
 ·
  simp only [decide_eq_true_eq, decide_eq_false_iff_not, Decidable.not_not, Bool.and_eq_true, Bool.or_eq_true, Bool.not_eq_true', ne_eq, Int.not_lt, Int.not_le] at hc1
  refine Sr fun _ kh10 => za rfl (zz (kh10 ?_))
  refine CW.ret ?_
  refine bodyA.ret1 rfl rfl ?_
  exact ⟨by rw [cmpI, if_pos hc1], rfl⟩
 ·
  simp only [decide_eq_true_eq, decide_eq_false_iff_not, Decidable.not_not, Bool.and_eq_true, Bool.or_eq_true, Bool.not_eq_true', ne_eq, Int.not_lt, Int.not_le] at hc1
  refine CW.skip ?_
  refine kh7 (zc fun _ kh12 => Sr fun _ kh13 => zm rfl (zm rfl ?_))
  refine WL.ev (Ev.gtr rfl rfl) rfl ?_
  refine zz (kh13 ?_)
  refine CW.cond rfl (fun hc2 => ?_) (fun hc2 => ?_)
  ·
   simp only [decide_eq_true_eq, decide_eq_false_iff_not, Decidable.not_not, Bool.and_eq_true, Bool.or_eq_true, Bool.not_eq_true', ne_eq, Int.not_lt, Int.not_le] at hc2
   refine Sr fun _ kh15 => za rfl (zz (kh15 ?_))
   refine CW.ret ?_
   refine bodyA.ret1 rfl rfl ?_
   exact ⟨by rw [cmpI, if_neg (by omega), if_pos hc2], rfl⟩
  ·
   simp only [decide_eq_true_eq, decide_eq_false_iff_not, Decidable.not_not, Bool.and_eq_true, Bool.or_eq_true, Bool.not_eq_true', ne_eq, Int.not_lt, Int.not_le] at hc2
   refine CW.skip ?_
   refine kh12 (Sr fun _ kh17 => za rfl (zz (kh17 ?_)))
   refine CW.ret ?_
   refine bodyA.ret1 rfl rfl ?_
   exact ⟨by rw [cmpI, if_neg (by omega), if_neg (by omega)], rfl⟩

end Go.Proofs.YtphnpchmdpjabaaGreatDoor

/- Reference of layer 13: Sorted. No condition. -/
namespace Go.Proofs.YtphnpchmdpjabaaGreatDoor
open Go Sx Wd Fl

structure KMg (A B l : List Nat) (w0 w2 : World) (g : Nat × Nat × Value × List Nat) (w : World) : Prop where
  hi : g.1 ≤ A.length
  hk : g.2.1 ≤ B.length
  len : g.2.2.2.length = g.1 + g.2.1
  hm : g.2.2.2 ++ mrg (A.drop g.1) (B.drop g.2.1) = mrg A B
  hg : GR w 28 f64v w2.heap.size [] g.2.2.1 g.2.2.2
  ch : Chg [] w0 w
  cr : Chg [] w2 w

set_option maxRecDepth 8000 in
set_option maxHeartbeats 2000000 in
theorem r13SortedStep (v : Value) (l : List Nat) (w : World) (hlm : l.length ≤ 1000000) (hv : NF w v l) (hn : Nums l)
    (ih : ∀ (v : Value) (l2 : List Nat) (w : World), l2.length < l.length → NF w v l2 → Nums l2 → Ret Tryz.prog 69 [v] w fun u w' => NF w' u (sortP l2) ∧ Chg [] w w') : Ret Tryz.prog 69 [v] w fun u w' => NF w' u (sortP l) ∧ Chg [] w w' := by
  have hv0 := hv
  obtain ⟨⟨al, cl, rfl, hcap, hrl⟩, hWl, hll⟩ := hv
  have hch : Chg [] w w := Chg.refl _ _
  refine Ret.enter Tryz.func69 rfl rfl ?_
  simp only [args0, Nat.zero_add, Nat.reduceAdd]
  refine Sq fun _ kh1 _ kr2 => ?_
  refine As rfl rfl ?_
  refine WL.nil (kr2 _ _ _ (kh1 _ _ _ ?_))
  refine CW.seq fun _ kh3 => ?_
  refine Sq fun _ kh4 _ kr5 => ?_
  refine Mv rfl rfl ?_
  refine WL.ev (Ev.len rfl) rfl ?_
  refine WL.ev (Ev.lss rfl rfl) rfl ?_
  refine WL.nil (kr5 _ _ _ (kh4 _ _ _ ?_))
  refine CW.cond rfl (fun hc1 => ?_) (fun hc1 => ?_)
  ·
    try simp only [qs] at hc1
    have hsh : sortP l = l := sortP_short (by omega) hn
    refine Sq fun _ kh6 _ kr7 => ?_
    refine WL.emptySlice (f := f64v) (lo := w.heap.size) (X := []) hch.size (by simp) rfl fun v11 w11 hg11 hcm11 => ?_
    have hch := hch.trans (Chg.any hcm11)
    refine Mv rfl rfl ?_
    refine WL.growR (f := f64v) (lo := w.heap.size) (X := []) (l := []) (news := l) (by rfl) (fun i => rfl) rfl rfl hg11 (by first | rfl | (simp; done) | (simp; omega) | omega) (hrl.keep0 hch) (by first | omega | exact hch.size | exact hcr.size | exact Nat.le_refl _) (by simp) (by simp only [List.length_append, List.length_cons, List.length_nil]; omega) (by simp only [List.length_append, List.length_cons, List.length_nil]; omega) rfl fun v13 w13 hg13 hcg13 => ?_
    have hch := GR.frame hg11 hcg13 hch (by first | omega | exact Nat.le_refl _)
    have hg11 := hg13
    rw [show ([] ++ l) = l from by simp] at hg11
    refine As rfl rfl ?_
    refine WL.nil (kr7 _ _ _ (kh6 _ _ _ ?_))
    refine CW.ret ?_
    refine bodyA.ret1 rfl rfl ?_
    exact ⟨by rw [hsh]; exact hg11.nf hWl hll, hch⟩
  ·
    try simp only [qs] at hc1
    have hbig : 2 ≤ l.length := by omega
    refine CW.skip ?_
    refine kh3 _ _ _ ?_
    refine Sq fun _ kh8 _ kr9 => ?_
    refine Mv rfl rfl ?_
    refine Mv rfl rfl ?_
    refine WL.ev (Ev.len rfl) rfl ?_
    first | refine WL.ev (Ev.quoIn rfl rfl (by omega) (by simp only [IntKind.max, IntKind.signed, IntKind.bits]; omega) (by omega)) rfl ?_ | refine WL.ev (Ev.quo rfl rfl (by omega)) rfl ?_
    refine WL.ev (Ev.sliceHn (((l).length / 2)) rfl rfl (by omega) (by omega)) rfl ?_
    refine WL.call hasF69 rfl rfl (ih _ (l.take (l.length / 2)) _ (by rw [List.length_take]; omega) ((hv0.keep0 hch).head (by omega)) (hn.take _)) fun v w1 h' => ?_
    obtain ⟨hNa, hC⟩ := h'
    have hla := sortP_length (l.take (l.length / 2))
    have hpa := sortP_perm (l.take (l.length / 2))
    have hna := (hn.take (l.length / 2)).perm hpa.symm
    generalize hA : sortP (l.take (l.length / 2)) = A at *
    rw [List.length_take] at hla
    obtain ⟨⟨aa, ca, rfl, hcapa, hra⟩, hWa, hlla⟩ := hNa
    have hwa := hch.size
    have hch := hch.trans (Chg.any hC)
    refine As rfl rfl ?_
    refine WL.nil (kr9 _ _ _ (kh8 _ _ _ ?_))
    refine Sq fun _ kh10 _ kr11 => ?_
    refine Mv rfl rfl ?_
    refine Mv rfl rfl ?_
    refine WL.ev (Ev.len rfl) rfl ?_
    first | refine WL.ev (Ev.quoIn rfl rfl (by omega) (by simp only [IntKind.max, IntKind.signed, IntKind.bits]; omega) (by omega)) rfl ?_ | refine WL.ev (Ev.quo rfl rfl (by omega)) rfl ?_
    refine WL.ev (Ev.sliceLn (((l).length / 2)) rfl rfl (by omega) (by omega)) rfl ?_
    refine WL.call hasF69 rfl rfl (ih _ (l.drop (l.length / 2)) _ (by rw [List.length_drop]; omega) ((hv0.keep0 hch).tail_ (by omega)) (hn.drop _)) fun v w2 h' => ?_
    obtain ⟨hNb, hC⟩ := h'
    have hlb := sortP_length (l.drop (l.length / 2))
    have hpb := sortP_perm (l.drop (l.length / 2))
    have hnb := (hn.drop (l.length / 2)).perm hpb.symm
    generalize hB : sortP (l.drop (l.length / 2)) = B at *
    rw [List.length_drop] at hlb
    obtain ⟨⟨ab, cb, rfl, hcapb, hrb⟩, hWb, hllb⟩ := hNb
    have hch := hch.trans (Chg.any hC)
    have hra := hra.keep0 hC
    refine As rfl rfl ?_
    refine WL.nil (kr11 _ _ _ (kh10 _ _ _ ?_))
    refine CW.seq fun _ kh12 => ?_
    have hcr : Chg [] w2 w2 := Chg.refl _ _
    have hw2 := hch.size
    have hmA : mrg A B = sortP l := by rw [← hA, ← hB]; exact mrg_sorted (by rw [List.take_append_drop]) hn
    refine CW.region fun kR13 kr13 => ?_
    refine As rfl rfl ?_
    refine WL.nil (kr13 _ _ _ (kh12 _ _ _ ?_))
    refine Sq fun _ kh14 _ kr15 => ?_
    refine As rfl rfl ?_
    refine WL.nil (kr15 _ _ _ (kh14 _ _ _ ?_))
    refine Sq fun _ kh16 _ kr17 => ?_
    refine As rfl rfl ?_
    refine WL.nil (kr17 _ _ _ (kh16 _ _ _ ?_))
    refine CW.seq fun _ kh18 => ?_
    refine CW.block ?_
    refine CW.loop (S := fun g : Nat × Nat × Value × List Nat => [(3, .slice aa A.length ca), (4, .slice ab B.length cb), (5, g.2.2.1), (6, .int .i64 (g.1 : Int)), (7, .int .i64 (g.2.1 : Int))]) (Inv := KMg A B l w w2) (mu := fun g => A.length + B.length - (g.1 + g.2.1)) ((0, 0, .slice none 0 0, [])) ?_ ?_ ?_
    ·
      exact ⟨Nat.zero_le _, Nat.zero_le _, rfl, rfl, GR.nil, hch, hcr⟩
    ·
      exact SLp
    ·
      rintro ⟨i, k, vo, o⟩ wr ⟨hi, hk, hlen, hm, hgo, hch, hcr⟩
      dsimp only at hi hk hlen hm hgo hch hcr
      dsimp only
      refine CW.seq fun _ kh19 => ?_
      refine CW.seqM 35 (decide (i < A.length ∨ k < B.length)) ?_ ?_
      ·
        refine CW.region fun kR20 kr20 => ?_
        refine Mv rfl rfl ?_
        refine Mv rfl rfl ?_
        refine WL.ev (Ev.len rfl) rfl ?_
        refine WL.ev (Ev.lss rfl rfl) rfl ?_
        refine Mv rfl rfl ?_
        refine WL.boolCase (fun hg2 => ?_) (fun hg2 => ?_)
        ·
          try simp only [qs] at hg2
          refine WL.pass rfl rfl rfl rfl rfl ?_
          refine WL.pass rfl rfl rfl rfl rfl ?_
          refine WL.pass rfl rfl rfl rfl rfl ?_
          refine WL.pass rfl rfl rfl rfl rfl ?_
          refine WL.ev (Ev.pickT rfl rfl rfl) rfl ?_
          refine WL.nil (kr20 _ _ _ ?_)
          refine ⟨rfl, rfl, Subs.consB rfl ?_ ?_⟩
          ·
            first | (simp; omega) | (simp_all; done) | (refine decide_eq_decide.2 ?_; omega)
          ·
            exact SMg
        ·
          try simp only [qs] at hg2
          refine WL.want rfl rfl rfl rfl ?_
          refine Mv rfl rfl ?_
          refine WL.want rfl rfl rfl rfl ?_
          refine Mv rfl rfl ?_
          refine WL.want rfl rfl rfl rfl ?_
          refine WL.ev (Ev.len rfl) rfl ?_
          refine WL.want rfl rfl rfl rfl ?_
          refine WL.ev (Ev.lss rfl rfl) rfl ?_
          refine WL.ev (Ev.pickF rfl rfl rfl) rfl ?_
          refine WL.nil (kr20 _ _ _ ?_)
          refine ⟨rfl, rfl, Subs.consB rfl ?_ ?_⟩
          ·
            first | (simp; omega) | (simp_all; done) | (refine decide_eq_decide.2 ?_; omega)
          ·
            exact SMg
      ·
        refine CW.cond rfl (fun hc3 => ?_) (fun hc3 => ?_)
        ·
          try simp only [qs] at hc3
          have hgo_ : i < A.length ∨ k < B.length := hc3
          refine CW.skip ?_
          refine kh19 _ _ _ ?_
          refine CW.block ?_
          refine CW.seqMD 57 (decide (k = B.length ∨ (i < A.length ∧ key (A.getD i 0) ≤ key (B.getD k 0)))) ?_ ?_
          ·
            refine CW.regionSC hmix (by kernel_rfl) fun kR21 kr21 hdr => ?_
            have hch := hch.trans (Chg.any hdr)
            have hcr := hcr.trans (Chg.any hdr)
            have hgo := hgo.keep0 hdr
            refine WS.ev (Ev.move rfl) rfl ?_
            refine WS.ev (Ev.move rfl) rfl ?_
            refine WS.ev (Ev.len rfl) rfl ?_
            refine WS.ev (Ev.eql rfl rfl) rfl ?_
            refine WS.ev (Ev.move rfl) rfl ?_
            refine WS.boolCase (fun hg4 => ?_) (fun hg4 => ?_)
            ·
              try simp only [qs] at hg4
              refine WS.pass rfl rfl rfl rfl rfl ?_
              refine WS.pass rfl rfl rfl rfl rfl ?_
              refine WS.pass rfl rfl rfl rfl rfl ?_
              refine WS.pass rfl rfl rfl rfl rfl ?_
              refine WS.pass rfl rfl rfl rfl rfl ?_
              refine WS.passU rfl rfl rfl rfl ?_
              refine WS.passU rfl rfl rfl rfl ?_
              refine WS.passU rfl rfl rfl rfl ?_
              refine WS.passU rfl rfl rfl rfl ?_
              refine WS.passU rfl rfl rfl rfl ?_
              refine WS.passU rfl rfl rfl rfl ?_
              refine WS.passU rfl rfl rfl rfl ?_
              refine WS.passU rfl rfl rfl rfl ?_
              refine WS.passU rfl rfl rfl rfl ?_
              refine WS.passU rfl rfl rfl rfl ?_
              refine WS.pass rfl rfl rfl rfl rfl ?_
              refine WS.ev (Ev.pickT rfl rfl rfl) rfl ?_
              refine WS.nil (kr21 _ _ ?_)
              refine ⟨rfl, rfl, Subs.consB rfl ?_ ?_⟩
              ·
                first | (simp; omega) | (simp_all; done) | (refine decide_eq_decide.2 ?_; omega)
              ·
                exact SMg
            ·
              try simp only [qs] at hg4
              have hkB : k < B.length := by have := hg4; omega
              refine WS.want rfl rfl rfl rfl ?_
              refine WS.ev (Ev.move rfl) rfl ?_
              refine WS.want rfl rfl rfl rfl ?_
              refine WS.ev (Ev.move rfl) rfl ?_
              refine WS.want rfl rfl rfl rfl ?_
              refine WS.ev (Ev.len rfl) rfl ?_
              refine WS.want rfl rfl rfl rfl ?_
              refine WS.ev (Ev.lss rfl rfl) rfl ?_
              refine WS.want rfl rfl rfl rfl ?_
              refine WS.ev (Ev.move rfl) rfl ?_
              refine WS.boolCase (fun hg5 => ?_) (fun hg5 => ?_)
              ·
                try simp only [qs] at hg5
                have hiA : i < A.length := by have := hg5; omega
                have hx := hna.getD hiA
                have hy := hnb.getD hkB
                refine WS.want rfl rfl rfl rfl ?_
                refine WS.ev (Ev.move rfl) rfl ?_
                refine WS.want rfl rfl rfl rfl ?_
                refine WS.ev (Ev.move rfl) rfl ?_
                refine WS.want rfl rfl rfl rfl ?_
                refine WS.ev (Ev.ixR (i) rfl rfl (hra.keep0 hcr) (by omega) (by omega) (by simp; omega)) rfl ?_
                refine WS.want rfl rfl rfl rfl ?_
                refine WS.ev (Ev.load rfl rfl ((hra.keep0 hcr).f64 (by first | omega | (simp; omega)))) rfl ?_
                refine WS.want rfl rfl rfl rfl ?_
                refine WS.ev (Ev.move rfl) rfl ?_
                refine WS.want rfl rfl rfl rfl ?_
                refine WS.ev (Ev.move rfl) rfl ?_
                refine WS.want rfl rfl rfl rfl ?_
                refine WS.ev (Ev.ixR (k) rfl rfl (hrb.keep0 hcr) (by omega) (by omega) (by simp; omega)) rfl ?_
                refine WS.want rfl rfl rfl rfl ?_
                refine WS.ev (Ev.load rfl rfl ((hrb.keep0 hcr).f64 (by first | omega | (simp; omega)))) rfl ?_
                refine WS.want rfl rfl rfl rfl ?_
                refine WS.call hasF112 rfl rfl (steelyardref01_Order_spec (A.getD i 0) (B.getD k 0) hx.1 hy.1 _) ?_
                refine WS.want rfl rfl rfl rfl ?_
                refine WS.ev (Ev.leq rfl rfl) rfl ?_
                rw [place_key hx.2, place_key hy.2, show decide (cmpI (key (A.getD i 0)) (key (B.getD k 0)) ≤ 0) = decide (key (A.getD i 0) ≤ key (B.getD k 0)) from decide_eq_decide.2 (cmp_le _ _)]
                refine WS.want rfl rfl rfl rfl ?_
                refine WS.ev (Ev.pickT rfl rfl rfl) rfl ?_
                refine WS.ev (Ev.pickF rfl rfl rfl) rfl ?_
                refine WS.nil (kr21 _ _ ?_)
                refine ⟨rfl, rfl, Subs.consB rfl ?_ ?_⟩
                ·
                  first | (simp; omega) | (simp_all; done) | (refine decide_eq_decide.2 ?_; omega)
                ·
                  exact SMg
              ·
                try simp only [qs] at hg5
                refine WS.pass rfl rfl rfl rfl rfl ?_
                refine WS.pass rfl rfl rfl rfl rfl ?_
                refine WS.pass rfl rfl rfl rfl rfl ?_
                refine WS.pass rfl rfl rfl rfl rfl ?_
                refine WS.pass rfl rfl rfl rfl rfl ?_
                refine WS.pass rfl rfl rfl rfl rfl ?_
                refine WS.pass rfl rfl rfl rfl rfl ?_
                refine WS.pass rfl rfl rfl rfl rfl ?_
                refine WS.pass rfl rfl rfl rfl rfl ?_
                refine WS.pass rfl rfl rfl rfl rfl ?_
                refine WS.want rfl rfl rfl rfl ?_
                refine WS.ev (Ev.pickF rfl rfl rfl) rfl ?_
                refine WS.ev (Ev.pickF rfl rfl rfl) rfl ?_
                refine WS.nil (kr21 _ _ ?_)
                refine ⟨rfl, rfl, Subs.consB rfl ?_ ?_⟩
                ·
                  first | (simp; omega) | (simp_all; done) | (refine decide_eq_decide.2 ?_; omega)
                ·
                  exact SMg
          ·
            intro hdr
            have hch := hch.trans (Chg.any hdr)
            have hcr := hcr.trans (Chg.any hdr)
            have hgo := hgo.keep0 hdr
            refine CW.cond rfl (fun hc6 => ?_) (fun hc6 => ?_)
            ·
              try simp only [qs] at hc6
              have hcc : k = B.length ∨ (i < A.length ∧ key (A.getD i 0) ≤ key (B.getD k 0)) := hc6
              have hiA : i < A.length := by omega
              have hst := mrg_left hiA hk (hcc.imp id And.right)
              refine Sq fun _ kh22 _ kr23 => ?_
              refine Mv rfl rfl ?_
              refine Mv rfl rfl ?_
              refine Mv rfl rfl ?_
              refine WL.ev (Ev.ixR (i) rfl rfl (hra.keep0 hcr) (by omega) (by omega) (by simp; omega)) rfl ?_
              refine WL.ev (Ev.load rfl rfl ((hra.keep0 hcr).f64 (by first | omega | (simp; omega)))) rfl ?_
              refine WL.buildSlice (m := 1) (cs := [f64v (A.getD i 0)]) (by decide) (by decide) rfl (by kernel_rfl) rfl fun b63 w63 hn63 => ?_
              have hcm63 := hn63.chg
              have hge63 := hn63.ge
              have hb63 : FB w63 b63 _ [A.getD i 0] := hn63.at_
              have hgehch63 := Nat.le_trans hch.size hge63
              have hch := hch.trans (Chg.any hcm63)
              have hgehcr63 := Nat.le_trans hcr.size hge63
              have hcr := hcr.trans (Chg.any hcm63)
              have hgo := hgo.keep0 hcm63
              refine WL.growR (f := f64v) (lo := w2.heap.size) (X := []) (l := o) (news := [A.getD i 0]) (by rfl) (fun i => rfl) rfl rfl hgo (by first | rfl | (simp; done) | (simp; omega) | omega) hb63.row (by first | omega | exact hch.size | exact hcr.size | exact Nat.le_refl _) (by simp) (by simp only [List.length_append, List.length_cons, List.length_nil]; omega) (by simp only [List.length_append, List.length_cons, List.length_nil]; omega) rfl fun v64 w64 hg64 hcg64 => ?_
              have hch := GR.frame hgo hcg64 hch (by first | omega | exact Nat.le_refl _)
              have hcr := GR.frame hgo hcg64 hcr (by first | omega | exact Nat.le_refl _)
              have hgo := hg64
              refine As rfl rfl ?_
              refine WL.nil (kr23 _ _ _ (kh22 _ _ _ ?_))
              refine CW.region fun kR24 kr24 => ?_
              refine Mv rfl rfl ?_
              first | refine WL.ev (Ev.addIn rfl rfl (by omega)) rfl ?_ | refine WL.ev (Ev.add rfl rfl) rfl ?_
              refine As rfl rfl ?_
              refine WL.nil (kr24 _ _ _ ?_)
              refine ⟨rfl, (i + 1, k, v64, o ++ [A.getD i 0]), ?_, ?_, ?_⟩
              ·
                exact SLp
              ·
                exact ⟨by dsimp only; omega, hk, by dsimp only; rw [List.length_append, hlen]; simp; omega, by dsimp only; rw [List.append_assoc, List.singleton_append, ← hst]; exact hm, hgo, hch, hcr⟩
              ·
                show A.length + B.length - (i + 1 + k) < A.length + B.length - (i + k); omega
            ·
              try simp only [qs] at hc6
              have hcc : ¬ (k = B.length ∨ (i < A.length ∧ key (A.getD i 0) ≤ key (B.getD k 0))) := hc6
              have hkB : k < B.length := by omega
              have hst := mrg_right hkB hi (by by_cases q : i = A.length; exact .inl q; exact .inr fun q2 => hcc (.inr ⟨by omega, q2⟩))
              refine Sq fun _ kh25 _ kr26 => ?_
              refine Mv rfl rfl ?_
              refine Mv rfl rfl ?_
              refine Mv rfl rfl ?_
              refine WL.ev (Ev.ixR (k) rfl rfl (hrb.keep0 hcr) (by omega) (by omega) (by simp; omega)) rfl ?_
              refine WL.ev (Ev.load rfl rfl ((hrb.keep0 hcr).f64 (by first | omega | (simp; omega)))) rfl ?_
              refine WL.buildSlice (m := 1) (cs := [f64v (B.getD k 0)]) (by decide) (by decide) rfl (by kernel_rfl) rfl fun b72 w72 hn72 => ?_
              have hcm72 := hn72.chg
              have hge72 := hn72.ge
              have hb72 : FB w72 b72 _ [B.getD k 0] := hn72.at_
              have hgehch72 := Nat.le_trans hch.size hge72
              have hch := hch.trans (Chg.any hcm72)
              have hgehcr72 := Nat.le_trans hcr.size hge72
              have hcr := hcr.trans (Chg.any hcm72)
              have hgo := hgo.keep0 hcm72
              refine WL.growR (f := f64v) (lo := w2.heap.size) (X := []) (l := o) (news := [B.getD k 0]) (by rfl) (fun i => rfl) rfl rfl hgo (by first | rfl | (simp; done) | (simp; omega) | omega) hb72.row (by first | omega | exact hch.size | exact hcr.size | exact Nat.le_refl _) (by simp) (by simp only [List.length_append, List.length_cons, List.length_nil]; omega) (by simp only [List.length_append, List.length_cons, List.length_nil]; omega) rfl fun v73 w73 hg73 hcg73 => ?_
              have hch := GR.frame hgo hcg73 hch (by first | omega | exact Nat.le_refl _)
              have hcr := GR.frame hgo hcg73 hcr (by first | omega | exact Nat.le_refl _)
              have hgo := hg73
              refine As rfl rfl ?_
              refine WL.nil (kr26 _ _ _ (kh25 _ _ _ ?_))
              refine CW.region fun kR27 kr27 => ?_
              refine Mv rfl rfl ?_
              first | refine WL.ev (Ev.addIn rfl rfl (by omega)) rfl ?_ | refine WL.ev (Ev.add rfl rfl) rfl ?_
              refine As rfl rfl ?_
              refine WL.nil (kr27 _ _ _ ?_)
              refine ⟨rfl, (i, k + 1, v73, o ++ [B.getD k 0]), ?_, ?_, ?_⟩
              ·
                exact SLp
              ·
                exact ⟨hi, by dsimp only; omega, by dsimp only; rw [List.length_append, hlen]; simp; omega, by dsimp only; rw [List.append_assoc, List.singleton_append, ← hst]; exact hm, hgo, hch, hcr⟩
              ·
                show A.length + B.length - (i + (k + 1)) < A.length + B.length - (i + k); omega
        ·
          try simp only [qs] at hc3
          have hiX : i = A.length := by omega
          have hkX : k = B.length := by omega
          subst hiX
          subst hkX
          rw [List.drop_length, List.drop_length] at hm
          have ho : o = sortP l := by rw [← hmA, ← hm]; simp [mrg]
          refine CW.exit ?_
          refine kh18 _ _ _ ?_
          refine Sq fun _ kh28 _ kr29 => ?_
          refine Mv rfl rfl ?_
          refine As rfl rfl ?_
          refine WL.nil (kr29 _ _ _ (kh28 _ _ _ ?_))
          refine CW.ret ?_
          refine bodyA.ret1 rfl rfl ?_
          subst ho
          exact ⟨hgo.nf (fun x hx => hWl x ((sortP_perm l).mem_iff.1 hx)) (by rw [sortP_length]; exact hll), hch⟩

theorem r13Sorted_spec (v : Value) (l : List Nat) (w : World) (hlm : l.length ≤ 1000000) (hv : NF w v l) (hn : Nums l) : Ret Tryz.prog 69 [v] w fun u w' => NF w' u (sortP l) ∧ Chg [] w w' := by
 have key : ∀ m, ∀ (v : Value) (l : List Nat) (w : World), l.length ≤ m → l.length ≤ 1000000 → NF w v l → Nums l → Ret Tryz.prog 69 [v] w fun u w' => NF w' u (sortP l) ∧ Chg [] w w' := by
  intro m
  induction m with
  | zero => intro v l w h0 hm hv hn; exact r13SortedStep v l w hm hv hn fun v l2 w h => by omega
  | succ m ih => intro v l w h0 hm hv hn; exact r13SortedStep v l w hm hv hn fun v l2 w h hv2 hn2 => ih v l2 w (by omega) (by omega) hv2 hn2
 exact key l.length v l w (Nat.le_refl _) hlm hv hn

end Go.Proofs.YtphnpchmdpjabaaGreatDoor

/- Reference of layer 13: Trimmed. No condition. -/
namespace Go.Proofs.YtphnpchmdpjabaaGreatDoor
open Go Sx Wd Fl

theorem NF.cast {w : World} {v : Value} {l l' : List Nat} (h : NF w v l) (e : l = l') : NF w v l' := e ▸ h

set_option maxRecDepth 8000 in
set_option maxHeartbeats 2000000 in
theorem r13Trimmed_spec (v : Value) (l : List Nat) (k mode : Int) (w : World) (hv : NF w v l) (hk : -9223372036854775808 ≤ k ∧ k ≤ 9223372036854775807) : Ret Tryz.prog 24 [v, .int .i64 k, .int .i64 mode] w fun u w' => (∃ bits e, u = .tuple [.float .f64 bits, .int .i64 e].toArray ∧ trimR l k mode bits e) ∧ Chg [] w w' := by
 have hv0 := hv
 obtain ⟨⟨al, cl, rfl, hcapl, hrl⟩, hWl, hll⟩ := hv
 have hch : Chg [] w w := Chg.refl _ _
 refine Ret.enter Tryz.func24 rfl rfl ?_
 simp only [args0, Nat.zero_add, Nat.reduceAdd]
 refine Sr fun _ kh1 => za rfl (za rfl (zz (kh1 (zc fun _ kh3 => ?_))))
 refine CW.seqM 21 (decide ((mode < 0 ∨ 4 < mode) ∨ k < 0)) ?_ ?_
 ·
  refine CW.region fun kR4 kr4 => ?_
  refine zm rfl ?_
  refine WL.ev (Ev.lss rfl rfl) rfl ?_
  refine zm rfl ?_
  refine WL.boolCase (fun hg1 => ?_) (fun hg1 => ?_)
  ·
   try simp only [qs] at hg1
   refine zv rfl (zv rfl (zt rfl rfl (zm rfl (zv rfl (zv rfl (zt rfl rfl ?_))))))
   refine WL.nil (kr4 _ _ _ ?_)
   refine ⟨rfl, rfl, Subs.consB rfl ?_ ?_⟩
   ·
    first | (simp; omega) | (simp_all; done) | (refine decide_eq_decide.2 ?_; omega)
   ·
    exact SMg
  ·
   try simp only [qs] at hg1
   refine zw rfl (zm rfl (zw rfl ?_))
   refine WL.ev (Ev.gtr rfl rfl) rfl ?_
   refine ze rfl rfl (zm rfl ?_)
   refine WL.boolCase (fun hg2 => ?_) (fun hg2 => ?_)
   ·
    try simp only [qs] at hg2
    refine zv rfl (zv rfl (zt rfl rfl ?_))
    refine WL.nil (kr4 _ _ _ ?_)
    refine ⟨rfl, rfl, Subs.consB rfl ?_ ?_⟩
    ·
     first | (simp; omega) | (simp_all; done) | (refine decide_eq_decide.2 ?_; omega)
    ·
     exact SMg
   ·
    try simp only [qs] at hg2
    refine zw rfl (zm rfl (zw rfl ?_))
    refine WL.ev (Ev.lss rfl rfl) rfl ?_
    refine ze rfl rfl ?_
    refine WL.nil (kr4 _ _ _ ?_)
    refine ⟨rfl, rfl, Subs.consB rfl ?_ ?_⟩
    ·
     first | (simp; omega) | (simp_all; done) | (refine decide_eq_decide.2 ?_; omega)
    ·
     exact SMg
 ·
  refine CW.cond rfl (fun hc3 => ?_) (fun hc3 => ?_)
  ·
   try simp only [qs] at hc3
   have hbad : ¬ ((0 ≤ mode ∧ mode ≤ 4) ∧ 0 ≤ k) := by have := hc3; omega
   refine Sr fun _ kh5 => ?_
   refine WL.call hasF36 rfl rfl (r13no_spec (1) _) fun v w1 h' => ?_
   obtain ⟨rfl, rfl⟩ := h'
   refine zx rfl rfl (zx rfl rfl (za rfl (za rfl (zz (kh5 ?_)))))
   refine CW.ret ?_
   refine bodyA.ret2 rfl rfl rfl ?_
   exact ⟨⟨0, 1, rfl, .inl ⟨hbad, rfl, rfl⟩⟩, hch⟩
  ·
   try simp only [qs] at hc3
   have hgood : (0 ≤ mode ∧ mode ≤ 4) ∧ 0 ≤ k := by have := hc3; omega
   obtain ⟨kn, rfl⟩ := Int.eq_ofNat_of_zero_le hgood.2
   refine CW.skip ?_
   refine kh3 (zc fun _ kh7 => Sr fun _ kh8 => zm rfl (zn rfl ?_))
   refine WL.ev (Ev.gtr rfl rfl) rfl ?_
   refine zz (kh8 ?_)
   refine CW.cond rfl (fun hc4 => ?_) (fun hc4 => ?_)
   ·
    try simp only [qs] at hc4
    have hlong : 65536 < l.length := by omega
    refine Sr fun _ kh10 => ?_
    refine WL.call hasF36 rfl rfl (r13no_spec (2) _) fun v w2 h' => ?_
    obtain ⟨rfl, rfl⟩ := h'
    refine zx rfl rfl (zx rfl rfl (za rfl (za rfl (zz (kh10 ?_)))))
    refine CW.ret ?_
    refine bodyA.ret2 rfl rfl rfl ?_
    exact ⟨⟨0, 2, rfl, .inr ⟨hgood, .inl ⟨hlong, rfl, rfl⟩⟩⟩, hch⟩
   ·
    try simp only [qs] at hc4
    have hlong : ¬ 65536 < l.length := by omega
    refine CW.skip ?_
    refine kh7 (Sr fun _ kh12 => zm rfl ?_)
    refine WL.call hasF68 rfl rfl (r13finite_spec _ l _ (hv0.keep0 hch)) fun v w3 h' => ?_
    obtain ⟨rfl, hC⟩ := h'
    have hch := hch.trans (Chg.any hC)
    refine za rfl (zz (kh12 (zc fun _ kh14 => Sr fun _ kh15 => zm rfl ?_)))
    refine WL.ev (Ev.not rfl) rfl ?_
    refine zz (kh15 ?_)
    refine CW.cond rfl (fun hc5 => ?_) (fun hc5 => ?_)
    ·
     try simp only [qs] at hc5
     have hf : ¬ finL l := by simpa using hc5
     refine Sr fun _ kh17 => ?_
     refine WL.call hasF36 rfl rfl (r13no_spec (30) _) fun v w4 h' => ?_
     obtain ⟨rfl, rfl⟩ := h'
     refine zx rfl rfl (zx rfl rfl (za rfl (za rfl (zz (kh17 ?_)))))
     refine CW.ret ?_
     refine bodyA.ret2 rfl rfl rfl ?_
     exact ⟨⟨0, 30, rfl, .inr ⟨hgood, .inr ⟨hlong, .inl ⟨hf, rfl, rfl⟩⟩⟩⟩, hch⟩
    ·
     try simp only [qs] at hc5
     have hf : finL l := by simpa using hc5
     refine CW.skip ?_
     refine kh14 (zc fun _ kh19 => Sr fun _ kh20 => zm rfl (zm rfl (zn rfl ?_)))
     first | refine WL.ev (Ev.addIn rfl rfl (by omega)) rfl ?_ | refine WL.ev (Ev.add rfl rfl) rfl ?_
     first | refine WL.ev (Ev.quoIn rfl rfl (by omega) (by simp only [IntKind.max, IntKind.signed, IntKind.bits]; omega) (by omega)) rfl ?_ | refine WL.ev (Ev.quo rfl rfl (by omega)) rfl ?_
     refine WL.ev (Ev.geq rfl rfl) rfl ?_
     refine zz (kh20 ?_)
     refine CW.cond rfl (fun hc6 => ?_) (fun hc6 => ?_)
     ·
      try simp only [qs] at hc6
      have hno : (l.length : Int) ≤ 2 * (kn : Int) := by have := hc6; omega
      refine Sr fun _ kh22 => ?_
      refine WL.call hasF36 rfl rfl (r13no_spec (3) _) fun v w5 h' => ?_
      obtain ⟨rfl, rfl⟩ := h'
      refine zx rfl rfl (zx rfl rfl (za rfl (za rfl (zz (kh22 ?_)))))
      refine CW.ret ?_
      refine bodyA.ret2 rfl rfl rfl ?_
      exact ⟨⟨0, 3, rfl, .inr ⟨hgood, .inr ⟨hlong, .inr ⟨hf, .inl ⟨hno, rfl, rfl⟩⟩⟩⟩⟩, hch⟩
     ·
      try simp only [qs] at hc6
      have hyes : 2 * (kn : Int) < (l.length : Int) := by have := hc6; omega
      have hsl := sortP_length l
      refine CW.skip ?_
      refine kh19 (Sr fun _ kh24 => zm rfl ?_)
      refine WL.call hasF69 rfl rfl (r13Sorted_spec _ l _ (by omega) (hv0.keep0 hch) (finL_nums hf hWl)) fun v w6 h' => ?_
      obtain ⟨hNs, hC⟩ := h'
      obtain ⟨⟨adl, cpl, rfl, hcaps, hrs⟩, hWs, hlls⟩ := id hNs
      have hch := hch.trans (Chg.any hC)
      refine za rfl (zz (kh24 (Sr fun _ kh26 => zm rfl (zm rfl (zm rfl (zn rfl (zm rfl ?_)))))))
      refine WL.ev (Ev.subIn rfl rfl (by omega)) rfl ?_
      rw [show (((sortP l).length : Nat) : Int) - (kn : Int) = (((sortP l).length - kn : Nat) : Int) by omega]
      refine WL.ev (Ev.sliceLHn (kn) (((sortP l).length - kn)) rfl rfl rfl (by omega) (by omega) (by omega) (by omega)) rfl ?_
      refine za rfl (zz (kh26 (zc fun _ kh28 => ?_)))
      have hNm : NF _ _ (((sortP l).drop kn).take (l.length - 2 * kn)) := (NF.mid (lo := kn) (hi := (sortP l).length - kn) hNs (by omega) (by omega)).cast (by rw [show (sortP l).length - kn - kn = l.length - 2 * kn by omega])
      have hlm : (((sortP l).drop kn).take (l.length - 2 * kn)).length = l.length - 2 * kn := by rw [List.length_take, List.length_drop]; omega
      have hfm : finL (((sortP l).drop kn).take (l.length - 2 * kn)) := fun x hx => hf x ((sortP_perm l).mem_iff.1 (List.mem_of_mem_drop (List.mem_of_mem_take hx)))
      generalize hM0 : ((sortP l).drop kn).take (l.length - 2 * kn) = m at *
      have hin := sumI_in (l := m) (by omega)
      have hcl := cnt_le m
      obtain ⟨⟨am, cm, em, hcapm, hrm⟩, hWm, hllm⟩ := id hNm
      refine CW.region fun kR29 kr29 => ?_
      refine zm rfl ?_
      refine WL.call hasF70 rfl rfl (r7Whole_spec _ m _ hNm (by omega)) fun v w7 h' => ?_
      obtain ⟨⟨r, rfl, hNr⟩, hC⟩ := h'
      unfold accL
      have hor := hNr.one
      have hch := hch.trans (Chg.any hC)
      have hNs := hNs.keep0 hC
      refine WL.allocB (l := [.bool false, .slice none 0 0, .int .i64 0, .int .i64 0, .int .i64 0, .int .i64 0, .int .i64 0, .int .i64 0, .int .i64 0]) rfl rfl fun b11 wm11 hb11 hcm11 hge11 => ?_
      have hgehch11 := Nat.le_trans hch.size hge11
      have hch := hch.trans (Chg.any hcm11)
      have hNr := hNr.keep0 hcm11
      refine WL.storeB rfl rfl rfl ao hb11 (by simp) rfl fun ws15 hb11_ hcs15 => ?_
      try simp only [Sx.splice, qt] at hb11_
      have hch := hch.s1 hcs15
      have hNr := hNr.keepBK hb11 hcs15 an
      have hb11 := hb11_
      refine WL.nil (kr29 _ _ _ (kh28 ?_))
      refine Sr fun _ kh30 => zf rfl ?_
      refine WL.ev (Ev.loadB rfl rfl hb11 rfl rfl) rfl ?_
      try simp only [List.drop_succ_cons, List.drop_zero, List.take_succ_cons, List.take_zero]
      refine zm rfl (zn rfl ?_)
      rw [show (((sortP l).length - kn - kn : Nat) : Int) = ((m.length : Nat) : Int) by omega]
      refine zf rfl ?_
      refine WL.ev (Ev.loadB rfl rfl hb11 rfl rfl) rfl ?_
      try simp only [List.drop_succ_cons, List.drop_zero, List.take_succ_cons, List.take_zero]
      refine zm rfl ?_
      refine WL.call hasF71 rfl rfl (r13Told_spec (sumD (sumI m)) r m.length (cntP m) mode _ hNr (rsumD_ok hin) (by omega) (hcl.mono (by omega))) fun v w8 h' => ?_
      obtain ⟨⟨bits, e, rfl, hT⟩, hC⟩ := h'
      have hch := hch.trans (Chg.any hC)
      have hb11 := hb11.keep0 hC
      have hNr := hNr.keep0 hC
      refine zx rfl rfl (zx rfl rfl (za rfl (za rfl (zz (kh30 ?_)))))
      refine CW.ret ?_
      refine bodyA.ret2 rfl rfl rfl ?_
      refine ⟨⟨bits, e, rfl, .inr ⟨hgood, .inr ⟨hlong, .inr ⟨hf, .inr ⟨hyes, ?_⟩⟩⟩⟩⟩, hch⟩
      rw [show ((kn : Int)).toNat = kn from rfl, hM0]
      exact mean_plain hgood.1 hfm (by omega) (fun q => by rw [q] at hlm; simp at hlm; omega) hT

end Go.Proofs.YtphnpchmdpjabaaGreatDoor

/-
  DERIVED: THE SHELF's CONTRACTS AT THIS DUMP, IN PLAIN WORDS (tools/lay-plain.mjs out of 'TmpSortLayF.lean', which tools/lay-shelf.mjs wrote): THE SAME DECLARATIONS UNDER THE SAME NAMES: 'import', 'namespace', 'open', 'def', 'theorem' AND NOTHING ELSE: no command of the shelf's: FOR A HAND-IN. Each laying: the table of numbers ('.._ren') and one theorem, a field a fact of the dump's own or the kernel's comparison; each contract: ONE APPLICATION.
-/
namespace Go.Proofs
open Go.Shelf
def Tryz.laySortLayF_ren : Go.Shelf.Ren := ⟨fun | 6 => 64 | 15 => 109 | 14 => 108 | 28 => 131 | 29 => 144 | 20 => 136 | 21 => 137 | 22 => 138 | 23 => 139 | 24 => 140 | 25 => 141 | 26 => 142 | 27 => 143 | 46 => 171 | 47 => 172 | 48 => 173 | 49 => 174 | 50 => 175 | 57 => 196 | n => n, fun | 22 => 35 | 24 => 28 | 25 => 98 | 3 => 3 | 39 => 117 | 0 => 0 | 53 => 116 | 55 => 74 | 4 => 4 | 46 => 170 | 45 => 169 | 50 => 174 | 5 => 5 | 9 => 9 | 66 => 200 | 70 => 155 | 76 => 219 | 77 => 220 | n => n, fun | n => n⟩
theorem Tryz.laySortLayF : Go.Proofs.SlLaysF.n6 Tryz.prog Tryz.laySortLayF_ren := {
  mixed := by kernel_rfl
  f6 := ⟨Tryz.f64.name, by decide, Tryz.func64.trans (congrArg some (by kernel_rfl))⟩
  f14 := ⟨Tryz.f108.name, by decide, Tryz.func108.trans (congrArg some (by kernel_rfl))⟩
  f15 := Tryz.func109.trans (congrArg some (by kernel_rfl))
  f20 := ⟨Tryz.f136.name, by decide, Tryz.func136.trans (congrArg some (by kernel_rfl))⟩
  f21 := ⟨Tryz.f137.name, by decide, Tryz.func137.trans (congrArg some (by kernel_rfl))⟩
  f22 := ⟨Tryz.f138.name, by decide, Tryz.func138.trans (congrArg some (by kernel_rfl))⟩
  f23 := ⟨Tryz.f139.name, by decide, Tryz.func139.trans (congrArg some (by kernel_rfl))⟩
  f24 := ⟨Tryz.f140.name, by decide, Tryz.func140.trans (congrArg some (by kernel_rfl))⟩
  f25 := ⟨Tryz.f141.name, by decide, Tryz.func141.trans (congrArg some (by kernel_rfl))⟩
  f26 := ⟨Tryz.f142.name, by decide, Tryz.func142.trans (congrArg some (by kernel_rfl))⟩
  f27 := ⟨Tryz.f143.name, by decide, Tryz.func143.trans (congrArg some (by kernel_rfl))⟩
  f28 := Tryz.func131.trans (congrArg some (by kernel_rfl))
  f29 := Tryz.func144.trans (congrArg some (by kernel_rfl))
  f46 := ⟨Tryz.f171.name, by decide, Tryz.func171.trans (congrArg some (by kernel_rfl))⟩
  f47 := Tryz.func172.trans (congrArg some (by kernel_rfl))
  f48 := Tryz.func173.trans (congrArg some (by kernel_rfl))
  f49 := ⟨Tryz.f174.name, by decide, Tryz.func174.trans (congrArg some (by kernel_rfl))⟩
  f50 := ⟨Tryz.f175.name, by decide, Tryz.func175.trans (congrArg some (by kernel_rfl))⟩
  f57 := ⟨Tryz.f196.name, by decide, Tryz.func196.trans (congrArg some (by kernel_rfl))⟩
  t0 := Tryz.underlying0
  a0 := Tryz.isAgg0
  z0 := Tryz.sizeOf0
  v0 := Tryz.zeroValue0
  t3 := Tryz.underlying3
  a3 := Tryz.isAgg3
  z3 := Tryz.sizeOf3
  v3 := Tryz.zeroValue3
  t4 := Tryz.underlying4
  a4 := Tryz.isAgg4
  z4 := Tryz.sizeOf4
  v4 := Tryz.zeroValue4
  t5 := Tryz.underlying5
  a5 := Tryz.isAgg5
  z5 := Tryz.sizeOf5
  v5 := Tryz.zeroValue5
  t9 := Tryz.underlying9
  a9 := Tryz.isAgg9
  z9 := Tryz.sizeOf9
  v9 := Tryz.zeroValue9
  t22 := Tryz.underlying35
  a22 := Tryz.isAgg35
  z22 := Tryz.sizeOf35
  v22 := Tryz.zeroValue35
  a24 := Tryz.isAgg28
  z24 := Tryz.sizeOf28
  t25 := Tryz.underlying98
  a25 := Tryz.isAgg98
  z25 := Tryz.sizeOf98
  v25 := Tryz.zeroValue98
  t39 := Tryz.underlying117
  a39 := Tryz.isAgg117
  z39 := Tryz.sizeOf117
  v39 := Tryz.zeroValue117
  t45 := Tryz.underlying169
  a45 := Tryz.isAgg169
  z45 := Tryz.sizeOf169
  v45 := Tryz.zeroValue169
  t46 := Tryz.underlying170
  a46 := Tryz.isAgg170
  z46 := Tryz.sizeOf170
  v46 := Tryz.zeroValue170
  t50 := Tryz.underlying174
  a50 := Tryz.isAgg174
  z50 := Tryz.sizeOf174
  v50 := Tryz.zeroValue174
  t53 := Tryz.underlying116
  a53 := Tryz.isAgg116
  z53 := Tryz.sizeOf116
  v53 := Tryz.zeroValue116
  t55 := Tryz.underlying74
  a55 := Tryz.isAgg74
  z55 := Tryz.sizeOf74
  v55 := Tryz.zeroValue74
  t66 := Tryz.underlying200
  a66 := Tryz.isAgg200
  z66 := Tryz.sizeOf200
  v66 := Tryz.zeroValue200
  t70 := Tryz.underlying155
  a70 := Tryz.isAgg155
  z70 := Tryz.sizeOf155
  v70 := Tryz.zeroValue155
  t76 := Tryz.underlying219
  a76 := Tryz.isAgg219
  z76 := Tryz.sizeOf219
  v76 := Tryz.zeroValue219
  t77 := Tryz.underlying220
  a77 := Tryz.isAgg220
  z77 := Tryz.sizeOf220
  v77 := Tryz.zeroValue220 }
end Go.Proofs

/- slices.SortFunc over numbers by the numbers' order: the row holds the numbers in order. No condition but that each number has 64 bits. -/
namespace Go.Proofs.YtphnpchmdpjabaaGreatDoor
open Go Sx Fl Go.Sort Go.Shelf

abbrev F64 := {b : Nat // b < 18446744073709551616}
instance f64Inh : Inhabited F64 := ⟨⟨0, by decide⟩⟩
def encF (x : F64) : Value := .float .f64 x.1
def cfF (x y : F64) : Int := cmpI (key x.1) (key y.1)
theorem ltF (x y : F64) : ltOf cfF x y = decide (key x.1 < key y.1) := by
  unfold ltOf cfF cmpI
  by_cases h1 : key x.1 < key y.1
  · simp [h1]
  · by_cases h2 : key y.1 < key x.1 <;> simp [h1, h2]
theorem swoF : SWO (ltOf cfF) where
  irrefl x := by rw [ltF]; simp
  trans x y z h1 h2 := by rw [ltF] at *; simp at *; omega
  ntrans x y z h1 h2 := by rw [ltF] at *; simp at *; omega
theorem cmpLaysF (blk off size : Nat) (w : World) : CmpLays1 Tryz.prog 65 #[] encF cfF blk off size w := fun _ _ _ _ x y =>
  Calls.mono (bits_Order_spec _ _ x.2 y.2 _) fun e w' ⟨v, he, hv, hw⟩ => ⟨by rw [he, hv]; rfl, 0, #[], by rw [grow_empty]; exact hw.symm⟩
def f64s (l : List Nat) (h : ∀ p ∈ l, p < 18446744073709551616) : List F64 := l.attach.map fun x => ⟨x.1, h x.1 x.2⟩
theorem f64s_val (l : List Nat) (h : ∀ p ∈ l, p < 18446744073709551616) : (f64s l h).map (·.1) = l := by
  unfold f64s
  rw [List.map_map]
  exact List.attach_map_subtype_val l
theorem f64s_get {l : List Nat} {h : ∀ p ∈ l, p < 18446744073709551616} {j : Nat} (hj : j < l.length) : encF ((f64s l h).toArray[j]!) = f64v (l[j]'hj) := by
  have hl : j < (f64s l h).toArray.size := by simpa [f64s] using hj
  rw [getElem!_pos _ j hl]
  simp [f64s, encF, f64v]
theorem sortWorldF_heap {w : World} {blk n : Nat} {d : Array F64} {os : Array Obj} {cur : Array Value} {T : TypeId} (h : w.heap[blk]? = some (.cells cur T (0, 0))) :
    Chg [blk] w (sortWorld encF w blk 0 n d os) ∧ (sortWorld encF w blk 0 n d os).heap[blk]? = some (.cells (putCells encF 0 d cur) T (0, 0)) := by
  have hlt := lt_of_heap h
  unfold sortWorld grow putRow mapBlock Go.Sort.ahead
  refine ⟨⟨rfl, rfl, rfl, by simp, fun k hk hn => ?_⟩, ?_⟩
  · simp only [List.mem_singleton] at hn
    rw [Array.getElem?_append_left (by simpa using hk), Array.getElem?_modify, if_neg (fun e => hn e.symm)]
  · rw [Array.getElem?_append_left (by simpa using hlt), Array.getElem?_modify, if_pos rfl, h]; rfl
/-- THE SORT: a row of one's own comes in order. -/
theorem sortF_spec (w : World) (v : Value) (l : List Nat) (lo : Nat) (X : List Nat) (hl : ∀ p ∈ l, p < 18446744073709551616) (hne : l ≠ []) (hsz : l.length < 4611686018427387904) (hown : GR w 28 f64v lo X v l) :
    Ret Tryz.prog 64 [v, .func (.func 65) #[] #[]] w fun u w' =>
      ∃ l' : List Nat, l'.Perm l ∧ Srt l' ∧ Chg v.ownBlock.toList w w' ∧ GR w' 28 f64v lo X v l' := by
  obtain ⟨blk, cap, cur, rfl, hheap, hnc, hcm, hcs, htake, hlo, hX⟩ := hown.own hne
  have hd : (f64s l hl).toArray.size = l.length := by simp [f64s]
  have hblk := lt_of_heap hheap
  have hH : Holds encF w blk 0 (f64s l hl).toArray := by
    intro j hj
    have hj' : j < l.length := by rw [← hd]; exact hj
    refine ⟨?_, by rw [Nat.zero_add]; exact frozen_no hheap⟩
    rw [Nat.zero_add, cell_at' hheap, f64s_get hj']
    have : cur.toList[j]? = (l.map f64v)[j]? := by
      rw [← htake, List.getElem?_take, if_pos (by omega)]
    rw [← Array.getElem?_toList, this]
    simp [hj']
  have eg : ∀ args w, (callFunc 65 args).run Tryz.prog w = .ok (.enter 65 args) w := fun args w => HasF.run hasF65 args
  have hcon := Any.slices_SortFunc Tryz.laySortLayF encF (fun x => rfl) cfF swoF 65 #[] blk 0 cap (f64s l hl).toArray w eg (cmpLaysF blk 0 _ w) hH hblk (by rw [hd]; exact hsz)
  rw [hd] at hcon
  refine Calls.mono hcon fun e w' ⟨he, d', n, os, hp, hs, hw⟩ => ⟨_, he, ?_⟩
  obtain ⟨hps, _, hpp⟩ := hp
  have hsz' : d'.size = l.length := by rw [hps, hd]
  have hperm : d'.toList.Perm (f64s l hl) := by
    have e1 : d'.extract 0 l.length = d' := by rw [← hsz']; simp
    have e2 : (f64s l hl).toArray.extract 0 l.length = (f64s l hl).toArray := by rw [← hd]; simp
    rw [e1, e2] at hpp
    exact hpp
  subst hw
  obtain ⟨hc, hh⟩ := sortWorldF_heap (n := n) (d := d') (os := os) hheap
  have hlen : (d'.toList.map (·.1)).length = l.length := by simp [hsz']
  refine ⟨d'.toList.map (·.1), ?_, ?_, hc, ?_⟩
  · have := hperm.map Subtype.val
    rw [f64s_val] at this
    exact this
  · unfold Srt
    rw [List.pairwise_iff_getElem]
    intro i j hi hj hij
    have := hs i j (Nat.zero_le _) hij (by simpa [hsz'] using hj)
    rw [ltF] at this
    have hi' : i < d'.size := by simpa using hi
    have hj' : j < d'.size := by simpa using hj
    rw [getElem!_pos d' i hi', getElem!_pos d' j hj'] at this
    simp at this
    simpa using this
  · refine ⟨⟨by simp, .inr ⟨blk, cap, _, ?_, Nat.zero_le _, hh, ?_, hcm, ?_, ?_⟩⟩, fun b hb => ?_⟩
    · rw [hlen]
    · rw [hlen]; exact hnc
    · simp [putCells, hcs]
    · rw [hlen, Nat.mul_one]
      apply List.ext_getElem?
      intro i
      rw [List.getElem?_take]
      by_cases hi : i < l.length
      · rw [if_pos hi]
        have hi' : i < d'.size := by rw [hsz']; exact hi
        have hc' : i < cur.size := by rw [hcs]; exact Nat.lt_of_lt_of_le hi hnc
        simp [putCells, hi', hc', encF, f64v]
      · rw [if_neg hi, List.getElem?_eq_none (by rw [List.length_map, hlen]; omega)]
    · cases hb; exact ⟨hlo, hX⟩
end Go.Proofs.YtphnpchmdpjabaaGreatDoor

/- Package mean: Trimmed. No condition. -/
namespace Go.Proofs.YtphnpchmdpjabaaGreatDoor
open Go Sx Wd Fl

set_option maxRecDepth 8000 in
set_option maxHeartbeats 2000000 in
theorem mTrimmed_spec (v : Value) (l : List Nat) (k mode : Int) (w : World) (hv : NF w v l) (hk : -9223372036854775808 ≤ k ∧ k ≤ 9223372036854775807) (hg : GW w) : Ret Tryz.prog 22 [v, .int .i64 k, .int .i64 mode] w fun u w' => (∃ bits e, u = .tuple [.float .f64 bits, .int .i64 e].toArray ∧ trimR l k mode bits e) ∧ Chg [] w w' := by
 have hch : Chg [] w w := Chg.refl _ _
 have hv0 := hv
 obtain ⟨⟨al, cl, rfl, hcapl, hrl⟩, hWl, hll⟩ := hv
 have hg0 := hg
 refine Ret.enterD 31 hasF31 Tryz.func22 rfl rfl ?_
 simp only [args0, Nat.zero_add, Nat.reduceAdd]
 refine Sr fun _ kh1 => ?_
 refine WL.allocB (l := [.float .f64 0]) rfl rfl fun b6 wm6 hb6 hcm6 hge6 => ?_
 have hgehch6 := Nat.le_trans hch.size hge6
 have hch := hch.trans (Chg.any hcm6)
 refine WL.allocB (l := [.int .i64 0]) rfl rfl fun b7 wm7 hb7 hcm7 hge7 => ?_
 have hgehch7 := Nat.le_trans hch.size hge7
 have hch := hch.trans (Chg.any hcm7)
 have hneb67 : b6 ≠ b7 := by have := hb6.lt; omega
 have hb6 := hb6.keep0 hcm7
 refine zz (kh1 (Sr fun _ kh3 => ?_))
 refine WL.defer rfl ?_
 refine zz (kh3 (zc fun _ kh5 => ?_))
 refine CW.block ?_
 refine CW.seqM 8 (decide (¬ ((0 ≤ mode ∧ mode ≤ 4) ∧ 0 ≤ k))) ?_ ?_
 ·
  refine CW.region fun kR6 kr6 => ?_
  refine zm rfl ?_
  refine WL.call hasF32 rfl rfl (right_spec mode _) fun v w1 h' => ?_
  obtain ⟨rfl, rfl⟩ := h'
  refine WL.ev (Ev.not rfl) rfl ?_
  refine zm rfl ?_
  refine WL.boolCase (fun hg1 => ?_) (fun hg1 => ?_)
  ·
   try simp only [qs] at hg1
   have hq : ¬ (0 ≤ mode ∧ mode ≤ 4) := by simpa using hg1
   refine zv rfl (zv rfl (zt rfl rfl (za rfl ?_)))
   refine WL.nil (kr6 _ _ _ ?_)
   refine ⟨rfl, rfl, Subs.consB rfl ?_ ?_⟩
   ·
    first | (simp; omega) | (refine decide_eq_decide.2 ?_; omega)
   ·
    exact SMg
  ·
   try simp only [qs] at hg1
   have hq : 0 ≤ mode ∧ mode ≤ 4 := by simpa using hg1
   refine zw rfl (zm rfl (zw rfl ?_))
   refine WL.ev (Ev.lss rfl rfl) rfl ?_
   refine ze rfl rfl (za rfl ?_)
   refine WL.nil (kr6 _ _ _ ?_)
   refine ⟨rfl, rfl, Subs.consB rfl ?_ ?_⟩
   ·
    first | (simp; omega) | (refine decide_eq_decide.2 ?_; omega)
   ·
    exact SMg
 ·
  refine CW.cond rfl (fun hc2 => ?_) (fun hc2 => ?_)
  ·
   try simp only [qs] at hc2
   have hbad : ¬ ((0 ≤ mode ∧ mode ≤ 4) ∧ 0 ≤ k) := hc2
   refine Sr fun _ kh7 => ?_
   refine WL.storeC rfl rfl o1 hb6 (by simp) rfl fun ws2 hb6_ hcs2 => ?_
   try simp only [Sx.splice, qt] at hb6_
   have hch := hch.s1 hcs2
   have hb7 := hb7.keep hcs2 (by simp; omega)
   have hb6 := hb6_
   refine WL.storeC rfl rfl o1 hb7 (by simp) rfl fun ws3 hb7_ hcs3 => ?_
   try simp only [Sx.splice, qt] at hb7_
   have hch := hch.s1 hcs3
   have hb6 := hb6.keep hcs3 (by simp; omega)
   have hb7 := hb7_
   refine zz (kh7 ?_)
   refine CW.ret ?_
   refine clean_door rfl rfl rfl hb6 hb7 hneb67 fun w9 hc9 => ?_
   have hch := hch.step hc9 (fun y hy => by simp only [List.mem_singleton] at hy; subst hy; exact .inr (by omega))
   exact ⟨⟨_, _, rfl, .inl ⟨hbad, rfl, rfl⟩⟩, hch⟩
  ·
   try simp only [qs] at hc2
   have hgood : (0 ≤ mode ∧ mode ≤ 4) ∧ 0 ≤ k := by have := hc2; omega
   obtain ⟨kn, rfl⟩ := Int.eq_ofNat_of_zero_le hgood.2
   refine Sr fun _ kh9 => zm rfl (zn rfl ?_)
   refine WL.ev (Ev.gtr rfl rfl) rfl ?_
   refine za rfl (zz (kh9 ?_))
   refine CW.cond rfl (fun hc3 => ?_) (fun hc3 => ?_)
   ·
    try simp only [qs] at hc3
    have hlong : 65536 < l.length := by omega
    refine Sr fun _ kh11 => ?_
    refine WL.storeC rfl rfl o1 hb6 (by simp) rfl fun ws4 hb6_ hcs4 => ?_
    try simp only [Sx.splice, qt] at hb6_
    have hch := hch.s1 hcs4
    have hb7 := hb7.keep hcs4 (by simp; omega)
    have hb6 := hb6_
    refine WL.storeC rfl rfl o1 hb7 (by simp) rfl fun ws5 hb7_ hcs5 => ?_
    try simp only [Sx.splice, qt] at hb7_
    have hch := hch.s1 hcs5
    have hb6 := hb6.keep hcs5 (by simp; omega)
    have hb7 := hb7_
    refine zz (kh11 ?_)
    refine CW.ret ?_
    refine clean_door rfl rfl rfl hb6 hb7 hneb67 fun w9 hc9 => ?_
    have hch := hch.step hc9 (fun y hy => by simp only [List.mem_singleton] at hy; subst hy; exact .inr (by omega))
    exact ⟨⟨_, _, rfl, .inr ⟨hgood, .inl ⟨hlong, rfl, rfl⟩⟩⟩, hch⟩
   ·
    try simp only [qs] at hc3
    have hlong : ¬ 65536 < l.length := by omega
    refine Sr fun _ kh13 => zm rfl ?_
    refine WL.call hasF62 rfl rfl (mfinite_spec _ l _ (hv0.keep0 hch)) fun v w2 h' => ?_
    obtain ⟨rfl, hC⟩ := h'
    have hch := hch.trans (Chg.any hC)
    have hb6 := hb6.keep0 hC
    have hb7 := hb7.keep0 hC
    refine WL.ev (Ev.not rfl) rfl ?_
    refine za rfl (zz (kh13 ?_))
    refine CW.cond rfl (fun hc4 => ?_) (fun hc4 => ?_)
    ·
     try simp only [qs] at hc4
     have hf : ¬ finL l := by simpa using hc4
     refine Sr fun _ kh15 => ?_
     refine WL.storeC rfl rfl o1 hb6 (by simp) rfl fun ws6 hb6_ hcs6 => ?_
     try simp only [Sx.splice, qt] at hb6_
     have hch := hch.s1 hcs6
     have hb7 := hb7.keep hcs6 (by simp; omega)
     have hb6 := hb6_
     refine WL.storeC rfl rfl o1 hb7 (by simp) rfl fun ws7 hb7_ hcs7 => ?_
     try simp only [Sx.splice, qt] at hb7_
     have hch := hch.s1 hcs7
     have hb6 := hb6.keep hcs7 (by simp; omega)
     have hb7 := hb7_
     refine zz (kh15 ?_)
     refine CW.ret ?_
     refine clean_door rfl rfl rfl hb6 hb7 hneb67 fun w9 hc9 => ?_
     have hch := hch.step hc9 (fun y hy => by simp only [List.mem_singleton] at hy; subst hy; exact .inr (by omega))
     exact ⟨⟨_, _, rfl, .inr ⟨hgood, .inr ⟨hlong, .inl ⟨hf, rfl, rfl⟩⟩⟩⟩, hch⟩
    ·
     try simp only [qs] at hc4
     have hf : finL l := by simpa using hc4
     refine CW.seqM 24 (decide ((l.length : Int) ≤ 2 * (kn : Int))) ?_ ?_
     ·
      refine CW.region fun kR17 kr17 => ?_
      refine zm rfl ?_
      refine WL.ev (Ev.gtr rfl rfl) rfl ?_
      refine zm rfl ?_
      refine WL.boolCase (fun hg5 => ?_) (fun hg5 => ?_)
      ·
       try simp only [qs] at hg5
       refine zv rfl (zv rfl (zv rfl (zv rfl (zv rfl (zt rfl rfl (za rfl ?_))))))
       refine WL.nil (kr17 _ _ _ ?_)
       refine ⟨rfl, rfl, Subs.consB rfl ?_ ?_⟩
       ·
        first | (simp; omega) | (simp_all; done) | (refine decide_eq_decide.2 ?_; omega)
       ·
        exact SMg
      ·
       try simp only [qs] at hg5
       refine zw rfl (zm rfl (zw rfl (zn rfl (zw rfl (zm rfl (zw rfl ?_))))))
       refine WL.ev (Ev.mulIn rfl rfl (by omega)) rfl ?_
       refine zw rfl ?_
       refine WL.ev (Ev.leq rfl rfl) rfl ?_
       refine ze rfl rfl (za rfl ?_)
       refine WL.nil (kr17 _ _ _ ?_)
       refine ⟨rfl, rfl, Subs.consB rfl ?_ ?_⟩
       ·
        first | (simp; omega) | (simp_all; done) | (refine decide_eq_decide.2 ?_; omega)
       ·
        exact SMg
     ·
      refine CW.cond rfl (fun hc6 => ?_) (fun hc6 => ?_)
      ·
       try simp only [qs] at hc6
       have hno : (l.length : Int) ≤ 2 * (kn : Int) := hc6
       refine Sr fun _ kh18 => ?_
       refine WL.storeC rfl rfl o1 hb6 (by simp) rfl fun ws8 hb6_ hcs8 => ?_
       try simp only [Sx.splice, qt] at hb6_
       have hch := hch.s1 hcs8
       have hb7 := hb7.keep hcs8 (by simp; omega)
       have hb6 := hb6_
       refine WL.storeC rfl rfl o1 hb7 (by simp) rfl fun ws9 hb7_ hcs9 => ?_
       try simp only [Sx.splice, qt] at hb7_
       have hch := hch.s1 hcs9
       have hb6 := hb6.keep hcs9 (by simp; omega)
       have hb7 := hb7_
       refine zz (kh18 ?_)
       refine CW.ret ?_
       refine clean_door rfl rfl rfl hb6 hb7 hneb67 fun w9 hc9 => ?_
       have hch := hch.step hc9 (fun y hy => by simp only [List.mem_singleton] at hy; subst hy; exact .inr (by omega))
       exact ⟨⟨_, _, rfl, .inr ⟨hgood, .inr ⟨hlong, .inr ⟨hf, .inl ⟨hno, rfl, rfl⟩⟩⟩⟩⟩, hch⟩
      ·
       try simp only [qs] at hc6
       have hyes : 2 * (kn : Int) < (l.length : Int) := by have := hc6; omega
       have hne : l ≠ [] := fun q => by rw [q] at hyes; simp at hyes; omega
       refine CW.skip ?_
       refine kh5 (Sr fun _ kh20 => zm rfl ?_)
       refine WL.call hasF63 rfl rfl (CloneF_spec _ l _ (hv0.keep0 hch) (by omega)) fun v w3 h' => ?_
       obtain ⟨hgc, hC⟩ := h'
       have hl6 := hb6.lt
       have hl7 := hb7.lt
       have hszc := hch.size
       have hch := hch.trans (Chg.any hC)
       have hb6 := hb6.keep0 hC
       have hb7 := hb7.keep0 hC
       refine za rfl (zz (kh20 (Sr fun _ kh22 => zm rfl ?_)))
       refine WL.call hasF64 rfl rfl (sortF_spec _ v l _ _ hWl hne (by omega) hgc) fun v w4 h' => ?_
       obtain ⟨ls, hperm, hsrt, hcs, hgs⟩ := h'
       have hch := GR.frame hgc hcs hch hszc
       have hb6 := hb6.keep hcs (hgc.notin (.inr hl6))
       have hb7 := hb7.keep hcs (hgc.notin (.inr hl7))
       have hls : ls = sortP l := sortP_eq hperm hsrt (finL_nums hf hWl)
       have hlen : ls.length = l.length := hperm.length_eq
       have hWs : ∀ x ∈ ls, x < 18446744073709551616 := fun x hx => hWl x (hperm.mem_iff.1 hx)
       have hNs := hgs.nf hWs (by omega)
       obtain ⟨⟨adl, cpl, rfl, hcaps, hrs⟩, -, -⟩ := id hNs
       refine zz (kh22 (zc fun _ kh24 => ?_))
       refine CW.regionKC 12 14 rfl hmix fun kR25 kr25 hS hdr => ?_
       have hch := hch.trans (Chg.any hdr)
       have hb6 := hb6.keep0 hdr
       have hb7 := hb7.keep0 hdr
       have hNs := hNs.keep0 hdr
       have hch_r := hch
       have hb6_r := hb6
       have hb7_r := hb7
       refine wk 0 rfl hS (fun _ _ => Ev.move rfl) (wk 1 rfl hS (fun _ _ => Ev.move rfl) (wk 2 rfl hS (fun _ _ => Ev.move rfl) (wk 3 rfl hS (fun _ _ => Ev.len rfl) (wk 4 rfl hS (fun _ _ => Ev.move rfl) (wk 5 rfl hS (fun _ _ => Ev.subIn rfl rfl (by omega)) ?_)))))
       rw [show ((ls.length : Nat) : Int) - (kn : Int) = ((ls.length - kn : Nat) : Int) by omega]
       refine wk 6 rfl hS (fun _ _ => Ev.sliceLHn (kn) ((ls.length - kn)) rfl rfl rfl (by omega) (by omega) (by omega) (by omega)) (wk 7 rfl hS (fun _ _ => Ev.move rfl) ?_)
       refine WK.oneCall 8 rfl (by kernel_rfl) hasF66 rfl rfl (Plain_spec _) fun v w5 h' => ?_
       obtain ⟨rfl, hC⟩ := h'
       have hch := hch.trans (Chg.any hC)
       have hb6 := hb6.keep0 hC
       have hb7 := hb7.keep0 hC
       have hNs := hNs.keep0 hC
       have hS := hS.trans hC
       refine ⟨hS, ?_⟩
       refine WK.oneCall 9 rfl (by kernel_rfl) hasF15 rfl rfl (Mean_spec _ ((ls.drop kn).take (ls.length - kn - kn)) mode 0 0 _ (NF.mid hNs (by omega) (by omega)) (hg0.keep0 hch)) fun v w6 h' => ?_
       obtain ⟨⟨bits, e, rfl, hM⟩, hC⟩ := h'
       have hch := hch.trans (Chg.any hC)
       have hb6 := hb6.keep0 hC
       have hb7 := hb7.keep0 hC
       have hNs := hNs.keep0 hC
       have hS := hS.trans hC
       refine ⟨hS, ?_⟩
       refine wk 10 rfl hS (fun _ _ => Ev.extract rfl rfl) (wk 11 rfl hS (fun _ _ => Ev.extract rfl rfl) ?_)
       refine WK.storeC 12 rfl (by kernel_rfl) (by kernel_rfl) rfl rfl o1 hb6 (by simp) rfl fun ws10 hb6_ hcs10 => ?_
       try simp only [Sx.splice, qt] at hb6_
       have hch := hch.s1 hcs10
       have hb7 := hb7.keep hcs10 (by simp; omega)
       have hb6 := hb6_
       refine WK.storeC 13 rfl (by kernel_rfl) (by kernel_rfl) rfl rfl o1 hb7 (by simp) rfl fun ws11 hb7_ hcs11 => ?_
       try simp only [Sx.splice, qt] at hb7_
       have hch := hch.s1 hcs11
       have hb6 := hb6.keep hcs11 (by simp; omega)
       have hb7 := hb7_
       refine WK.done (by kernel_rfl) (kr25 _ _ _ ?_)
       refine kh24 ?_
       refine CW.ret ?_
       refine clean_door rfl rfl rfl hb6 hb7 hneb67 fun w9 hc9 => ?_
       have hch := hch.step hc9 (fun y hy => by simp only [List.mem_singleton] at hy; subst hy; exact .inr (by omega))
       refine ⟨⟨_, _, rfl, .inr ⟨hgood, .inr ⟨hlong, .inr ⟨hf, .inr ⟨hyes, ?_⟩⟩⟩⟩⟩, hch⟩
       rw [hM.err]
       rw [show ls.length - kn - kn = l.length - 2 * kn by omega, hls] at hM
       exact hM

end Go.Proofs.YtphnpchmdpjabaaGreatDoor

/- The numbers that every statement on means asks first. No condition. -/
namespace Go.Proofs.YtphnpchmdpjabaaGreatDoor
open Go Sx Wd
set_option exponentiation.threshold 9000

def lv1 : List Nat := [4607182418800017408, 4611686018427387904, 4618441417868443648]
def lv2 : List Nat := [4607182418800017408, 4611686018427387904]
def lv3 : List Nat := [4607182418800017408, 4613937818241073152]
theorem lv1_fil : filP lv1 = lv1 := by decide +kernel
theorem lv2_fil : filP lv2 = lv2 := by decide +kernel
theorem lv1_sum : sumI lv1 = (9 * 2 ^ 2148 : Nat) := by decide +kernel
theorem lv2_sum : sumI lv2 = (3 * 2 ^ 2148 : Nat) := by decide +kernel
theorem lv3_sum : sumI lv3 = (4 * 2 ^ 2148 : Nat) := by decide +kernel
theorem lv23_prod : sumP lv2 lv3 = (7 * 2 ^ 2148 : Nat) := by decide +kernel
theorem p2148 : (0 : Int) < ((2 ^ 2148 : Nat) : Int) := by have := Nat.two_pow_pos 2148; omega
theorem meanQ_of {S n r : Nat} {mode : Int} {bits : Nat} (hn : n ≠ 0) (hr : r < 9218868437227405312) (h : 2 * nz r * (n * 2 ^ 1073) = S) (hM : MeanQ (S : Int) n mode bits) : bits = r := by
  obtain ⟨r', h1, _, hb⟩ := hM
  rw [if_neg (by omega)] at hb
  rw [hb]
  rw [Int.natAbs_natCast] at h1
  exact h1.unique (Nat.mul_pos (by omega) (Nat.two_pow_pos _)) (near_is hr (Nat.mul_pos (by omega) (Nat.two_pow_pos _)) h)
theorem live_mean {bits : Nat} {e : Int} (h : meanR lv1 0 0 0 bits e) : bits = 4613937818241073152 ∧ e = 0 := by
  obtain ⟨he, hh⟩ := mean_fin h (by decide) (by decide +kernel) (by decide +kernel) (by rw [lv1_fil]; decide)
  rw [lv1_fil, lv1_sum] at hh
  rcases hh with ⟨hz, _⟩ | ⟨_, hM⟩
  · have := p2148; exact absurd hz (by rw [Int.natCast_mul]; omega)
  · exact ⟨meanQ_of (by decide) (by decide) (by decide +kernel) hM, he⟩
theorem live_mid {bits : Nat} {e : Int} (h : midR 4607182418800017408 4611686018427387904 0 bits e) : bits = 4609434218613702656 ∧ e = 0 := by
  rcases h with ⟨hh, _⟩ | ⟨_, ⟨hh, _⟩ | ⟨_, h⟩⟩
  · exact absurd (by decide) hh
  · exact absurd (by decide +kernel) hh
  obtain ⟨he, hh⟩ := mean_fin (l := lv2) h (by decide) (by decide +kernel) (by decide +kernel) (by rw [lv2_fil]; decide)
  rw [lv2_fil, lv2_sum] at hh
  rcases hh with ⟨hz, _⟩ | ⟨_, hM⟩
  · have := p2148; exact absurd hz (by rw [Int.natCast_mul]; omega)
  · exact ⟨meanQ_of (by decide) (by decide) (by decide +kernel) hM, he⟩
theorem lv_in {a : Nat} (h : a ≤ 16) : ((a * 2 ^ 2148 : Nat) : Int) < (16384 * BB : Nat) := by
  rw [BB_pow]
  have : a * 2 ^ 2148 < 2 ^ 4238 := by
    have h1 : a * 2 ^ 2148 ≤ 2 ^ 4 * 2 ^ 2148 := Nat.mul_le_mul_right _ h
    rw [← Nat.pow_add] at h1
    exact Nat.lt_of_le_of_lt h1 (Nat.pow_lt_pow_right (by decide) (by decide))
  omega
theorem live_wt {bits : Nat} {e : Int} (h : wtR lv2 lv3 0 bits e) : bits = 4610560118520545280 ∧ e = 0 := by
  have hp := p2148
  rcases h with ⟨hh, _⟩ | ⟨_, ⟨hh, _⟩ | ⟨_, ⟨hh, _⟩ | ⟨_, ⟨hh, _⟩ | ⟨_, ⟨hh, _⟩ | ⟨_, h⟩⟩⟩⟩⟩
  · exact absurd (by decide) hh
  · exact absurd hh (by decide)
  · exact absurd rfl hh
  · exact absurd (by decide +kernel) hh
  · cases hh
  rw [lv3_sum, lv23_prod, if_neg (by rw [Int.natCast_mul]; omega), if_neg (by rw [Int.natCast_mul]; omega)] at h
  have i7 := lv_in (a := 7) (by decide)
  have i4 := lv_in (a := 4) (by decide)
  obtain ⟨he, r, hN, hr, hb⟩ := quo_sum (by have := BB_pos; omega) i7 (by rw [Int.natCast_mul]; omega) i4 (by decide) h
  refine ⟨?_, he⟩
  rw [if_neg (by rw [Int.natCast_mul]; omega)] at hb
  rw [hb]
  rw [Int.natAbs_natCast, Int.natAbs_natCast] at hN
  have hB : 0 < 4 * 2 ^ 2148 := Nat.mul_pos (by decide) (Nat.two_pow_pos _)
  exact hN.unique hB (near_is (by decide) hB (by decide +kernel))
end Go.Proofs.YtphnpchmdpjabaaGreatDoor

/- Package steelyardlaw13: live, exact. No condition. -/
namespace Go.Proofs.YtphnpchmdpjabaaGreatDoor
open Go Sx Wd
set_option exponentiation.threshold 5000

theorem exact_spec (x y : Nat) (w : World) : Ret Tryz.prog 13 [.float .f64 x, .float .f64 y] w fun u w' => u = .bool (decide (x = y)) ∧ w = w' := by
 refine Ret.enter Tryz.func13 rfl rfl ?_
 simp only [args0, Nat.zero_add, Nat.reduceAdd]
 refine Sr fun _ kh1 => za rfl (zz (kh1 (Sr fun _ kh3 => zm rfl ?_)))
 refine WL.ev (Ev.ext rfl (ext40 _ _)) rfl ?_
 refine zm rfl ?_
 refine WL.ev (Ev.ext rfl (ext40 _ _)) rfl ?_
 refine zq rfl rfl (za rfl (zz (kh3 ?_)))
 refine CW.ret ?_
 refine bodyA.ret1 rfl rfl ?_
 refine ⟨congrArg Value.bool (decide_eq_decide.2 (by omega)), rfl⟩

set_option maxRecDepth 8000 in
theorem live_spec (w : World) (hg : GW w) : Ret Tryz.prog 8 [] w fun u w' => u = .bool true ∧ Chg [] w w' := by
 have hch : Chg [] w w := Chg.refl _ _
 have hg0 := hg
 refine Ret.enter Tryz.func8 rfl rfl ?_
 simp only [args0, Nat.zero_add, Nat.reduceAdd]
 refine Sr fun _ kh1 => za rfl (zz (kh1 (Sr fun _ kh3 => ?_)))
 refine WL.buildSlice (m := 3) (cs := [f64v (4607182418800017408), f64v (4611686018427387904), f64v (4618441417868443648)]) (by decide) (by decide) rfl (by kernel_rfl) rfl fun b8 w8 hn8 => ?_
 have hcm8 := hn8.chg
 have hge8 := hn8.ge
 have hb8 : FB w8 b8 _ [4607182418800017408, 4611686018427387904, 4618441417868443648] := hn8.at_
 have hgehch8 := Nat.le_trans hch.size hge8
 have hch := hch.trans (Chg.any hcm8)
 refine WL.ev (Ev.build (vs := _) (cs := [_, _]) rfl rfl) rfl ?_
 refine WL.call hasF15 rfl rfl (Mean_spec _ lv1 0 0 0 _ (NF.of_row hb8.row (by decide) (by decide) rfl (by decide)) (hg0.keep0 hch)) fun v w1 h' => ?_
 obtain ⟨⟨bits, e, rfl, hM⟩, hC10⟩ := h'
 obtain ⟨rfl, rfl⟩ := live_mean hM
 have hch := hch.trans (Chg.any hC10)
 have hb8 := hb8.keep0 hC10
 refine zm rfl (zx rfl rfl (zx rfl rfl (za rfl (za rfl (zz (kh3 (Sr fun _ kh5 => ?_)))))))
 refine WL.buildSlice (m := 2) (cs := [f64v (4607182418800017408), f64v (4611686018427387904)]) (by decide) (by decide) rfl (by kernel_rfl) rfl fun b14 w14 hn14 => ?_
 have hcm14 := hn14.chg
 have hge14 := hn14.ge
 have hb14 : FB w14 b14 _ [4607182418800017408, 4611686018427387904] := hn14.at_
 have hgehch14 := Nat.le_trans hch.size hge14
 have hch := hch.trans (Chg.any hcm14)
 have hneb814 : b8 ≠ b14 := by have := hb8.lt; omega
 have hb8 := hb8.keep0 hcm14
 refine WL.buildSlice (m := 2) (cs := [f64v (4607182418800017408), f64v (4613937818241073152)]) (by decide) (by decide) rfl (by kernel_rfl) rfl fun b15 w15 hn15 => ?_
 have hcm15 := hn15.chg
 have hge15 := hn15.ge
 have hb15 : FB w15 b15 _ [4607182418800017408, 4613937818241073152] := hn15.at_
 have hgehch15 := Nat.le_trans hch.size hge15
 have hch := hch.trans (Chg.any hcm15)
 have hneb815 : b8 ≠ b15 := by have := hb8.lt; omega
 have hb8 := hb8.keep0 hcm15
 have hneb1415 : b14 ≠ b15 := by have := hb14.lt; omega
 have hb14 := hb14.keep0 hcm15
 refine WL.call hasF25 rfl rfl (Weighted_spec _ _ lv2 lv3 0 _ (NF.of_row hb14.row (by decide) (by decide) rfl (by decide)) (NF.of_row hb15.row (by decide) (by decide) rfl (by decide)) (hg0.keep0 hch)) fun v w2 h' => ?_
 obtain ⟨⟨bits, e, rfl, hM⟩, hC16⟩ := h'
 obtain ⟨rfl, rfl⟩ := live_wt hM
 have hch := hch.trans (Chg.any hC16)
 have hb8 := hb8.keep0 hC16
 have hb14 := hb14.keep0 hC16
 have hb15 := hb15.keep0 hC16
 refine zm rfl (zx rfl rfl (zx rfl rfl (za rfl (za rfl (zz (kh5 (Sr fun _ kh7 => ?_)))))))
 refine WL.call hasF29 rfl rfl (Middle_spec _ _ 0 _ (by decide) (by decide) (hg0.keep0 hch)) fun v w3 h' => ?_
 obtain ⟨⟨bits, e, rfl, hM⟩, hC20⟩ := h'
 obtain ⟨rfl, rfl⟩ := live_mid hM
 have hch := hch.trans (Chg.any hC20)
 have hb8 := hb8.keep0 hC20
 have hb14 := hb14.keep0 hC20
 have hb15 := hb15.keep0 hC20
 refine zm rfl (zx rfl rfl (zx rfl rfl (za rfl (za rfl (zz (kh7 (Sr fun _ kh9 => zm rfl (zq rfl rfl (zm rfl (zw rfl (zm rfl (zw rfl ?_))))))))))))
 refine WL.ev (Ev.feql rfl rfl) rfl ?_
 rw [show (FloatKind.f64.format.order 4613937818241073152 4613937818241073152 == some .eq) = true by rw [Fl.order_self_eq]; decide]
 refine zt rfl rfl (zm rfl (zw rfl (zm rfl (zw rfl (zq rfl rfl (zt rfl rfl (zm rfl (zw rfl (zm rfl (zw rfl ?_))))))))))
 refine WL.ev (Ev.feql rfl rfl) rfl ?_
 rw [show (FloatKind.f64.format.order 4610560118520545280 4610560118520545280 == some .eq) = true by rw [Fl.order_self_eq]; decide]
 refine zt rfl rfl (zm rfl (zw rfl (zm rfl (zw rfl (zq rfl rfl (zt rfl rfl (zm rfl (zw rfl (zm rfl (zw rfl ?_))))))))))
 refine WL.ev (Ev.feql rfl rfl) rfl ?_
 rw [show (FloatKind.f64.format.order 4609434218613702656 4609434218613702656 == some .eq) = true by rw [Fl.order_self_eq]; decide]
 refine zt rfl rfl (za rfl (zz (kh9 ?_)))
 refine CW.ret ?_
 refine bodyA.ret1 rfl rfl ?_
 exact ⟨rfl, hch⟩

end Go.Proofs.YtphnpchmdpjabaaGreatDoor

/- Reference of layer 1: lists that are lent. No condition. -/
namespace Go.Proofs.YtphnpchmdpjabaaGreatDoor
open Go Sx Wd

theorem mark_at {l : List Nat} {i : Nat} (h1 : l.length ≤ i) (h2 : i < l.length + 8) : (l ++ List.replicate 8 4693671547643874799).getD i 0 = 4693671547643874799 := by
  rw [List.getD_eq_getElem?_getD, List.getElem?_append_right h1, List.getElem?_replicate, if_pos (by omega)]; rfl
theorem mark_in {l : List Nat} {i : Nat} (h1 : i < l.length) : (l ++ List.replicate 8 4693671547643874799).getD i 0 = l.getD i 0 := by
  rw [List.getD_eq_getElem?_getD, List.getElem?_append_left h1, ← List.getD_eq_getElem?_getD]
theorem mark_len (l : List Nat) : (l ++ List.replicate 8 4693671547643874799).length = l.length + 8 := by simp
theorem mark_lt {l : List Nat} (h : ∀ x ∈ l, x < 18446744073709551616) : ∀ x ∈ (l ++ List.replicate 8 4693671547643874799), x < 18446744073709551616 := fun x hx => by
  rcases List.mem_append.1 hx with q | q
  · exact h x q
  · rw [List.mem_replicate] at q; omega
theorem NF.lent {w : World} {b : Nat} {E : TypeId} {l R : List Nat} (h : FB w b E (l ++ R)) (hw : ∀ x ∈ l, x < 18446744073709551616) (hl : l.length ≤ 70368744177664) {c : Nat} (hc : l.length ≤ c) : NF w (.slice (some ⟨b, 0, none⟩) l.length c) l :=
  ⟨⟨_, c, rfl, hc, by have := h.row; rw [List.map_append] at this; exact this.append_left⟩, hw, hl⟩
structure KLe (l : List Nat) (b : Nat) (w0 : World) (g : Nat × List Nat) (w : World) : Prop where
  lo : l.length ≤ g.1
  hi : g.1 ≤ l.length + 8
  len : g.2.length = l.length + 8
  tk : g.2.take g.1 = (l ++ List.replicate 8 4693671547643874799).take g.1
  hB : FB w b 28 g.2
  ch : Chg [] w0 w
structure KAl (l : List Nat) (w0 : World) (i : Nat) (w : World) : Prop where
  hi : i ≤ l.length + 8
  ch : Chg [] w0 w

set_option maxRecDepth 8000 in
set_option maxHeartbeats 2000000 in
theorem r1Lent_spec (v : Value) (l : List Nat) (w : World) (hv : NF w v l) (hlm : l.length ≤ 17592186044415) : Ret Tryz.prog 21 [v] w fun u w' => ∃ b, u = .slice (some ⟨b, 0, none⟩) l.length (l.length + 8) ∧ FB w' b 28 (l ++ List.replicate 8 4693671547643874799) ∧ Chg [] w w' ∧ w.heap.size ≤ b := by
 obtain ⟨⟨al, cl, rfl, hcapl, hrl⟩, hWl, hll⟩ := hv
 have hch : Chg [] w w := Chg.refl _ _
 refine Ret.enter Tryz.func21 rfl rfl ?_
 simp only [args0, Nat.zero_add, Nat.reduceAdd]
 refine Sr fun _ kh1 => za rfl (zz (kh1 (Sr fun _ kh3 => zm rfl (zn rfl ?_))))
 first | refine WL.ev (Ev.addIn rfl rfl (by omega)) rfl ?_ | refine WL.ev (Ev.add rfl rfl) rfl ?_
 refine WL.makeF (((l).length + 8)) (((l).length + 8)) rfl rfl (by omega) (by omega) (by omega) (by omega) (by omega) rfl fun b8 wm8 hb8 hcm8 hge8 => ?_
 have hgehch8 := Nat.le_trans hch.size hge8
 have hch := hch.trans (Chg.any hcm8)
 refine za rfl (zz (kh3 (Sr fun _ kh5 => zm rfl (zm rfl ?_))))
 refine WL.copyF rfl rfl hb8 (hrl.keep0 hch) (by simp; try omega) (by simp; try omega) rfl fun ws20 hb8_ hcs20 => ?_
 have hch := hch.s1 hcs20
 have hb8 := hb8_
 rw [show ((l).take (min ((l).length) (((l).length + 8))) ++ (List.replicate (((l).length + 8)) 0).drop (min ((l).length) (((l).length + 8)))) = (l ++ List.replicate 8 0) from by rw [show min l.length (l.length + 8) = l.length by omega, List.take_length, List.drop_replicate, show l.length + 8 - l.length = 8 by omega]] at hb8
 refine zz (kh5 (zc fun _ kh7 => Sr fun _ kh8 => zm rfl (zn rfl (za rfl (zz (kh8 ?_))))))
 refine CW.block ?_
 refine CW.loop (S := fun g : Nat × List Nat => [(0, .slice al l.length cl), (3, .slice (some ⟨b8, 0, none⟩) (l.length + 8) (l.length + 8)), (4, .int .i64 (g.1 : Int))]) (Inv := KLe l b8 w) (mu := fun g => l.length + 8 - g.1) ((l.length, l ++ List.replicate 8 0)) ?_ ?_ ?_
 ·
  exact ⟨Nat.le_refl _, by dsimp only; omega, by simp, by simp, hb8, hch⟩
 ·
  exact SLp
 ·
  rintro ⟨i, Lc⟩ wr ⟨hlo, hhi, hlen, htk, hb8, hch⟩
  dsimp only at hlo hhi hlen htk hb8
  dsimp only
  refine zc fun _ kh10 => Sr fun _ kh11 => zm rfl (zm rfl (zn rfl ?_))
  refine WL.ev (Ev.lss rfl rfl) rfl ?_
  refine zz (kh11 ?_)
  refine CW.cond rfl (fun hc1 => ?_) (fun hc1 => ?_)
  ·
   try simp only [qs] at hc1
   refine CW.skip ?_
   refine kh10 (zc fun _ kh13 => ?_)
   refine CW.block ?_
   refine CW.region fun kR14 kr14 => ?_
   refine zm rfl (zm rfl ?_)
   refine WL.call hasF61 rfl rfl (r1Of_spec 4693671547643874799 _ (by omega)) fun v w1 h' => ?_
   obtain ⟨rfl, rfl⟩ := h'
   refine WL.ev (Ev.ixB (i) rfl rfl (by omega) (by omega)) rfl ?_
   refine WL.storeF rfl rfl hb8 (by first | omega | (simp; omega)) fun ws21 hb8_ hcs21 => ?_
   have hch := hch.s1 hcs21
   have hb8 := hb8_
   refine WL.nil (kr14 _ _ _ (kh13 ?_))
   refine CW.region fun kR15 kr15 => ?_
   refine zm rfl ?_
   first | refine WL.ev (Ev.addIn rfl rfl (by omega)) rfl ?_ | refine WL.ev (Ev.add rfl rfl) rfl ?_
   refine za rfl ?_
   refine WL.nil (kr15 _ _ _ ?_)
   refine ⟨rfl, (i + 1, Lc.set i 4693671547643874799), ?_, ?_, ?_⟩
   ·
    exact SLp
   ·
    exact ⟨by dsimp only; omega, by dsimp only; omega, by dsimp only; rw [List.length_set, hlen], by dsimp only; rw [set_take (by omega), htk, take_step (by rw [mark_len]; omega), mark_at hlo (by omega)], hb8, hch⟩
   ·
    show l.length + 8 - (i + 1) < l.length + 8 - i; omega
  ·
   try simp only [qs] at hc1
   have hiX : i = l.length + 8 := by omega
   subst hiX
   rw [← hlen, List.take_length, hlen, ← mark_len l, List.take_length] at htk
   subst htk
   refine CW.exit ?_
   refine kh7 (Sr fun _ kh16 => zm rfl (zm rfl (zn rfl ?_)))
   refine WL.ev (Ev.sliceHn ((l).length) rfl rfl (by omega) (by omega)) rfl ?_
   refine za rfl (zz (kh16 ?_))
   refine CW.ret ?_
   refine bodyA.ret1 rfl rfl ?_
   exact ⟨b8, rfl, hb8, hch, hgehch8⟩

set_option maxRecDepth 8000 in
set_option maxHeartbeats 2000000 in
theorem r1AsLentT_spec (b : Nat) (v : Value) (l T : List Nat) (w : World) (hB : FB w b 28 T) (hv : NF w v l) (hTl : T.length = l.length + 8) (hT1 : ∀ i, i < l.length → T.getD i 0 = l.getD i 0) (hT2 : ∀ i, l.length ≤ i → i < l.length + 8 → T.getD i 0 = 4693671547643874799) (hTw : ∀ i, T.getD i 0 < 18446744073709551616) : Ret Tryz.prog 23 [.slice (some ⟨b, 0, none⟩) l.length (l.length + 8), v] w fun u w' => u = .bool true ∧ Chg [] w w' := by
 obtain ⟨⟨al, cl, rfl, hcapl, hrl⟩, hWl, hll⟩ := hv
 have hch : Chg [] w w := Chg.refl _ _
 have hB0 := hB
 refine Ret.enter Tryz.func23 rfl rfl ?_
 simp only [args0, Nat.zero_add, Nat.reduceAdd]
 refine Sr fun _ kh1 => za rfl (zz (kh1 (Sr fun _ kh3 => zm rfl (zm rfl (zn rfl ?_)))))
 first | refine WL.ev (Ev.addIn rfl rfl (by omega)) rfl ?_ | refine WL.ev (Ev.add rfl rfl) rfl ?_
 refine WL.ev (Ev.sliceHn (l.length + 8) rfl rfl (by omega) (by omega)) rfl ?_
 refine za rfl (zz (kh3 (zc fun _ kh5 => Sr fun _ kh6 => za rfl (zz (kh6 ?_)))))
 refine CW.block ?_
 refine CW.loop (S := fun i : Nat => [(0, .slice (some ⟨b, 0, none⟩) l.length (l.length + 8)), (1, .slice al l.length cl), (5, .slice (some ⟨b, 0, none⟩) (l.length + 8) (l.length + 8)), (6, .int .i64 (i : Int))]) (Inv := KAl l w) (mu := fun i => l.length + 8 - i) (0) ?_ ?_ ?_
 ·
  exact ⟨Nat.zero_le _, hch⟩
 ·
  exact SLp
 ·
  rintro i wr ⟨hhi, hch⟩
  have hB := hB0.keep0 hch
  refine zc fun _ kh8 => Sr fun _ kh9 => zm rfl (zm rfl (zn rfl ?_))
  refine WL.ev (Ev.lss rfl rfl) rfl ?_
  refine zz (kh9 ?_)
  refine CW.cond rfl (fun hc1 => ?_) (fun hc1 => ?_)
  ·
   try simp only [qs] at hc1
   have hmx := hTw i
   have hlx := D_getD hWl i
   refine CW.skip ?_
   refine kh8 (zc fun _ kh11 => ?_)
   refine CW.block ?_
   refine Sr fun _ kh12 => za rfl (zz (kh12 (zc fun _ kh14 => Sr fun _ kh15 => zm rfl (zm rfl (zn rfl ?_)))))
   refine WL.ev (Ev.lss rfl rfl) rfl ?_
   refine zz (kh15 ?_)
   refine CW.cond rfl (fun hc2 => ?_) (fun hc2 => ?_)
   ·
    try simp only [qs] at hc2
    have hmi := hT1 i (by omega)
    refine CW.region fun kR17 kr17 => ?_
    refine zm rfl (zm rfl ?_)
    refine WL.ev (Ev.ixR (i) rfl rfl (hrl.keep0 hch) (by omega) (by omega) (by simp; omega)) rfl ?_
    refine WL.ev (Ev.load rfl rfl ((hrl.keep0 hch).f64 (by first | omega | (simp; omega)))) rfl ?_
    refine WL.call hasF67 rfl rfl (r1raw_spec (l.getD i 0) _ hlx) fun v w1 h' => ?_
    obtain ⟨rfl, rfl⟩ := h'
    refine za rfl ?_
    refine WL.nil (kr17 _ _ _ (kh14 ?_))
    refine Sr fun _ kh18 => zm rfl (zm rfl ?_)
    refine WL.ev (Ev.ixB (i) rfl rfl (by omega) (by omega)) rfl ?_
    refine WL.ev (Ev.load rfl rfl (hB.f64 (by first | omega | (simp; omega)))) rfl ?_
    refine WL.call hasF67 rfl rfl (r1raw_spec (T.getD i 0) _ hmx) fun v w2 h' => ?_
    obtain ⟨rfl, rfl⟩ := h'
    refine zm rfl ?_
    refine WL.ev (Ev.neq rfl rfl) rfl ?_
    refine zz (kh18 ?_)
    refine CW.cond rfl (fun hc3 => ?_) (fun hc3 => ?_)
    ·
     try simp only [qs] at hc3
     exact absurd (congrArg (fun q : Nat => (q : Int)) hmi) hc3
    ·
     try simp only [qs] at hc3
     refine CW.skip ?_
     refine kh11 ?_
     refine CW.region fun kR20 kr20 => ?_
     refine zm rfl ?_
     first | refine WL.ev (Ev.addIn rfl rfl (by omega)) rfl ?_ | refine WL.ev (Ev.add rfl rfl) rfl ?_
     refine za rfl ?_
     refine WL.nil (kr20 _ _ _ ?_)
     refine ⟨rfl, i + 1, ?_, ?_, ?_⟩
     ·
      exact SLp
     ·
      exact ⟨by omega, hch⟩
     ·
      show l.length + 8 - (i + 1) < l.length + 8 - i; omega
   ·
    try simp only [qs] at hc2
    have hmi := hT2 i (by omega) (by omega)
    refine CW.skip ?_
    refine kh14 (Sr fun _ kh21 => zm rfl (zm rfl ?_))
    refine WL.ev (Ev.ixB (i) rfl rfl (by omega) (by omega)) rfl ?_
    refine WL.ev (Ev.load rfl rfl (hB.f64 (by first | omega | (simp; omega)))) rfl ?_
    refine WL.call hasF67 rfl rfl (r1raw_spec (T.getD i 0) _ hmx) fun v w3 h' => ?_
    obtain ⟨rfl, rfl⟩ := h'
    refine zm rfl ?_
    refine WL.ev (Ev.neq rfl rfl) rfl ?_
    refine zz (kh21 ?_)
    refine CW.cond rfl (fun hc4 => ?_) (fun hc4 => ?_)
    ·
     try simp only [qs] at hc4
     exact absurd (congrArg (fun q : Nat => (q : Int)) hmi) hc4
    ·
     try simp only [qs] at hc4
     refine CW.skip ?_
     refine kh11 ?_
     refine CW.region fun kR23 kr23 => ?_
     refine zm rfl ?_
     first | refine WL.ev (Ev.addIn rfl rfl (by omega)) rfl ?_ | refine WL.ev (Ev.add rfl rfl) rfl ?_
     refine za rfl ?_
     refine WL.nil (kr23 _ _ _ ?_)
     refine ⟨rfl, i + 1, ?_, ?_, ?_⟩
     ·
      exact SLp
     ·
      exact ⟨by omega, hch⟩
     ·
      show l.length + 8 - (i + 1) < l.length + 8 - i; omega
  ·
   try simp only [qs] at hc1
   refine CW.exit ?_
   refine kh5 (Sr fun _ kh24 => zm rfl (zn rfl (zm rfl (zn rfl (zq rfl rfl (za rfl (zz (kh24 ?_))))))))
   refine CW.ret ?_
   refine bodyA.ret1 rfl rfl ?_
   exact ⟨congrArg Value.bool (decide_eq_true rfl), hch⟩

theorem r1AsLent_spec (b : Nat) (v : Value) (l : List Nat) (w : World) (hB : FB w b 28 (l ++ List.replicate 8 4693671547643874799)) (hv : NF w v l) : Ret Tryz.prog 23 [.slice (some ⟨b, 0, none⟩) l.length (l.length + 8), v] w fun u w' => u = .bool true ∧ Chg [] w w' :=
 r1AsLentT_spec b v l _ w hB hv (mark_len l) (fun i h => mark_in h) (fun i h1 h2 => mark_at h1 h2) (fun i => D_getD (mark_lt hv.hw) i)

end Go.Proofs.YtphnpchmdpjabaaGreatDoor

/- Package steelyardlaw13: MeanTrimmed. No condition. -/
namespace Go.Proofs.YtphnpchmdpjabaaGreatDoor
open Go Sx Wd Fl

set_option maxRecDepth 8000 in
set_option maxHeartbeats 2000000 in
theorem MeanTrimmed_spec (v : Value) (l : List Nat) (k mode : Int) (w : World) (hg : GW w) (hvl : NF w v l ∧ l.length ≤ 17592186044415) (hk : -9223372036854775808 ≤ k ∧ k ≤ 9223372036854775807) (hmode : -9223372036854775808 ≤ mode ∧ mode ≤ 9223372036854775807) : Ret Tryz.prog 5 [v, .int .i64 k, .int .i64 mode] w fun u w' => u = .bool true ∧ Chg [] w w' := by
 obtain ⟨hv, hlm⟩ := hvl
 have hv0 := hv
 have hWl := hv.hw
 have hll := hv.len
 have hch : Chg [] w w := Chg.refl _ _
 have hg0 := hg
 refine Ret.enter Tryz.func5 rfl rfl ?_
 simp only [args0, Nat.zero_add, Nat.reduceAdd]
 refine Sr fun _ kh1 => za rfl (zz (kh1 (Sr fun _ kh3 => ?_)))
 refine WL.call hasF8 rfl rfl (live_spec _ (hg0.keep0 hch)) fun v w1 h' => ?_
 obtain ⟨rfl, hC⟩ := h'
 have hch := hch.trans (Chg.any hC)
 refine za rfl (zz (kh3 (Sr fun _ kh5 => zm rfl ?_)))
 refine WL.call hasF21 rfl rfl (r1Lent_spec _ l _ (hv0.keep0 hch) hlm) fun v w2 h' => ?_
 obtain ⟨b, rfl, hB, hC, hge⟩ := h'
 have hch := hch.trans (Chg.any hC)
 refine za rfl (zz (kh5 (Sr fun _ kh7 => zm rfl (zm rfl (zm rfl ?_)))))
 refine WL.call hasF22 rfl rfl (mTrimmed_spec _ l k mode _ (NF.lent hB hWl hll (by omega)) hk (hg0.keep0 hch)) fun v w3 h' => ?_
 obtain ⟨⟨bits, e, rfl, hM⟩, hC⟩ := h'
 have hch := hch.trans (Chg.any hC)
 have hB := hB.keep0 hC
 refine zm rfl (zx rfl rfl (zx rfl rfl (za rfl (za rfl (zz (kh7 (Sr fun _ kh9 => zm rfl (zm rfl ?_))))))))
 refine WL.call hasF23 rfl rfl (r1AsLent_spec b _ l _ hB (hv0.keep0 hch)) fun v w4 h' => ?_
 obtain ⟨rfl, hC⟩ := h'
 have hch := hch.trans (Chg.any hC)
 have hB := hB.keep0 hC
 refine za rfl (zz (kh9 (Sr fun _ kh11 => zm rfl (zm rfl (zm rfl ?_)))))
 refine WL.call hasF24 rfl rfl (r13Trimmed_spec _ l k mode _ (hv0.keep0 hch) hk) fun v w5 h' => ?_
 obtain ⟨⟨bits2, e2, rfl, hM2⟩, hC⟩ := h'
 obtain ⟨rfl, rfl⟩ := trim_unique hM hM2
 have hch := hch.trans (Chg.any hC)
 have hB := hB.keep0 hC
 refine zm rfl (zx rfl rfl (zx rfl rfl (za rfl (za rfl (zz (kh11 (Sr fun _ kh13 => zm rfl (zm rfl (zw rfl (zm rfl (zt rfl rfl (zm rfl (zw rfl (zm rfl (zw rfl (zm rfl (zw rfl (zq rfl rfl ?_))))))))))))))))))
 rw [decide_eq_true rfl]
 refine zt rfl rfl (zm rfl (zw rfl (zm rfl (zw rfl (zm rfl (zw rfl ?_))))))
 refine WL.call hasF13 rfl rfl (exact_spec _ _ _) fun v w6 h' => ?_
 obtain ⟨rfl, rfl⟩ := h'
 rw [decide_eq_true rfl]
 refine zt rfl rfl (za rfl (zz (kh13 ?_)))
 refine CW.ret ?_
 refine bodyA.ret1 rfl rfl ?_
 exact ⟨rfl, hch⟩

end Go.Proofs.YtphnpchmdpjabaaGreatDoor

/- What came in, opened; the listed table, opened. No condition. -/
namespace Go.Proofs.YtphnpchmdpjabaaGreatDoor
open Go Sx Wd
open Go.ChangeShapes Go.WideShapes Go.ChangeAt Go.WideMaps Go.WideElems Go.RowKit

theorem own : ownKnob Tryz.prog.godebug = none := by kernel_rfl
theorem laidOut : laidOutB Tryz.prog = true := by kernel_rfl
theorem door_met (os : Os) (args : Array Value) : laidMetH Tryz.prog [("math/bits.deBruijn32tab", Rows.laid_math_bits_deBruijn32tab)] ((World.doorLaid Tryz.prog 400 os).forCall (fun _ _ => 0) ⟨#[], args, []⟩).memory :=
  laidMetH_of_parts3 (fuel := 8) (laidMet_of_run' 8 (by kernel_rfl) (by kernel_rfl)) (by kernel_rfl) (by kernel_rfl)
theorem gDeb : Tryz.prog.globalNamed "math/bits.deBruijn32tab" = some 1 := by kernel_rfl
theorem tDeb : (Tryz.prog.globals[1]?).map (·.type) = some 199 := by kernel_rfl
theorem deb_data {H : Type} : (Rows.laid_math_bits_deBruijn32tab : DataW H) = .agg (deb.map fun n : Nat => .lit (.int .u8 (n : Int))) := rfl
theorem gw_of_laid {W : World} (h : laidMetH Tryz.prog [("math/bits.deBruijn32tab", Rows.laid_math_bits_deBruijn32tab)] W) : GW W := by
  rw [MakeChecks.laidMetH_plain _ _ _ (by kernel_rfl)] at h
  obtain ⟨ps, ⟨g0, t0, cs0, f0, p0, q0, hg0, ht0, hv0, hd0, _, _⟩, _, _⟩ := h
  obtain rfl := Option.some.inj (gDeb.symm.trans hg0)
  obtain rfl := Option.some.inj (tDeb.symm.trans ht0)
  obtain ⟨xs, m1, rfl, hx1, hlen, hn3, hel⟩ := DataW.trod_array Tryz.underlying199 hd0
  have c8 : Tryz.prog.cellsOf 5 = 1 := by kernel_rfl
  simp only [Prod.mk.injEq] at hx1
  intro i hi
  have hi' := hel i hi
  rw [c8, Nat.mul_one] at hi'
  have hxi : xs[i]? = some (xs[i]'(by omega)) := List.getElem?_eq_getElem (by omega)
  rw [hxi] at hi'
  obtain ⟨k, e1, e2, _⟩ := DataW.trod_int Tryz.underlying5 hi'
  have hxs : (deb.map fun n : Nat => (DataW.lit (.int .u8 (n : Int)) : DataW Unit)) = xs.map (·.1) := by
    have := hx1.1
    rw [deb_data] at this
    exact DataW.agg.inj this
  have hdat : (deb.map fun n : Nat => (DataW.lit (.int .u8 (n : Int)) : DataW Unit))[i]? = some (.lit (.int .u8 ((deb.getD i 0 : Nat) : Int))) := by
    rw [List.getElem?_map, List.getElem?_eq_getElem (show i < deb.length from hi), List.getD_eq_getElem?_getD, List.getElem?_eq_getElem (show i < deb.length from hi)]; rfl
  rw [hxs, List.getElem?_map, hxi] at hdat
  simp only [Option.map_some] at hdat
  rw [e2] at hdat
  have hk : k = ((deb.getD i 0 : Nat) : Int) := by
    have := Option.some.inj hdat
    simp only [DataW.lit.injEq, Lit.int.injEq, true_and] at this
    exact this
  subst hk
  have hc : cs0[i]? = some (.int .u8 ((deb.getD i 0 : Nat) : Int)) := by
    have h3 : (cs0.toList.drop i)[0]? = some (.int .u8 ((deb.getD i 0 : Nat) : Int)) := by
      have := congrArg (fun l : List Value => l[0]?) e1
      simpa using this
    simpa using h3
  have := World.var?_cell hg0 hv0 i
  rw [hc] at this
  exact this

/-- One float cell, read. -/
theorem float_cell {H : Type} {enc : TypeId × Value → H} {P : Program} {w : World} {base : Nat} {spare : Nat → Bool} {held : Bool} {n : Nat} {e : TypeId} {v : Value} {x : DataW H × List MemPlace} (he : P.underlying e = some (.float .f64)) (h : DataW.trod enc P w base spare held n e [v] = some x) : ∃ b, v = .float .f64 b ∧ b < 18446744073709551616 := by
  cases n with
  | zero => simp [DataW.trod] at h
  | succ n =>
    simp only [DataW.trod, he] at h
    cases v <;> simp_all
    rename_i k b
    cases k <;> simp_all [Lit.wf]
/-- A slice of floats that came in. -/
theorem open_nf {H : Type} {enc : TypeId × Value → H} {P : Program} {w : World} {base b0 : Nat} {spare : Nat → Bool} {held : Bool} {t e : TypeId} {v : Value} {d : DataW H} {ps : List MemPlace} (ht : P.underlying t = some (.slice e)) (he : P.underlying e = some (.float .f64)) (hc : P.cellsOf e = 1) (hb : P.bytesOf e = 8) (hval : Value.okWide P w .any b0 t v) (h : DataW.Trod enc P w base spare held t v d ps)
    (hsz : ∀ elems spare', d = .slice elems spare' → (elems.length + spare'.length) * P.bytesOf e ≤ reachBytes) : ∃ l : List Nat, NF w v l ∧ l.length ≤ 17592186044415 := by
  obtain ⟨a, len, cap, rfl⟩ := okWide_slice ht hval
  obtain ⟨fuel, hf⟩ := h
  rcases Go.Deep.open_slice1 ht hc hf with ⟨hcs, _⟩ | ⟨ad, l, c, m, n, V, D, Pl, hcs, _, hlc, hcm, hm, hx, hV⟩
  · simp [Value.cells] at hcs
    obtain ⟨rfl, rfl, rfl⟩ := hcs
    exact ⟨[], ⟨⟨none, 0, rfl, Nat.le_refl _, RW.nil⟩, fun x hx => (by cases hx), by decide⟩, by decide⟩
  · simp [Value.cells] at hcs
    obtain ⟨rfl, rfl, rfl⟩ := hcs
    have hlm : len ≤ m := by rw [hm]; split <;> omega
    simp only [Prod.mk.injEq] at hx
    have h8 := hsz _ _ hx.1
    rw [hb] at h8
    simp only [List.length_map, List.length_range] at h8
    have hr : reachBytes = 140737488351232 := by decide
    have hlen : len ≤ 17592186044415 := by omega
    obtain ⟨f, hf2⟩ := Go.Deep.choose_lt (α := Nat) (n := len) (p := fun i b => V i = .float .f64 b ∧ b < 18446744073709551616) (fun i hi => float_cell he (hV i (by omega)).2)
    refine ⟨(List.range len).map f, ⟨⟨some ad, cap, by simp, by simpa using hlc, fun i y hy => ?_⟩, fun y hy => ?_, by simp; omega⟩, by simpa using hlen⟩
    · have hi : i < len := by
        by_cases q : i < len
        · exact q
        · rw [List.getElem?_eq_none (by simp; omega)] at hy; cases hy
      simp [List.getElem?_range hi] at hy
      subst hy
      exact ⟨ad, rfl, by rw [(hV i (by omega)).1, (hf2 i hi).1]; rfl⟩
    · obtain ⟨i, hi, rfl⟩ := List.mem_map.1 hy
      exact (hf2 i (List.mem_range.1 hi)).2
end Go.Proofs.YtphnpchmdpjabaaGreatDoor

/- The statement on MeanTrimmed. -/
namespace Go.Proofs.YtphnpchmdpjabaaGreatDoor.meanTrimmed
open Go.ChangeShapes Go.WideShapes Go.ChangeAt Go.RowKit

set_option maxRecDepth 100000 in
theorem lifted (os : Os) (started : os.Started) (H : Type) (enc : TypeId × Value → H) :
    ReturnsInHanded {} Tryz.checked os 5 .any (fun w args => (Rows.meanTrimmedSpec.pre enc Tryz.prog Tryz.f5 Rows.meanTrimmedRow.domain false w args ∧ laidMetH Tryz.prog [("math/bits.deBruijn32tab", Rows.laid_math_bits_deBruijn32tab)] w) ∧ sizedMet enc Tryz.prog Tryz.f5 (OpenSpec.ofChange Rows.meanTrimmedSpec) false w args) (Rows.meanTrimmedSpec.post enc Tryz.prog Tryz.f5 false true false false) := by
  refine returnsInHanded_of_change_and (C := Tryz.checked) (X := fun w _ => laidMetH Tryz.prog [("math/bits.deBruijn32tab", Rows.laid_math_bits_deBruijn32tab)] w) (fun _ _ _ hh h => h.of_heap hh) own started (by kernel_rfl) Tryz.func5
    (ChangeSpec.witness_shaped (enc := enc) (C := Tryz.checked) (os := os) (X := fun w _ => laidMetH Tryz.prog [("math/bits.deBruijn32tab", Rows.laid_math_bits_deBruijn32tab)] w) false (World.doorLaid Tryz.prog 400 os) #[.slice none 0 0, .int .i64 0, .int .i64 0] 8 rfl (World.shaped_of_RefB (by kernel_rfl) (by kernel_rfl)) (by kernel_rfl) (by kernel_rfl) (by kernel_rfl) (door_met os _)) ?_
  intro W base args ds gs before hval0 hW hcnd hsz0 hL _
  have hGW := gw_of_laid hL
  have hval : ∀ (j : Nat) t v, Tryz.f5.params[j]? = some t → args[j]? = some v → Value.okWide Tryz.prog W .any base t v := hval0
  have hsz : (DataW.weightsEach Tryz.prog (Tryz.f5.params.toList ++ []) (ds ++ gs)).all (· ≤ reachBytes) = true := hsz0
  have hW' := hW
  obtain ⟨p, q, hA0, hV, rfl, hfz, hnd⟩ := hW
  have hA : DataW.TrodAll enc Tryz.prog W 0 (fun _ => true) true Tryz.f5.params.toList args.toList ds p := hA0
  rw [Tryz.params5] at hA hval hsz
  obtain ⟨v0, vs0, d0, ds0, p0, q0, hargs, rfl, rfl, h0, r0⟩ := trodAll_cons hA
  obtain ⟨v1, vs1, d1, ds1, p1, q1, rfl, rfl, rfl, h1, r1⟩ := trodAll_cons r0
  obtain ⟨v2, vs2, d2, ds2, p2, q2, rfl, rfl, rfl, h2, r2⟩ := trodAll_cons r1
  obtain ⟨rfl, rfl, rfl⟩ := trodAll_nil r2
  obtain rfl : args = #[v0, v1, v2] := by cases args; simp_all
  obtain ⟨rfl, rfl⟩ := trodVars_none hV
  simp only [List.append_nil] at hsz
  have k0 := h0
  have lt0 : ∀ x ∈ p0, x.block < W.heap.size := by obtain ⟨m, hm⟩ := k0; exact DataW.trod_lt m _ _ _ hm
  obtain ⟨l0, nf0⟩ := open_nf Tryz.underlying35 Tryz.underlying28 (by kernel_rfl) (by kernel_rfl) (hval 0 35 v0 rfl rfl) h0 (fun elems spare hd => sized_slice (j := 0) hsz rfl (by rw [← hd]; rfl) Tryz.underlying35)
  have k1 := h1
  have lt1 : ∀ x ∈ p1, x.block < W.heap.size := by obtain ⟨m, hm⟩ := k1; exact DataW.trod_lt m _ _ _ hm
  obtain ⟨a1, rfl, _, _, wf1⟩ := open_int Tryz.underlying3 (hval 1 3 v1 rfl rfl) h1
  have bd1 := bounds_i64 wf1
  have k2 := h2
  have lt2 : ∀ x ∈ p2, x.block < W.heap.size := by obtain ⟨m, hm⟩ := k2; exact DataW.trod_lt m _ _ _ hm
  obtain ⟨a2, rfl, _, _, wf2⟩ := open_int Tryz.underlying3 (hval 2 3 v2 rfl rfl) h2
  have bd2 := bounds_i64 wf2
  clear hA0 hval0
  refine Calls.mono (MeanTrimmed_spec v0 l0 a1 a2 W hGW nf0 bd1 bd2) fun e W' ⟨v, he, hv, hc⟩ => ?_
  subst he
  subst hv
  have bel : Below W.heap.size W W' := hc.below
  exact ⟨_, rfl, _, _, _, [], _, [], hW', trodAll_mk1 (shut_bool Tryz.underlying4 _), (trodAll_cons_mk (Below.trod laidOut (by kernel_rfl) (of_decide_eq_true (by kernel_rfl)) k0 bel lt0) (trodAll_cons_mk (Below.trod laidOut (by kernel_rfl) (of_decide_eq_true (by kernel_rfl)) k1 bel lt1) (trodAll_cons_mk (Below.trod laidOut (by kernel_rfl) (of_decide_eq_true (by kernel_rfl)) k2 bel lt2) trodAll_mk0))), rfl, bel.frame _, fun h => by cases h⟩

theorem over : Rows.meanTrimmedRow.holds Tryz.pinned (OpenSpec.ofChange Rows.meanTrimmedSpec) :=
  OpenClaim.holds_of_wide 5 Tryz.f5 rfl rfl rfl rfl rfl rfl rfl ⟨rfl, rfl, rfl, rfl, rfl⟩ rfl rfl rfl rfl rfl (by kernel_rfl) Tryz.func5 (by kernel_rfl)
    (of_decide_eq_true (by kernel_rfl)) (by unfold Func.isWrapper; first | (rw [if_pos (by decide +kernel)]; kernel_rfl) | (rw [if_neg (by decide +kernel)]; exact ⟨rfl, rfl⟩))
    (fun os started H enc _ => lifted os started H enc)

theorem proved : Rows.MeanTrimmedCardSaid :=
  Claim7.holds_tied_plain_at .later [] [.data] true Rows.meanTrimmedCard.stood.harness false
    over (fun _ h => by cases h) (by kernel_rfl) (fun _ h => by cases h) meanTrimmed_row_tie rfl ⟨rfl, rfl⟩ (by kernel_rfl) rfl
    (fun f fn hf hfn => by
      obtain rfl : f = 5 := Option.some.inj ((show Tryz.prog.funcNamed "steelyard/steelyardlaw13.MeanTrimmed" = some 5 by kernel_rfl).symm.trans hf) |>.symm
      obtain rfl : fn = Tryz.f5 := (Option.some.inj (Tryz.func5.symm.trans hfn)).symm
      exact ⟨by kernel_rfl, fun j t ht => by
        have hm : t ∈ Tryz.f5.params.toList := by simpa using Array.mem_of_getElem? ht
        have hall : (Tryz.f5.params.toList.all fun u => !Tryz.prog.wantsStandIn u) = true := by kernel_rfl
        exact (show Tryz.prog.wantsStandIn t = false by simpa using List.all_eq_true.1 hall t hm)⟩)
    (by kernel_rfl)
end Go.Proofs.YtphnpchmdpjabaaGreatDoor.meanTrimmed
