/- Part 4 of what the proof rests on. No condition. -/
import Derived.Test.YtknahdghcfdmgaaGreatDoorQs3
import GoSem.Core.Float
set_option linter.unusedVariables false
set_option linter.unusedSimpArgs false
set_option maxRecDepth 100000
set_option maxHeartbeats 4000000
namespace Go.Proofs.YtknahdghcfdmgaaGreatDoor
/- Package super: Exact. No condition. -/
section
open Go Sx Wd
set_option exponentiation.threshold 5000

/-- Words of 64 bits as pairs of words. -/
def prs : List Nat → List Nat
  | [] => []
  | x :: l => x % 4294967296 :: x / 4294967296 :: prs l
theorem prs_len : ∀ l, (prs l).length = 2 * l.length
  | [] => rfl
  | x :: l => by simp only [prs, List.length_cons, prs_len l]; omega
theorem prs_snoc : ∀ (l : List Nat) (x : Nat), prs (l ++ [x]) = prs l ++ [x % 4294967296, x / 4294967296]
  | [], x => rfl
  | y :: l, x => by simp only [List.cons_append, prs, prs_snoc l x]
theorem prs_val : ∀ l, val (prs l) = tv l
  | [] => rfl
  | x :: l => by simp only [prs, val, tv, prs_val l]; omega
theorem prs_W : ∀ {l : List Nat}, W64 l → W (prs l)
  | [], _ => fun y hy => by cases hy
  | x :: l, h => by
    have hx := h x (List.mem_cons_self ..)
    exact W_cons.2 ⟨Nat.mod_lt _ (by decide), W_cons.2 ⟨by omega, prs_W fun y hy => h y (List.mem_cons_of_mem _ hy)⟩⟩
theorem prs_step {C : List Nat} {i : Nat} (h : i < C.length) (hW : W64 C) : prs (C.take i) ++ [C.getD i 0 % 4294967296, C.getD i 0 / 4294967296 % 4294967296] = prs (C.take (i + 1)) := by
  have hx := hW.getD i
  rw [show C.take (i + 1) = C.take i ++ [C.getD i 0] by rw [List.take_add_one, List.getD_eq_getElem?_getD, List.getElem?_eq_getElem h]; rfl, prs_snoc, Nat.mod_eq_of_lt (a := C.getD i 0 / 4294967296) (by omega)]
theorem lt_of_some {l : List Value} {j : Nat} {v : Value} (h : l[j]? = some v) : j < l.length := (List.getElem?_eq_some_iff.1 h).1
theorem wd_len_gen {n k K : Nat} (h : n < 2 ^ k) (hk : k ≤ 32 * K) : (wd n).length ≤ K := wd_length_le.2 (Nat.lt_of_lt_of_le h (Nat.pow_le_pow_right (by decide) hk))
/-- What an accumulator's sum is, as a dyad. -/
def sumD (S : Int) : Dy := (formD (decide (S < 0)) S.natAbs (-2148)).getD Dy.zero
theorem sumD_eq {S : Int} (h1 : -((16384 * BB : Nat) : Int) < S) (h2 : S < (16384 * BB : Nat)) (neg : Bool) : formD neg S.natAbs (-2148) = some (if S = 0 then Dy.zero else ⟨neg, S.natAbs / 2 ^ tz S.natAbs, -2148 + tz S.natAbs⟩) := by
  by_cases h0 : S = 0
  · subst h0; rfl
  · have hn : S.natAbs ≠ 0 := by omega
    have hlt : S.natAbs < 2 ^ 4238 := by
      have : 16384 * BB = 2 ^ 4238 := by unfold BB; rw [show (18446744073709551616 : Nat) = 2 ^ 64 from rfl, ← Nat.pow_mul, show (16384 : Nat) = 2 ^ 14 from rfl, ← Nat.pow_add]
      rw [← this]; omega
    have hb := bl_le.2 hlt
    have ht := tz_lt_bl hn
    rw [if_neg h0, formD_some hn]
    have h3 : (wd (S.natAbs / 2 ^ tz S.natAbs)).length ≤ 8192 := wd_len_gen (Nat.lt_of_le_of_lt (Nat.div_le_self _ _) hlt) (by omega)
    omega
theorem prs_step' {C : List Nat} {i : Nat} (h : i < C.length) (hW : W64 C) : prs (C.take i) ++ [C.getD i 0 % 4294967296, C.getD i 0 / 2 ^ 32 % 4294967296] = prs (C.take (i + 1)) := prs_step h hW
structure KEx (C : List Nat) (b2 : Nat) (w0 : World) (g : Nat × Value) (w : World) : Prop where
  i : g.1 ≤ 67
  gr : GR w 219 u32v w0.heap.size [b2] g.2 (prs (C.take g.1))
  h2 : BK w b2 108 [.bool false, .slice none 0 0, .int .i64 0]
  ge : w0.heap.size ≤ b2
  ch : Chg [] w0 w
theorem rep_abs {L C : List Nat} {S : Int} (hr : Rep L S) (h1 : -((16384 * BB : Nat) : Int) < S) (h2 : S < (16384 * BB : Nat)) (hC : tv C = (if 9223372036854775808 ≤ L.getD 66 0 then (MM - tv L) % MM else tv L)) :
    decide (9223372036854775808 ≤ L.getD 66 0) = decide (S < 0) ∧ tv C = S.natAbs := by
  have hM := MM_eq
  by_cases h0 : S < 0
  · obtain ⟨a, _, c⟩ := hr.neg h0 h1
    rw [if_pos (by omega)] at hC
    refine ⟨decide_eq_decide.2 (by omega), ?_⟩
    rw [hC, Nat.mod_eq_of_lt (by omega)]
    omega
  · obtain ⟨a, c⟩ := hr.pos (by omega) h2
    rw [if_neg (by omega)] at hC
    refine ⟨decide_eq_decide.2 (by omega), ?_⟩
    rw [hC]; omega

theorem Exact_spec {R : List Value} (b : Nat) (L : List Nat) (S : Int) (w : World) (hB : TB w b 230 L R) (hr : Rep L S) (hg : GW w) (h1 : -((16384 * BB : Nat) : Int) < S) (h2 : S < (16384 * BB : Nat)) : Ret Tryz.prog 114 [.pointer (some ⟨b, 0, none⟩)] w fun u w' => DY w' u (sumD S) ∧ Chg [] w w' := by
 have hch : Chg [] w w := Chg.refl _ _;have hLL := hr.len;have hB0 := hB;have hg0 := hg;refine zE1 Tryz.func114 rfl ?_;refine Sr fun _ kh1 => ?_;refine zAh rfl rfl hch fun b2 wm2 hb2 hcm2 hge2 hgehch2 hch => ?_;have hneb2 : b ≠ b2 := by have := hB.lt; omega
 have hB := hB.keep0 hcm2;refine zz (kh1 (Sr fun _ kh3 => zm rfl ?_));refine WL.ev (Ev.nilPtr rfl) rfl ?_;refine zf rfl ?_;refine WL.ev (Ev.loadAgg (cs := L.map u64v) rfl (by simp [hLL]) rfl (fun j v hv => by rw [add_addr, Nat.zero_add]; exact BK.at_ hB (by rw [List.getElem?_append_left (lt_of_some hv)]; exact hv))) rfl ?_;refine WL.call hasF196 rfl rfl (size_spec L _ hLL hr.w) fun v w1 h' => ?_;obtain ⟨C, rfl, hCl, hCw, hCv, hC13⟩ := h';have hch := hch.ta hC13;have hB := hB.keep0 hC13;have hb2 := hb2.k0 hC13;refine WL.allocB (l := (List.replicate 67 0).map u64v) rfl rfl fun b3 wm3 hb3 hcm3 hge3 => ?_;have hne3 : b ≠ b3 := by have := hB.lt; omega
 have hne23 := zdd hb2.lt hge3;have hw3 := hch.size;have hch := hch.trans hcm3;have hb2 := hb2.k0 hcm3;have hB := hB.keep0 hcm3;refine WL.storeB (l' := C.map u64v) rfl rfl (by simp [hCl]) (by intro v hv; obtain ⟨x, _, rfl⟩ := List.mem_map.1 hv; rfl) hb3 (by simp [hCl]) (splice_all (C.map u64v) [] ((List.replicate 67 0).map u64v) (by simp [hCl])) fun ws3 hb3 hcs3 => ?_;have hch := hch.step hcs3 (fun y hy => by simp only [List.mem_singleton] at hy; subst hy; exact .inr (by omega));have hb2 := hb2.kq hcs3;have hB := hB.kq hcs3;refine zz (kh3 (Sr fun _ kh5 => za rfl (zz (kh5 (zc fun _ kh7 => Sr fun _ kh8 => ?_)))));refine WL.ev (Ev.loadA rfl rfl hb3 (by simp [hCl])) rfl ?_;refine zm rfl (zz (kh8 ?_));refine CW.block ?_;refine CW.loop (S := fun g : Nat × Value => [(0, .pointer (some ⟨b, 0, none⟩)), (2, .pointer (some ⟨b2, 0, none⟩)), (4, g.2), (14, .agg (C.map u64v).toArray), (15, .int .i64 (g.1 : Int))]) (Inv := KEx C b2 w) (mu := fun g => 67 - g.1) ((0, .slice none 0 0)) ?_ ?_ ?_
 ·exact ⟨by omega, GR.nil, hb2, hge2, hch⟩
 ·exact SLp
 ·rintro ⟨i, vo⟩ wr ⟨hi, hgr, hb2, hge2, hch⟩;dsimp only at hi hgr hb2 hge2 hch;dsimp only;have hx := hCw.getD i;have hpl := prs_len (C.take i);rw [List.length_take] at hpl;have hws := hch.size;refine Sr fun _ kh10 => ?_;refine WL.ev (Ev.lss rfl rfl) rfl ?_;refine zz (kh10 (zc fun _ kh12 => ?_));refine zy rfl ?_ ?_<;>intro hc1<;>try simp only [qs] at hc1
  ·refine zkk ?_
   refine kh12 (zc fun _ kh13 => ?_);refine CW.block ?_;refine Sr fun _ kh14 => ?_;refine WL.ev (Ev.indexAr (i := i) (v := u64v (C.getD i 0)) rfl rfl (by omega) rfl (map_at u64v 0 (by omega))) rfl ?_;refine za rfl (zz (kh14 ?_));refine zR fun _ kr16 => ?_;refine zm rfl (zm rfl ?_);refine WL.ev (Ev.conv32 rfl rfl) rfl ?_;refine zm rfl ?_;refine WL.ev (Ev.shrU (b := 32) rfl rfl (by simp only [IntKind.bits]; omega)) rfl ?_;refine WL.ev (Ev.conv32 rfl rfl) rfl ?_;refine WL.buildSlice (m := 2) (cs := [u32v (((C.getD i 0) % 4294967296)), u32v ((((C.getD i 0) / 2 ^ 32) % 4294967296))]) (by decide) (by decide) rfl (by kernel_rfl) rfl fun b24 w24 hn24 => ?_;have hcm24 := hn24.chg;have hge24 := hn24.ge;have hb24 : OB w24 b24 _ [((C.getD i 0) % 4294967296), (((C.getD i 0) / 2 ^ 32) % 4294967296)] := hn24.at_;have hgehch24 := Nat.le_trans hch.size hge24;have hch := hch.ta hcm24;have hneb224 := zdd hb2.lt hge24;have hb2 := hb2.k0 hcm24;have hgr := hgr.keep0 hcm24;refine WL.growR (f := u32v) (lo := w.heap.size) (X := [b2]) (l := prs (C.take i)) (news := [((C.getD i 0) % 4294967296), (((C.getD i 0) / 2 ^ 32) % 4294967296)]) (by rfl) (fun i => rfl) rfl rfl hgr (by first | rfl | (simp; done) | (simp; omega) | omega) hb24.row (by first | omega | exact hch.size | exact Nat.le_refl _) (by intro y hy; simp only [List.mem_singleton] at hy; subst hy; exact hb2.lt) (by simp only [List.length_append, List.length_cons, List.length_nil]; omega) (by simp only [List.length_append, List.length_cons, List.length_nil]; omega) rfl fun v25 w25 hg25 hcg25 => ?_;have hch := GR.frame hgr hcg25 hch (by first | omega | exact Nat.le_refl _);have hb2 := hb2.keep hcg25 (hgr.notin (by first | exact .inl (by simp) | exact .inr (by omega)));have hgr := hg25;rw [show (prs (C.take i) ++ [((C.getD i 0) % 4294967296), (((C.getD i 0) / 2 ^ 32) % 4294967296)]) = prs (C.take (i + 1)) from by exact prs_step' (by omega) hCw] at hgr;refine za rfl ?_;refine WL.nil (kr16 _ _ _ (kh13 ?_));refine zR fun _ kr17 => ?_;(first | refine zi rfl rfl ?_ | refine zo rfl rfl ?_);refine zm rfl ?_;refine WL.nil (kr17 _ _ _ ?_);refine ⟨rfl, (i + 1, v25), ?_, ?_, ?_⟩
   ·exact SLp
   ·exact ⟨by omega, hgr, hb2, hge2, hch⟩
   ·show 67 - (i + 1) < 67 - i; omega
  ·have hi67 : i = 67 := by omega
   subst hi67;have hB := hB0.keep0 hch;have hg := hg0.keep0 hch;have hNU := hgr.nu (by rw [List.take_of_length_le (by omega)]; exact prs_W hCw) (by omega);rw [List.take_of_length_le (by omega)] at hNU;obtain ⟨ea, ec⟩ := rep_abs hr h1 h2 hCv;refine CW.exit ?_;refine kh7 (Sr fun _ kh18 => zm rfl ?_);refine WL.ev (Ev.nilPtr rfl) rfl ?_;refine zf rfl ?_;refine WL.call hasF197 rfl rfl (neg_spec b L _ hB hLL hr.w) fun v w2 h' => ?_;obtain ⟨rfl, rfl⟩ := h';rw [ea];refine zm rfl ?_;refine WL.call hasF71 rfl rfl (Make_spec (decide (S < 0)) vo (prs C) (-2148) _ hNU hg (by omega)) fun v w3 h' => ?_;obtain ⟨hDR, hC33⟩ := h';have hfe := sumD_eq h1 h2 (decide (S < 0));rw [prs_val, ec] at hDR;have hsD : formD (decide (S < 0)) S.natAbs (-2148) = some (sumD S) := by unfold sumD; rw [hfe]; rfl
   rcases hDR with ⟨r, dd, he33, rfl, hN33⟩ | ⟨he33, _⟩
   rotate_left
   · rw [hsD] at he33; cases he33
   rw [hsD] at he33;cases he33;have hch := hch.ta hC33;have hb2 := hb2.k0 hC33;refine zm rfl (zx rfl rfl (zx rfl rfl ?_));refine zAh rfl rfl hch fun b7 wm7 hb7 hcm7 hge7 hgehch7 hch => ?_;have hN33 := hN33.keep0 hcm7;have hneb27 := zdd hb2.lt hge7;have hb2 := hb2.k0 hcm7;refine zss rfl rfl ao hb7 rfl fun ws8 hb7_ hcs8 => ?_;(try simp only [Sx.splice, qt] at hb7_);have hch := hch.s1 hcs8;have hb2 := hb2.kq hcs8;have hN33 := hN33.keepBK hb7 hcs8 an;have hb7 := hb7_;refine za rfl (zz (kh18 (Sr fun _ kh20 => zg hb7 rfl ?_)));refine zss rfl rfl ao hb2 rfl fun ws9 hb2_ hcs9 => ?_;(try simp only [Sx.splice, qt] at hb2_);have hch := hch.s1 hcs9;have hN33 := hN33.keepBK hb2 hcs9 an;have hb2 := hb2_;refine zz (kh20 ?_);refine zr (bodyA.retR1 rfl (RVal.cell rfl (hb2.varA rfl rfl)) ?_);exact ⟨⟨_, rfl, hN33⟩, hch⟩

end

/- Package root: about, digits. No condition. -/
section
open Go Sx Wd
set_option exponentiation.threshold 5000

theorem wd_len_lift {q y k : Nat} (h : (wd q).length ≤ k) (hy : y ≤ 32 * k) : (wd (2 * (q * 2 ^ y))).length ≤ 2 * k + 1 := by
  rw [wd_length_le] at h ⊢
  have h1 : q * 2 ^ y < 2 ^ (32 * k) * 2 ^ (32 * k) := Nat.lt_of_lt_of_le (Nat.mul_lt_mul_of_pos_right h (Nat.two_pow_pos _)) (Nat.mul_le_mul_left _ (Nat.pow_le_pow_right (by decide) hy))
  rw [← Nat.pow_add] at h1
  have h2 : 2 * 2 ^ (32 * k + 32 * k) ≤ 2 ^ (32 * (2 * k + 1)) := by
    rw [← Nat.pow_succ']; exact Nat.pow_le_pow_right (by decide) (by omega)
  omega
theorem wd_len_small {n k : Nat} (h : n < 2 ^ k) (hk : k ≤ 262144) : (wd n).length ≤ 8192 := wd_len_gen h (by omega)
theorem bl_len {n k : Nat} (h : (wd n).length ≤ k) : bl n ≤ 32 * k := bl_le.2 (wd_length_le.1 h)
theorem bl_small {n k : Nat} (h : n < 2 ^ k) : bl n ≤ k := bl_le.2 h
/-- What about tells: size and a sticky bit. -/
def aboutM (m : Nat) (cut : Bool) : Nat := 2 * m + if cut then 1 else 0
def aboutE (e : Int) : Int := max (-3000) (min 3000 (e - 1))
theorem aboutM_lt {m : Nat} {cut : Bool} (h : m < 2 ^ 82) : aboutM m cut < 2 ^ 84 := by unfold aboutM; cases cut <;> simp <;> omega
theorem about_form {neg : Bool} {m : Nat} {cut : Bool} {e : Int} (h : m < 2 ^ 82) : ∃ d, formD neg (aboutM m cut) (aboutE e) = some d := by
  have h2 := aboutM_lt (cut := cut) h
  by_cases h0 : aboutM m cut = 0
  · rw [h0]; exact ⟨_, rfl⟩
  · have ht := tz_lt_bl h0
    have hb := bl_small h2
    have h3 := wd_len_small (Nat.lt_of_le_of_lt (Nat.div_le_self _ (2 ^ tz (aboutM m cut))) h2) (by decide)
    refine ⟨_, formD_some h0 ?_⟩
    unfold aboutE
    omega
def aboutD (neg : Bool) (m : Nat) (cut : Bool) (e : Int) : Dy := (formD neg (aboutM m cut) (aboutE e)).getD Dy.zero

theorem about_spec (neg : Bool) (v : Value) (m : Nat) (cut : Bool) (e : Int) (w : World) (h : NU w v (wd m)) (hg : GW w) (hm : m < 2 ^ 82) (he : -1099511627776 ≤ e ∧ e ≤ 1099511627776) : Ret Tryz.prog 323 [.bool neg, v, .bool cut, .int .i64 e] w fun u w' => DY w' u (aboutD neg m cut e) ∧ Chg [] w w' := by
 have hch : Chg [] w w := Chg.refl _ _;have hb82 := bl_small hm;have hl82 := wd_len_small hm (by decide);obtain ⟨dd, hdd⟩ := about_form (neg := neg) (cut := cut) (e := e) hm;have hM84 := aboutM_lt (cut := cut) hm;have hg0 := hg;refine zE4 Tryz.func323 rfl ?_;refine Sr fun _ kh1 => ?_;refine zAh rfl rfl hch fun b8 wm8 hb8 hcm8 hge8 hgehch8 hch => ?_;have h := h.keep0 hcm8;refine zz (kh1 (Sr fun _ kh3 => zm rfl ?_));refine WL.call hasF147 rfl rfl (Shift_spec _ _ 1 _ h (by omega)) fun v w1 h' => ?_;obtain ⟨h', hC13⟩ := h';rw [val_wd, show shiftN m 1 = m * 2 ^ 1 from shiftN_pos m 1] at h';obtain ⟨_, r13, rfl, hN13⟩ := h'.resolve_right (fun q => q.1 ⟨hl82, .inr (by omega)⟩);have hch := hch.ta hC13;have hb8 := hb8.k0 hC13;refine zm rfl (zx rfl rfl (zx rfl rfl (za rfl (zz (kh3 (zc fun _ kh5 => Sr fun _ kh6 => zm rfl (zz (kh6 ?_))))))));refine zy rfl ?_ ?_<;>intro hc1<;>try simp only [qs] at hc1
 ·have hcT : cut = true := hc1
  refine zR fun _ kr8 => ?_;refine zm rfl ?_;refine WL.call hasF145 rfl rfl (Of_spec 1 _ (by decide)) fun v w2 h' => ?_;obtain ⟨hN19, hC19⟩ := h';have hch := hch.ta hC19;have hb8 := hb8.k0 hC19;have hN13 := hN13.keep0 hC19;refine WL.call hasF341 rfl rfl (Add_spec _ _ _ _ _ hN13 hN19) fun v w3 h' => ?_;obtain ⟨h', hC20⟩ := h';rw [val_wd, val_wd, show m * 2 ^ 1 + 1 = aboutM m cut by unfold aboutM; rw [hcT, if_pos rfl]; omega] at h';obtain ⟨_, _, _, r20, rfl, hN20⟩ := h'.resolve_right (fun q => q.1 ⟨wd_len_small (k := 84) (by omega) (by decide), wd_len_small (k := 84) (by decide) (by decide), wd_len_small hM84 (by decide)⟩);have hch := hch.ta hC20;have hb8 := hb8.k0 hC20;refine zm rfl (zx rfl rfl (zx rfl rfl (za rfl ?_)));refine WL.nil (kr8 _ _ _ (kh5 ?_));refine Sr fun _ kh9 => zm rfl (zm rfl (zm rfl ?_));refine WL.ev (Ev.subIn rfl rfl (by omega)) rfl ?_;refine WL.ev (Ev.minI rfl rfl) rfl ?_;refine WL.ev (Ev.maxI rfl rfl) rfl ?_;rw [show max (-3000) (min 3000 (e - 1)) = aboutE e from rfl];have haE : -3000 ≤ aboutE e ∧ aboutE e ≤ 3000 := by unfold aboutE; omega
  refine WL.call hasF71 rfl rfl (Make_spec neg _ (wd (aboutM m cut)) (aboutE e) _ hN20 (hg0.keep0 hch) (by omega)) fun v w4 h' => ?_;obtain ⟨hDR, hC30⟩ := h';rw [val_wd] at hDR;have hsD : formD neg (aboutM m cut) (aboutE e) = some (aboutD neg m cut e) := by unfold aboutD; rw [hdd]; rfl
  rcases hDR with ⟨r, d2, he30, rfl, hN33⟩ | ⟨he30, _⟩
  rotate_left
  · rw [hsD] at he30; cases he30
  rw [hsD] at he30;cases he30;have hch := hch.ta hC30;have hb8 := hb8.k0 hC30;refine zm rfl (zx rfl rfl (zx rfl rfl ?_));refine zAh rfl rfl hch fun b9 wm9 hb9 hcm9 hge9 hgehch9 hch => ?_;have hN33 := hN33.keep0 hcm9;have hneb89 := zdd hb8.lt hge9;have hb8 := hb8.k0 hcm9;refine zss rfl rfl ao hb9 rfl fun ws1 hb9_ hcs1 => ?_;(try simp only [Sx.splice, qt] at hb9_);have hch := hch.s1 hcs1;have hb8 := hb8.kq hcs1;have hN33 := hN33.keepBK hb9 hcs1 an;have hb9 := hb9_;refine za rfl (zz (kh9 (Sr fun _ kh11 => zg hb9 rfl ?_)));refine zss rfl rfl ao hb8 rfl fun ws2 hb8_ hcs2 => ?_;(try simp only [Sx.splice, qt] at hb8_);have hch := hch.s1 hcs2;have hN33 := hN33.keepBK hb8 hcs2 an;have hb8 := hb8_;refine zz (kh11 ?_);refine zr (bodyA.retR1 rfl (RVal.cell rfl (hb8.varA rfl rfl)) ?_);exact ⟨⟨_, rfl, hN33⟩, hch⟩
 ·have hcF : cut = false := hc1
  have hN20 := hN13;rw [show m * 2 ^ 1 = aboutM m cut by unfold aboutM; rw [hcF]; simp; omega] at hN20;refine zkk ?_;refine kh5 (Sr fun _ kh13 => zm rfl (zm rfl (zm rfl ?_)));refine WL.ev (Ev.subIn rfl rfl (by omega)) rfl ?_;refine WL.ev (Ev.minI rfl rfl) rfl ?_;refine WL.ev (Ev.maxI rfl rfl) rfl ?_;rw [show max (-3000) (min 3000 (e - 1)) = aboutE e from rfl];have haE : -3000 ≤ aboutE e ∧ aboutE e ≤ 3000 := by unfold aboutE; omega
  refine WL.call hasF71 rfl rfl (Make_spec neg _ (wd (aboutM m cut)) (aboutE e) _ hN20 (hg0.keep0 hch) (by omega)) fun v w5 h' => ?_;obtain ⟨hDR, hC30⟩ := h';rw [val_wd] at hDR;have hsD : formD neg (aboutM m cut) (aboutE e) = some (aboutD neg m cut e) := by unfold aboutD; rw [hdd]; rfl
  rcases hDR with ⟨r, d2, he30, rfl, hN33⟩ | ⟨he30, _⟩
  rotate_left
  · rw [hsD] at he30; cases he30
  rw [hsD] at he30;cases he30;have hch := hch.ta hC30;have hb8 := hb8.k0 hC30;refine zm rfl (zx rfl rfl (zx rfl rfl ?_));refine zAh rfl rfl hch fun b9 wm9 hb9 hcm9 hge9 hgehch9 hch => ?_;have hN33 := hN33.keep0 hcm9;have hneb89 := zdd hb8.lt hge9;have hb8 := hb8.k0 hcm9;refine zss rfl rfl ao hb9 rfl fun ws3 hb9_ hcs3 => ?_;(try simp only [Sx.splice, qt] at hb9_);have hch := hch.s1 hcs3;have hb8 := hb8.kq hcs3;have hN33 := hN33.keepBK hb9 hcs3 an;have hb9 := hb9_;refine za rfl (zz (kh13 (Sr fun _ kh15 => zg hb9 rfl ?_)));refine zss rfl rfl ao hb8 rfl fun ws4 hb8_ hcs4 => ?_;(try simp only [Sx.splice, qt] at hb8_);have hch := hch.s1 hcs4;have hN33 := hN33.keepBK hb8 hcs4 an;have hb8 := hb8_;refine zz (kh15 ?_);refine zr (bodyA.retR1 rfl (RVal.cell rfl (hb8.varA rfl rfl)) ?_);exact ⟨⟨_, rfl, hN33⟩, hch⟩

structure KDg (A0 B : Nat) (w0 : World) (vb : Value) (g : Nat × Nat × Nat × Value × Value) (w : World) : Prop where
  m : DigI A0 B g.1 g.2.1 g.2.2.1
  i : g.1 ≤ 82
  hs : NU w g.2.2.2.1 (wd g.2.1)
  ha : NU w g.2.2.2.2 (wd g.2.2.1)
  hb : NU w vb (wd B)
  ch : Chg [] w0 w
theorem dig_small {A0 B i size a : Nat} (h : DigI A0 B i size a) (h2 : A0 < 2 * B) : a ≤ 2 * B := by
  by_cases h0 : i = 0
  · have := (h.z h0).2; omega
  · have := (h.s (by omega)).2; omega

theorem digits_spec (vm vq : Value) (m q : Nat) (w : World) (hm : NU w vm (wd m)) (hq : NU w vq (wd q)) (hml : (wd m).length ≤ 8192) (hql : (wd q).length ≤ 8192) (hq0 : q ≠ 0) : Ret Tryz.prog 321 [vm, vq, .int .i64 82] w fun u w' => (∃ vs size a, u = .tuple [vs, .bool (decide (a ≠ 0)), .int .i64 ((bl m : Int) - (bl q : Int) - 81)].toArray ∧ NU w' vs (wd size) ∧ DigI (m * 2 ^ (max 0 (-((bl m : Int) - (bl q : Int)))).toNat) (q * 2 ^ (max 0 ((bl m : Int) - (bl q : Int))).toNat) 82 size a) ∧ Chg [] w w' := by
 have hch : Chg [] w w := Chg.refl _ _;have hbm := bl_len hml;have hbq := bl_len hql;obtain ⟨x, hx⟩ : ∃ x, x = (max 0 (-((bl m : Int) - (bl q : Int)))).toNat := ⟨_, rfl⟩;obtain ⟨y, hy⟩ : ∃ y, y = (max 0 ((bl m : Int) - (bl q : Int))).toNat := ⟨_, rfl⟩;have hA2 : m * 2 ^ x < 2 * (q * 2 ^ y) := by
  by_cases h0 : m = 0
  · rw [h0, Nat.zero_mul]; have := Nat.mul_pos (show 0 < q by omega) (Nat.two_pow_pos y); omega
  · rw [hx, hy]; exact (digits_low h0 hq0 rfl).1
 rw [← hx, ← hy];have hBl := wd_len_lift hql (y := y) (by omega);obtain ⟨A0, hA0⟩ : ∃ A0, A0 = m * 2 ^ x := ⟨_, rfl⟩;obtain ⟨B, hB⟩ : ∃ B, B = q * 2 ^ y := ⟨_, rfl⟩;rw [← hA0] at hA2 ⊢;rw [← hB] at hA2 hBl ⊢;refine zE3 Tryz.func321 rfl ?_;refine Sr fun _ kh1 => za rfl (za rfl (za rfl (zz (kh1 (Sr fun _ kh3 => zm rfl ?_)))));refine WL.call hasF185 rfl rfl (Len_spec _ _ _ hm) fun v w1 h' => ?_;obtain ⟨rfl, rfl⟩ := h';rw [val_wd];refine zm rfl ?_;refine WL.call hasF185 rfl rfl (Len_spec _ _ _ hq) fun v w2 h' => ?_;obtain ⟨rfl, rfl⟩ := h';rw [val_wd];refine WL.ev (Ev.subIn rfl rfl (by omega)) rfl ?_;refine za rfl (zz (kh3 (Sr fun _ kh5 => zm rfl (zm rfl ?_))));refine WL.ev (Ev.negIn rfl (by omega)) rfl ?_;refine WL.ev (Ev.maxI rfl rfl) rfl ?_;rw [show max 0 (-((bl m : Int) - (bl q : Int))) = ((x : Nat) : Int) by omega];refine WL.call hasF338 rfl rfl (lifted_spec _ _ x _ hm (by omega) (by omega)) fun v_22 w3 h' => ?_;obtain ⟨ha, hC22⟩ := h';rw [val_wd, ← hA0] at ha;have hch := hch.ta hC22;have hq := hq.keep0 hC22;refine zm rfl (zm rfl ?_);refine WL.ev (Ev.maxI rfl rfl) rfl ?_;rw [show max 0 ((bl m : Int) - (bl q : Int)) = ((y : Nat) : Int) by omega];refine WL.call hasF338 rfl rfl (lifted_spec _ _ y _ hq (by omega) (by omega)) fun v_26 w4 h' => ?_;obtain ⟨hb, hC26⟩ := h';rw [val_wd, ← hB] at hb;have hch := hch.ta hC26;have ha := ha.keep0 hC26;refine za rfl (za rfl (zz (kh5 (zc fun _ kh7 => Sr fun _ kh8 => zm rfl (zm rfl (zz (kh8 ?_)))))));refine CW.block ?_;refine CW.loop (S := fun g : Nat × Nat × Nat × Value × Value => [(2, .int .i64 82), (6, g.2.2.2.1), (9, .int .i64 ((bl m : Int) - (bl q : Int))), (10, g.2.2.2.2), (11, v_26), (27, .int .i64 82), (28, .int .i64 (g.1 : Int))]) (Inv := KDg A0 B w v_26) (mu := fun g => 82 - g.1) ((0, 0, A0, .slice none 0 0, v_22)) ?_ ?_ ?_
 ·exact ⟨DigI.zero _ _, Nat.zero_le _, by rw [wd_zero]; exact NU.nil, ha, hb, hch⟩
 ·exact SLp
 ·rintro ⟨i, size, a, vs, va⟩ wr ⟨hM, hi82, hs, ha, hb, hch⟩;dsimp only at hM hi82 hs ha hb hch;dsimp only;have hal := wd_length_mono (dig_small hM hA2);refine Sr fun _ kh10 => ?_;refine WL.ev (Ev.lss rfl rfl) rfl ?_;refine zz (kh10 (zc fun _ kh12 => ?_));refine zy rfl ?_ ?_<;>intro hc1<;>try simp only [qs] at hc1
  ·have hsz := hM.w
   have hp82 : 2 ^ i ≤ 2 ^ 82 := Nat.pow_le_pow_right (by decide) (by omega);have hs82 : size < 2 ^ 82 := by omega
   have hb82 := bl_small hs82;have hl82 := wd_len_small hs82 (by decide);refine zkk ?_;refine kh12 (zc fun _ kh13 => ?_);refine CW.block ?_;refine Sr fun _ kh14 => zm rfl (za rfl (zz (kh14 (zc fun _ kh16 => Sr fun _ kh17 => zm rfl ?_))));refine WL.ev (Ev.gtr rfl rfl) rfl ?_;refine zz (kh17 ?_);refine zy rfl ?_ ?_<;>intro hc2<;>try simp only [qs] at hc2
   ·have hi0 : 0 < i := by omega
    refine zR fun _ kr19 => ?_;refine zm rfl ?_;refine WL.call hasF338 rfl rfl (lifted_spec _ _ 1 _ ha (by decide) (by omega)) fun v34 w5 h' => ?_;obtain ⟨ha2, hC34⟩ := h';rw [val_wd] at ha2;have hch := hch.ta hC34;have hs := hs.keep0 hC34;have hb := hb.keep0 hC34;refine za rfl ?_;refine WL.nil (kr19 _ _ _ (kh16 ?_));refine Sr fun _ kh20 => zm rfl ?_;refine WL.call hasF147 rfl rfl (Shift_spec _ _ 1 _ hs (by omega)) fun v w6 h' => ?_;obtain ⟨h', hC37⟩ := h';rw [val_wd, show shiftN size 1 = size * 2 ^ 1 from shiftN_pos size 1] at h';obtain ⟨_, r37, rfl, hN37⟩ := h'.resolve_right (fun q => q.1 ⟨hl82, .inr (by omega)⟩);have hch := hch.ta hC37;have ha2 := ha2.keep0 hC37;have hb := hb.keep0 hC37;refine zm rfl (zx rfl rfl (zx rfl rfl (za rfl (zz (kh20 (Sr fun _ kh22 => zm rfl (zm rfl ?_)))))));refine WL.call hasF339 rfl rfl (compared_spec _ _ (a * 2 ^ 1) B _ ha2 hb) fun v w7 h' => ?_;obtain ⟨rfl, hC42⟩ := h';have hch := hch.ta hC42;have ha2 := ha2.keep0 hC42;have hb := hb.keep0 hC42;have hN37 := hN37.keep0 hC42;refine WL.ev (Ev.geq rfl rfl) rfl ?_;refine zz (kh22 ?_);refine zy rfl ?_ ?_<;>intro hc3<;>try simp only [qs] at hc3
    ·have hge : B ≤ a * 2 ^ 1 := Nat.le_of_not_lt fun hlt => by unfold sgn at hc3; rw [if_pos hlt] at hc3; omega
     have hst := hM.step (a' := a * 2 ^ 1) hA2 (by rw [if_pos hi0]);refine Sr fun _ kh24 => zm rfl (zm rfl ?_);refine WL.call hasF340 rfl rfl (rless_spec _ _ _ _ _ ha2 hb (by rw [val_wd, val_wd]; exact hge)) fun v46 w8 h' => ?_;obtain ⟨hN46, hC46⟩ := h';rw [val_wd, val_wd] at hN46;have hch := hch.ta hC46;have hb := hb.keep0 hC46;have hN37 := hN37.keep0 hC46;refine za rfl (zz (kh24 ?_));refine zR fun _ kr26 => ?_;refine zm rfl ?_;refine WL.call hasF145 rfl rfl (Of_spec 1 _ (by decide)) fun v w9 h' => ?_;obtain ⟨hN49, hC49⟩ := h';have hch := hch.ta hC49;have hN46 := hN46.keep0 hC49;have hb := hb.keep0 hC49;have hN37 := hN37.keep0 hC49;refine WL.call hasF341 rfl rfl (Add_spec _ _ _ _ _ hN37 hN49) fun v w10 h' => ?_;obtain ⟨h', hC50⟩ := h';rw [val_wd, val_wd] at h';obtain ⟨_, _, _, r50, rfl, hN50⟩ := h'.resolve_right (fun q => q.1 ⟨wd_len_small (k := 84) (by omega) (by decide), wd_len_small (k := 84) (by decide) (by decide), wd_len_small (k := 84) (by omega) (by decide)⟩);have hch := hch.ta hC50;have hN46 := hN46.keep0 hC50;have hb := hb.keep0 hC50;refine zm rfl (zx rfl rfl (zx rfl rfl (za rfl ?_)));refine WL.nil (kr26 _ _ _ (kh13 ?_));refine zR fun _ kr27 => ?_;(first | refine zi rfl rfl ?_ | refine zo rfl rfl ?_);refine zm rfl ?_;refine WL.nil (kr27 _ _ _ ?_);refine ⟨rfl, (i + 1, size * 2 ^ 1 + 1, a * 2 ^ 1 - B, r50, v46), ?_, ?_, ?_⟩
     ·exact SLp
     ·exact ⟨hst.1 hge, by show i + 1 ≤ 82; omega, hN50, hN46, hb, hch⟩
     ·show 82 - (i + 1) < 82 - i; omega
    ·have hlt : a * 2 ^ 1 < B := Nat.lt_of_not_le fun hle => by unfold sgn at hc3; rw [if_neg (by omega)] at hc3; split at hc3 <;> omega
     have hst := hM.step (a' := a * 2 ^ 1) hA2 (by rw [if_pos hi0]);refine zkk ?_;refine kh13 ?_;refine zR fun _ kr28 => ?_;(first | refine zi rfl rfl ?_ | refine zo rfl rfl ?_);refine zm rfl ?_;refine WL.nil (kr28 _ _ _ ?_);refine ⟨rfl, (i + 1, size * 2 ^ 1, a * 2 ^ 1, r37, v34), ?_, ?_, ?_⟩
     ·exact SLp
     ·exact ⟨hst.2 hlt, by show i + 1 ≤ 82; omega, hN37, ha2, hb, hch⟩
     ·show 82 - (i + 1) < 82 - i; omega
   ·have hi0 : i = 0 := by omega
    refine zkk ?_;refine kh16 (Sr fun _ kh29 => zm rfl ?_);refine WL.call hasF147 rfl rfl (Shift_spec _ _ 1 _ hs (by omega)) fun v w11 h' => ?_;obtain ⟨h', hC37⟩ := h';rw [val_wd, show shiftN size 1 = size * 2 ^ 1 from shiftN_pos size 1] at h';obtain ⟨_, r37, rfl, hN37⟩ := h'.resolve_right (fun q => q.1 ⟨hl82, .inr (by omega)⟩);have hch := hch.ta hC37;have ha := ha.keep0 hC37;have hb := hb.keep0 hC37;refine zm rfl (zx rfl rfl (zx rfl rfl (za rfl (zz (kh29 (Sr fun _ kh31 => zm rfl (zm rfl ?_)))))));refine WL.call hasF339 rfl rfl (compared_spec _ _ (a) B _ ha hb) fun v w12 h' => ?_;obtain ⟨rfl, hC42⟩ := h';have hch := hch.ta hC42;have ha := ha.keep0 hC42;have hb := hb.keep0 hC42;have hN37 := hN37.keep0 hC42;refine WL.ev (Ev.geq rfl rfl) rfl ?_;refine zz (kh31 ?_);refine zy rfl ?_ ?_<;>intro hc4<;>try simp only [qs] at hc4
    ·have hge : B ≤ a := Nat.le_of_not_lt fun hlt => by unfold sgn at hc4; rw [if_pos hlt] at hc4; omega
     have hst := hM.step (a' := a) hA2 (by rw [if_neg (by omega)]);refine Sr fun _ kh33 => zm rfl (zm rfl ?_);refine WL.call hasF340 rfl rfl (rless_spec _ _ _ _ _ ha hb (by rw [val_wd, val_wd]; exact hge)) fun v46 w13 h' => ?_;obtain ⟨hN46, hC46⟩ := h';rw [val_wd, val_wd] at hN46;have hch := hch.ta hC46;have hb := hb.keep0 hC46;have hN37 := hN37.keep0 hC46;refine za rfl (zz (kh33 ?_));refine zR fun _ kr35 => ?_;refine zm rfl ?_;refine WL.call hasF145 rfl rfl (Of_spec 1 _ (by decide)) fun v w14 h' => ?_;obtain ⟨hN49, hC49⟩ := h';have hch := hch.ta hC49;have hN46 := hN46.keep0 hC49;have hb := hb.keep0 hC49;have hN37 := hN37.keep0 hC49;refine WL.call hasF341 rfl rfl (Add_spec _ _ _ _ _ hN37 hN49) fun v w15 h' => ?_;obtain ⟨h', hC50⟩ := h';rw [val_wd, val_wd] at h';obtain ⟨_, _, _, r50, rfl, hN50⟩ := h'.resolve_right (fun q => q.1 ⟨wd_len_small (k := 84) (by omega) (by decide), wd_len_small (k := 84) (by decide) (by decide), wd_len_small (k := 84) (by omega) (by decide)⟩);have hch := hch.ta hC50;have hN46 := hN46.keep0 hC50;have hb := hb.keep0 hC50;refine zm rfl (zx rfl rfl (zx rfl rfl (za rfl ?_)));refine WL.nil (kr35 _ _ _ (kh13 ?_));refine zR fun _ kr36 => ?_;(first | refine zi rfl rfl ?_ | refine zo rfl rfl ?_);refine zm rfl ?_;refine WL.nil (kr36 _ _ _ ?_);refine ⟨rfl, (i + 1, size * 2 ^ 1 + 1, a - B, r50, v46), ?_, ?_, ?_⟩
     ·exact SLp
     ·exact ⟨hst.1 hge, by show i + 1 ≤ 82; omega, hN50, hN46, hb, hch⟩
     ·show 82 - (i + 1) < 82 - i; omega
    ·have hlt : a < B := Nat.lt_of_not_le fun hle => by unfold sgn at hc4; rw [if_neg (by omega)] at hc4; split at hc4 <;> omega
     have hst := hM.step (a' := a) hA2 (by rw [if_neg (by omega)]);refine zkk ?_;refine kh13 ?_;refine zR fun _ kr37 => ?_;(first | refine zi rfl rfl ?_ | refine zo rfl rfl ?_);refine zm rfl ?_;refine WL.nil (kr37 _ _ _ ?_);refine ⟨rfl, (i + 1, size * 2 ^ 1, a, r37, va), ?_, ?_, ?_⟩
     ·exact SLp
     ·exact ⟨hst.2 hlt, by show i + 1 ≤ 82; omega, hN37, ha, hb, hch⟩
     ·show 82 - (i + 1) < 82 - i; omega
  ·have hi82e : i = 82 := by omega
   subst hi82e;refine CW.exit ?_;refine kh7 (Sr fun _ kh38 => zm rfl (zm rfl ?_));obtain ⟨aa, ca, rfl, hcapa, hra⟩ := ha.ex;have hla := wd_length_pos (n := a);refine zn rfl ?_;refine WL.ev (Ev.gtr rfl rfl) rfl ?_;rw [show decide ((0 : Int) < (((wd a).length : Nat) : Int)) = decide (a ≠ 0) from decide_eq_decide.2 (by omega)];refine zm rfl (zm rfl ?_);refine WL.ev (Ev.subIn rfl rfl (by omega)) rfl ?_;refine WL.ev (Ev.subIn rfl rfl (by omega)) rfl ?_;refine za rfl (za rfl (za rfl (zz (kh38 ?_))));refine zr ?_;refine bodyA.ret3 rfl rfl rfl rfl ?_;exact ⟨⟨_, size, a, rfl, hs, hM⟩, hch⟩

end

/- Package root: quotient. No condition. -/
section
open Go Sx Wd
set_option exponentiation.threshold 5000

theorem quotient_spec (nn nd : Bool) (vn vd : Value) (m q : Nat) (en ed : Int) (w : World) (hm : NU w vn (wd m)) (hq : NU w vd (wd q)) (hml : (wd m).length ≤ 8192) (hql : (wd q).length ≤ 8192) (hq0 : q ≠ 0) (hen : -1048576 ≤ en ∧ en ≤ 1048576) (hed : -1048576 ≤ ed ∧ ed ≤ 1048576) (hg : GW w) : Ret Tryz.prog 282 [.agg [.bool nn, vn, .int .i64 en, .bool nd, vd, .int .i64 ed].toArray] w fun u w' => (∃ size a, DY w' u (aboutD nn size (decide (a ≠ 0)) (((bl m : Int) - (bl q : Int)) - 81 + en - ed)) ∧ DigI (m * 2 ^ (max 0 (-((bl m : Int) - (bl q : Int)))).toNat) (q * 2 ^ (max 0 ((bl m : Int) - (bl q : Int))).toNat) 82 size a) ∧ Chg [] w w' := by
 have hch : Chg [] w w := Chg.refl _ _;have hom := hm.one;have hoq := hq.one;have hbm := bl_len hml;have hbq := bl_len hql;have hg0 := hg;refine zE1 Tryz.func282 rfl ?_;refine Sr fun _ kh1 => ?_;refine zBh rfl rfl rfl hch fun b1 wm1 hb1 hcm1 hge1 hgehch1 hch => ?_;have hm := hm.keep0 hcm1;have hq := hq.keep0 hcm1;refine zAh rfl rfl hch fun b2 wm2 hb2 hcm2 hge2 hgehch2 hch => ?_;have hm := hm.keep0 hcm2;have hq := hq.keep0 hcm2;have hneb12 := zdd hb1.lt hge2;have hb1 := hb1.k0 hcm2;refine zz (kh1 (zc fun _ kh3 => ?_));refine CW.regionHC 16 rfl hmix fun kR4 kr4 hS hdr => ?_;have hch := hch.ta hdr;have hb1 := hb1.k0 hdr;have hb2 := hb2.k0 hdr;have hm := hm.keep0 hdr;have hq := hq.keep0 hdr;have hb1_r := hb1;refine wh 0 rfl hS (fun _ _ => Ev.fieldAddr rfl) (wh 1 rfl hS (fun _ _ => Ev.fieldAddr rfl) (wh 2 rfl hS (fun _ hw' => Ev.load rfl rfl ((hb1_r.keep0 hw').at_ rfl)) (wh 4 rfl hS (fun _ _ => Ev.fieldAddr rfl) (wh 5 rfl hS (fun _ _ => Ev.fieldAddr rfl) (wh 6 rfl hS (fun _ hw' => Ev.load rfl rfl ((hb1_r.keep0 hw').at_ rfl)) ?_)))));refine WH.oneCall 3 rfl (by kernel_rfl) hasF320 rfl rfl (trimmed_spec _ _ _ hm) fun v10 w1 h' => ?_;obtain ⟨hN10, rfl⟩ := h';rw [val_wd] at hN10;refine ⟨hS, ?_⟩;refine WH.oneCall 7 rfl (by kernel_rfl) hasF320 rfl rfl (trimmed_spec _ _ _ hq) fun v14 w2 h' => ?_;obtain ⟨hN14, rfl⟩ := h';rw [val_wd] at hN14;refine ⟨hS, ?_⟩;refine WH.oneCall 8 rfl (by kernel_rfl) hasF321 rfl rfl (digits_spec _ _ m q _ hN10 hN14 hml hql hq0) fun v w3 h' => ?_;obtain ⟨⟨vs, size, a, rfl, hNs, hDg⟩, hC15⟩ := h';have hch := hch.ta hC15;have hb1 := hb1.k0 hC15;have hb2 := hb2.k0 hC15;have hS := hS.trans hC15;refine ⟨hS, ?_⟩;refine wh 9 rfl hS (fun _ _ => Ev.move rfl) (wh 10 rfl hS (fun _ _ => Ev.extract rfl rfl) (wh 11 rfl hS (fun _ _ => Ev.extract rfl rfl) (wh 12 rfl hS (fun _ _ => Ev.extract rfl rfl) (wh 13 rfl hS (fun _ _ => Ev.assign rfl) (wh 14 rfl hS (fun _ _ => Ev.assign rfl) (wh 15 rfl hS (fun _ _ => Ev.assign rfl) ?_))))));refine WH.done (by kernel_rfl) (kr4 _ _ _ ?_);refine kh3 (Sr fun _ kh5 => zf rfl (zf rfl (zl hb1 rfl rfl (zm rfl (zm rfl (zm rfl (zf rfl (zf rfl (zl hb1 rfl rfl ?_)))))))));refine WL.ev (Ev.addIn rfl rfl (by omega)) rfl ?_;refine zf rfl (zf rfl (zl hb1 rfl rfl ?_));refine WL.ev (Ev.subIn rfl rfl (by omega)) rfl ?_;refine WL.call hasF323 rfl rfl (about_spec nn _ size (decide (a ≠ 0)) (((bl m : Int) - (bl q : Int)) - 81 + en - ed) _ hNs (hg0.keep0 hch) hDg.w (by omega)) fun v w4 h' => ?_;obtain ⟨⟨rr, rfl, hNr⟩, hC33⟩ := h';have hch := hch.ta hC33
 have hb2 := hb2.k0 hC33;refine zss rfl rfl ao hb2 rfl fun ws1 hb2_ hcs1 => ?_;(try simp only [Sx.splice, qt] at hb2_);have hch := hch.s1 hcs1;have hNr := hNr.keepBK hb2 hcs1 an;have hb2 := hb2_;refine zz (kh5 ?_);refine zr (bodyA.retR1 rfl (RVal.cell rfl (hb2.varA rfl rfl)) ?_);exact ⟨⟨size, a, ⟨rr, rfl, hNr⟩, hDg⟩, hch⟩

end

/- Package root: forms. No condition. -/
section
open Go Sx Wd
set_option exponentiation.threshold 5000

/-- Cells from an address on. -/
def RC (w : World) (ad : Addr) (l : List Value) : Prop := ∀ j v, l[j]? = some v → w.cell? (ad.add j) = some v
theorem RC.keep0 {w w' : World} {ad : Addr} {l : List Value} (h : RC w ad l) (hc : Chg [] w w') : RC w' ad l := fun j v hv => hc.cell (h j v hv) (by simp)
theorem RC.lt {w : World} {g : Nat} {l : List Value} (h : RC w ⟨g, 0, none⟩ l) (hl : 0 < l.length) : g < w.heap.size := by
  have h0 := h 0 _ (List.getElem?_eq_getElem hl)
  rw [add_addr] at h0
  apply Nat.lt_of_not_le
  intro hle
  have : w.heap[g]? = none := Array.getElem?_eq_none hle
  simp [World.cell?, this] at h0
theorem RC.keepBK {w w' : World} {g b : Nat} {T : TypeId} {l cs : List Value} (h : RC w ⟨g, 0, none⟩ l) (hb : BK w b T cs) (hc : Chg [b] w w') (_ : ∀ c ∈ cs, isU32 c = false) (hne : g ≠ b := by omega) : RC w' ⟨g, 0, none⟩ l := fun j v hv => hc.cell (h j v hv) (by rw [add_addr]; simpa using hne)
theorem RC.of_BK {w : World} {b : Nat} {T : TypeId} {l : List Value} (h : BK w b T l) : RC w ⟨b, 0, none⟩ l := fun j v hv => by rw [add_addr, Nat.zero_add]; exact h.at_ hv
def ratC (dx dy : Dy) (rx ry : Value) : List Value := [.bool dx.neg, rx, .int .i64 dx.e, .bool dy.neg, ry, .int .i64 dy.e]
/-- What forms answers for one ratio. -/
def FmR (w : World) (u : Value) (x y : Option Dy) (sg : Int) : Prop :=
  (sg < 0 ∧ u = .tuple [.slice none 0 0, .int .i64 1].toArray) ∨
  (0 ≤ sg ∧ (x = none ∨ y = none) ∧ u = .tuple [.slice none 0 0, .int .i64 2].toArray) ∨
  (0 ≤ sg ∧ ∃ dx dy, x = some dx ∧ y = some dy ∧ dy.m = 0 ∧ u = .tuple [.slice none 0 0, .int .i64 21].toArray) ∨
  (0 ≤ sg ∧ ∃ dx dy, x = some dx ∧ y = some dy ∧ dy.m ≠ 0 ∧ ∃ g c rx ry, u = .tuple [.slice (some ⟨g, 0, none⟩) 1 c, .int .i64 0].toArray ∧ RC w ⟨g, 0, none⟩ (ratC dx dy rx ry) ∧ NU w rx (wd dx.m) ∧ NU w ry (wd dy.m))
structure KF1 (sg : Int) (w0 : World) (i : Nat) (w : World) : Prop where
  hi : i ≤ 1
  s : i = 1 → 0 ≤ sg
  ch : Chg [] w0 w
structure KF2 (x y : Option Dy) (w0 : World) (g : Nat × Value) (w : World) : Prop where
  hi : g.1 ≤ 1
  z : g.1 = 0 → g.2 = .slice none 0 0
  o : g.1 = 1 → ∃ dx dy ad c rx ry, x = some dx ∧ y = some dy ∧ g.2 = .slice (some ⟨ad, 0, none⟩) 1 c ∧ RC w ⟨ad, 0, none⟩ (ratC dx dy rx ry) ∧ NU w rx (wd dx.m) ∧ NU w ry (wd dy.m)
  ch : Chg [] w0 w
structure KF3 (dx dy : Dy) (rx ry : Value) (ad : Nat) (w0 : World) (i : Nat) (w : World) : Prop where
  hi : i ≤ 1
  z : i = 1 → dy.m ≠ 0
  rc : RC w ⟨ad, 0, none⟩ (ratC dx dy rx ry)
  hx : NU w rx (wd dx.m)
  hy : NU w ry (wd dy.m)
  ch : Chg [] w0 w
theorem sgD_zero {neg : Bool} {n : Nat} : sgD neg n = 0 ↔ n = 0 := by
  unfold sgD
  by_cases h : n = 0
  · rw [if_pos h]; simp [h]
  · rw [if_neg h]; cases neg <;> simp [h]

theorem forms_spec (b : Nat) (nn nd : Bool) (vn vd : Value) (ln ld : List Nat) (en ed : Int) (w : World) (hB : BK w b 218 [.bool nn, vn, .int .i64 en, .bool nd, vd, .int .i64 ed]) (hn : NU w vn ln) (hd : NU w vd ld) (hg : GW w) (hen : -9223372036854775808 ≤ en ∧ en ≤ 9223372036854775807) (hed : -9223372036854775808 ≤ ed ∧ ed ≤ 9223372036854775807) : Ret Tryz.prog 280 [.slice (some ⟨b, 0, none⟩) 1 1] w fun u w' => FmR w' u (formD nn (val ln) en) (formD nd (val ld) ed) (sgD nd (val ld)) ∧ Chg [] w w' := by
 have hch : Chg [] w w := Chg.refl _ _;have hB0 := hB;have hn0 := hn;have hd0 := hd;have hon := hn.one;have hod := hd.one;have hg0 := hg;refine zE1 Tryz.func280 rfl ?_;refine Sr fun _ kh1 => za rfl (za rfl (zz (kh1 (zc fun _ kh3 => Sr fun _ kh4 => zm rfl (zn rfl (zm rfl (zz (kh4 ?_))))))));refine CW.block ?_;refine CW.loop (S := fun i : Nat => [(0, .slice (some ⟨b, 0, none⟩) 1 1), (15, .slice (some ⟨b, 0, none⟩) 1 1), (16, .int .i64 1), (17, .int .i64 (i : Int))]) (Inv := KF1 (sgD nd (val ld)) w) (mu := fun i => 1 - i) (0) ?_ ?_ ?_
 ·exact ⟨by decide, fun h => (by cases h), hch⟩
 ·exact SLp
 ·rintro i wr ⟨hi1, hs1, hch⟩;have hB := hB0.keep0 hch;have hn := hn0.keep0 hch;have hd := hd0.keep0 hch;refine Sr fun _ kh6 => ?_;refine WL.ev (Ev.lss rfl rfl) rfl ?_;refine zz (kh6 (zc fun _ kh8 => ?_));refine zy rfl ?_ ?_<;>intro hc1<;>try simp only [qs] at hc1
  ·have hi0 : i = 0 := by omega
   subst hi0;refine zkk ?_;refine kh8 (zc fun _ kh9 => ?_);refine CW.block ?_;refine Sr fun _ kh10 => ?_;refine WL.ev (Ev.indexAddr rfl rfl (by omega) (by omega)) rfl ?_;rw [show 0 + ((0 : Nat) : Int).toNat * 6 = 0 from rfl];refine zg hB rfl ?_;refine WL.allocB (l := [.bool false, .slice none 0 0, .int .i64 0, .bool false, .slice none 0 0, .int .i64 0]) rfl rfl fun b5 wm5 hb5 hcm5 hge5 => ?_;have hgehch5 := Nat.le_trans hch.size hge5;have hch := hch.ta hcm5;have hd := hd.keep0 hcm5;have hneb5 : b ≠ b5 := by have := hB.lt; omega
   refine zss rfl rfl ao hb5 rfl fun ws2 hb5_ hcs2 => ?_;(try simp only [Sx.splice, qt] at hb5_);have hch := hch.s1 hcs2;have hd := hd.keepBK hb5 hcs2 an;have hb5 := hb5_;refine zz (kh10 (Sr fun _ kh12 => zf rfl ?_));refine WL.ev (Ev.loadB rfl rfl hb5 rfl rfl) rfl ?_;simp only [List.drop_succ_cons, List.drop_zero, List.take_succ_cons, List.take_zero];refine WL.call hasF100 rfl rfl (Sign_dspec nd vd ld ed _ hd) fun v w1 h' => ?_;obtain ⟨rfl, hC23⟩ := h';have hch := hch.ta hC23;refine WL.ev (Ev.lss rfl rfl) rfl ?_;refine zz (kh12 ?_);refine zy rfl ?_ ?_<;>intro hc2<;>try simp only [qs] at hc2
   ·have hs2 : sgD nd (val ld) < 0 := hc2
    refine Sr fun _ kh14 => za rfl (za rfl (zz (kh14 ?_)));refine zr (zr2 rfl rfl rfl ?_);exact ⟨.inl ⟨hs2, rfl⟩, hch⟩
   ·have hs2 : 0 ≤ sgD nd (val ld) := by have := hc2; omega
    refine zkk ?_;refine kh9 ?_;refine zR fun _ kr16 => ?_;(first | refine zi rfl rfl ?_ | refine zo rfl rfl ?_);refine zm rfl ?_;refine WL.nil (kr16 _ _ _ ?_);refine ⟨rfl, 1, ?_, ?_, ?_⟩
    ·exact SLp
    ·exact ⟨by decide, fun _ => hs2, hch⟩
    ·decide
  ·have hi0 : i = 1 := by omega
   subst hi0;have hs1 := hs1 rfl;refine CW.exit ?_;refine kh3 (Sr fun _ kh17 => za rfl (zz (kh17 (zc fun _ kh19 => Sr fun _ kh20 => zm rfl (zn rfl (zm rfl (zz (kh20 ?_))))))));refine CW.block ?_;refine CW.loop (S := fun g : Nat × Value => [(0, .slice (some ⟨b, 0, none⟩) 1 1), (6, g.2), (26, .slice (some ⟨b, 0, none⟩) 1 1), (27, .int .i64 1), (28, .int .i64 (g.1 : Int))]) (Inv := KF2 (formD nn (val ln) en) (formD nd (val ld) ed) w) (mu := fun g => 1 - g.1) ((0, .slice none 0 0)) ?_ ?_ ?_
   ·exact ⟨by decide, fun _ => rfl, fun h => (by cases h), hch⟩
   ·exact SLp
   ·rintro ⟨i, vo⟩ wr ⟨hi1, hz, ho, hch⟩;dsimp only at hi1 hz ho hch;dsimp only;have hB := hB0.keep0 hch;have hn := hn0.keep0 hch;have hd := hd0.keep0 hch;refine Sr fun _ kh22 => ?_;refine WL.ev (Ev.lss rfl rfl) rfl ?_;refine zz (kh22 (zc fun _ kh24 => ?_));refine zy rfl ?_ ?_<;>intro hc3<;>try simp only [qs] at hc3
    ·have hi0 : i = 0 := by omega
     subst hi0;obtain rfl := hz rfl;refine zkk ?_;refine kh24 (zc fun _ kh25 => ?_);refine CW.block ?_;refine Sr fun _ kh26 => ?_;refine WL.ev (Ev.indexAddr rfl rfl (by omega) (by omega)) rfl ?_;rw [show 0 + ((0 : Nat) : Int).toNat * 6 = 0 from rfl];refine zg hB rfl ?_;refine WL.allocB (l := [.bool false, .slice none 0 0, .int .i64 0, .bool false, .slice none 0 0, .int .i64 0]) rfl rfl fun b8 wm8 hb8 hcm8 hge8 => ?_;have hgehch8 := Nat.le_trans hch.size hge8;have hch := hch.ta hcm8;have hn := hn.keep0 hcm8;have hd := hd.keep0 hcm8;have hneb8 : b ≠ b8 := by have := hB.lt; omega
     have hB := hB.keep0 hcm8;refine zss rfl rfl ao hb8 rfl fun ws3 hb8_ hcs3 => ?_;(try simp only [Sx.splice, qt] at hb8_);have hch := hch.s1 hcs3;have hB := hB.kq hcs3;have hn := hn.keepBK hb8 hcs3 an;have hd := hd.keepBK hb8 hcs3 an;have hb8 := hb8_;refine zz (kh26 (Sr fun _ kh28 => zf rfl (zf rfl (zl hb8 rfl rfl (zf rfl (zf rfl (zl hb8 rfl rfl (zf rfl (zf rfl (zl hb8 rfl rfl ?_))))))))));refine WL.call hasF71 rfl rfl (Make_spec nn vn ln en _ hn (hg0.keep0 hch) hen) fun v w2 h' => ?_;obtain ⟨hD42, hC42⟩ := h';have hch := hch.ta hC42;have hB := hB.keep0 hC42;have hb8 := hb8.k0 hC42;have hd := hd.keep0 hC42;rcases hD42 with ⟨rx, dx, he42, rfl, hNx⟩ | ⟨he42, rfl⟩
     ·refine zm rfl (zx rfl rfl (zx rfl rfl ?_));refine zAh rfl rfl hch fun b9 wm9 hb9 hcm9 hge9 hgehch9 hch => ?_;have hd := hd.keep0 hcm9;have hNx := hNx.keep0 hcm9;have hneb9 : b ≠ b9 := by have := hB.lt; omega
      have hB := hB.keep0 hcm9;have hneb89 := zdd hb8.lt hge9;have hb8 := hb8.k0 hcm9;refine zss rfl rfl ao hb9 rfl fun ws4 hb9_ hcs4 => ?_;(try simp only [Sx.splice, qt] at hb9_);have hch := hch.s1 hcs4;have hB := hB.kq hcs4;have hb8 := hb8.kq hcs4;have hd := hd.keepBK hb9 hcs4 an;have hNx := hNx.keepBK hb9 hcs4 an;have hb9 := hb9_;refine za rfl (zz (kh28 (Sr fun _ kh30 => zf rfl (zf rfl (zl hb8 rfl rfl (zf rfl (zf rfl (zl hb8 rfl rfl (zf rfl (zf rfl (zl hb8 rfl rfl ?_)))))))))));refine WL.call hasF71 rfl rfl (Make_spec nd vd ld ed _ hd (hg0.keep0 hch) hed) fun v w3 h' => ?_;obtain ⟨hD55, hC55⟩ := h';have hch := hch.ta hC55;have hB := hB.keep0 hC55;have hb9 := hb9.k0 hC55;have hNx := hNx.keep0 hC55;rcases hD55 with ⟨ry, dy, he55, rfl, hNy⟩ | ⟨he55, rfl⟩
      ·refine zm rfl (zx rfl rfl (zx rfl rfl ?_));refine zAh rfl rfl hch fun b11 wm11 hb11 hcm11 hge11 hgehch11 hch => ?_;have hNx := hNx.keep0 hcm11;have hNy := hNy.keep0 hcm11;have hneb11 : b ≠ b11 := by have := hB.lt; omega
       have hneb911 := zdd hb9.lt hge11;have hb9 := hb9.k0 hcm11;refine zss rfl rfl ao hb11 rfl fun ws5 hb11_ hcs5 => ?_;(try simp only [Sx.splice, qt] at hb11_);have hch := hch.s1 hcs5;have hb9 := hb9.kq hcs5;have hNx := hNx.keepBK hb11 hcs5 an;have hNy := hNy.keepBK hb11 hcs5 an;have hb11 := hb11_;refine za rfl (zz (kh30 (zc fun _ kh32 => Sr fun _ kh33 => zm rfl ?_)));refine WL.ev (Ev.neq rfl rfl) rfl ?_;refine zm rfl (zw rfl (zm rfl (zw rfl ?_)));refine WL.ev (Ev.neq rfl rfl) rfl ?_;refine ze rfl rfl (zz (kh33 ?_));refine CW.condF rfl ?_;refine zkk ?_;refine kh32 ?_;refine zR fun _ kr35 => ?_;refine zm rfl (zg hb9 rfl (zg hb11 rfl ?_));refine WL.ev (Ev.build (vs := _) (cs := [_, _, _, _, _, _]) rfl rfl) rfl ?_;refine WL.buildSlice (m := 1) (cs := [.bool dx.neg, rx, .int .i64 dx.e, .bool dy.neg, ry, .int .i64 dy.e]) (by decide) (by decide) rfl (by kernel_rfl) rfl fun b68 w68 hn68 => ?_;have hcm68 := hn68.chg;have hb68 : BK w68 b68 _ [.bool dx.neg, rx, .int .i64 dx.e, .bool dy.neg, ry, .int .i64 dy.e] := hn68.at_;have hch := hch.trans hcm68;have hNx := hNx.keep0 hcm68;have hNy := hNy.keep0 hcm68;have hrc68 := RC.of_BK hb68;refine WL.append (news := [.bool dx.neg, rx, .int .i64 dx.e, .bool dy.neg, ry, .int .i64 dy.e]) (xs := []) (m := 0) (by rfl) (by decide) rfl rfl ⟨rfl, .inl ⟨rfl, rfl⟩⟩ rfl hrc68 (by intro v hv; simp only [List.mem_cons, List.not_mem_nil, or_false] at hv; rcases hv with rfl | rfl | rfl | rfl | rfl | rfl <;> first | rfl | exact NU.one (by assumption)) (by decide) (by decide) rfl fun v69 w69 ho69 hc69 hl69 => ?_;have hc69 : Chg [] w68 w69 := by simpa [Value.ownBlock] using hc69
       have hch := hch.trans hc69;have hNx := hNx.keep0 hc69;have hNy := hNy.keep0 hc69;rcases own_cases ho69 with ⟨_, h0, _⟩ | ⟨g69, cap69, rfl, _, _, hcells⟩
       · cases h0
       have hrc : RC w69 ⟨g69, 0, none⟩ (ratC dx dy rx ry) := fun j v hv => by rw [add_addr, Nat.zero_add]; exact hcells j v hv
       refine za rfl ?_;refine WL.nil (kr35 _ _ _ (kh25 ?_));refine zR fun _ kr36 => ?_;(first | refine zi rfl rfl ?_ | refine zo rfl rfl ?_);refine zm rfl ?_;refine WL.nil (kr36 _ _ _ ?_);refine ⟨rfl, (1, .slice (some ⟨g69, 0, none⟩) 1 cap69), ?_, ?_, ?_⟩
       ·exact SLp
       ·exact ⟨Nat.le_refl 1, fun h => (by cases h), fun _ => ⟨dx, dy, g69, cap69, rx, ry, he42, he55, rfl, hrc, hNx, hNy⟩, hch⟩
       ·show 1 - 1 < 1 - 0; decide
      ·refine zm rfl (zx rfl rfl (zx rfl rfl ?_));refine zAh rfl rfl hch fun b11 wm11 hb11 hcm11 hge11 hgehch11 hch => ?_;have hneb11 : b ≠ b11 := by have := hB.lt; omega
       refine zss rfl rfl ao hb11 rfl fun ws6 hb11_ hcs6 => ?_;have hch := hch.s1 hcs6;refine za rfl (zz (kh30 (zc fun _ kh37 => Sr fun _ kh38 => zm rfl ?_)));refine WL.ev (Ev.neq rfl rfl) rfl ?_;refine zm rfl (zw rfl (zm rfl (zw rfl ?_)));refine WL.ev (Ev.neq rfl rfl) rfl ?_;refine ze rfl rfl (zz (kh38 ?_));refine CW.condT rfl ?_;refine Sr fun _ kh40 => za rfl (za rfl (zz (kh40 ?_)));refine zr (zr2 rfl rfl rfl ?_);exact ⟨.inr (.inl ⟨hs1, by first | exact .inl he42 | exact .inr he55, rfl⟩), hch⟩
     ·refine zm rfl (zx rfl rfl (zx rfl rfl ?_));refine zAh rfl rfl hch fun b9 wm9 hb9 hcm9 hge9 hgehch9 hch => ?_;have hd := hd.keep0 hcm9;have hneb9 : b ≠ b9 := by have := hB.lt; omega
      have hB := hB.keep0 hcm9;have hneb89 := zdd hb8.lt hge9;have hb8 := hb8.k0 hcm9;refine zss rfl rfl ao hb9 rfl fun ws7 hb9_ hcs7 => ?_;have hch := hch.s1 hcs7;have hB := hB.kq hcs7;have hb8 := hb8.kq hcs7;have hd := hd.keepBK hb9 hcs7 an;refine za rfl (zz (kh28 (Sr fun _ kh42 => zf rfl (zf rfl (zl hb8 rfl rfl (zf rfl (zf rfl (zl hb8 rfl rfl (zf rfl (zf rfl (zl hb8 rfl rfl ?_)))))))))));refine WL.call hasF71 rfl rfl (Make_spec nd vd ld ed _ hd (hg0.keep0 hch) hed) fun v w4 h' => ?_;obtain ⟨hD55, hC55⟩ := h';have hch := hch.ta hC55;have hB := hB.keep0 hC55;rcases hD55 with ⟨ry, dy, he55, rfl, hNy⟩ | ⟨he55, rfl⟩
      ·refine zm rfl (zx rfl rfl (zx rfl rfl ?_));refine zAh rfl rfl hch fun b11 wm11 hb11 hcm11 hge11 hgehch11 hch => ?_;have hneb11 : b ≠ b11 := by have := hB.lt; omega
       refine zss rfl rfl ao hb11 rfl fun ws8 hb11_ hcs8 => ?_;have hch := hch.s1 hcs8;refine za rfl (zz (kh42 (zc fun _ kh44 => Sr fun _ kh45 => zm rfl ?_)));refine WL.ev (Ev.neq rfl rfl) rfl ?_;refine zm rfl (zv rfl (zv rfl (zt rfl rfl (zz (kh45 ?_)))));refine CW.condT rfl ?_;refine Sr fun _ kh47 => za rfl (za rfl (zz (kh47 ?_)));refine zr (zr2 rfl rfl rfl ?_);exact ⟨.inr (.inl ⟨hs1, by first | exact .inl he42 | exact .inr he55, rfl⟩), hch⟩
      ·refine zm rfl (zx rfl rfl (zx rfl rfl ?_));refine zAh rfl rfl hch fun b11 wm11 hb11 hcm11 hge11 hgehch11 hch => ?_;have hneb11 : b ≠ b11 := by have := hB.lt; omega
       refine zss rfl rfl ao hb11 rfl fun ws9 hb11_ hcs9 => ?_;have hch := hch.s1 hcs9;refine za rfl (zz (kh42 (zc fun _ kh49 => Sr fun _ kh50 => zm rfl ?_)));refine WL.ev (Ev.neq rfl rfl) rfl ?_;refine zm rfl (zv rfl (zv rfl (zt rfl rfl (zz (kh50 ?_)))));refine CW.condT rfl ?_;refine Sr fun _ kh52 => za rfl (za rfl (zz (kh52 ?_)));refine zr (zr2 rfl rfl rfl ?_);exact ⟨.inr (.inl ⟨hs1, by first | exact .inl he42 | exact .inr he55, rfl⟩), hch⟩
    ·have hi0 : i = 1 := by omega
     subst hi0;obtain ⟨dx, dy, ad, c, rx, ry, hex, hey, rfl, hrc, hNx, hNy⟩ := ho rfl;refine CW.exit ?_;refine kh19 (zc fun _ kh54 => Sr fun _ kh55 => zm rfl (zn rfl (zm rfl (zz (kh55 ?_)))));refine CW.block ?_;refine CW.loop (S := fun i : Nat => [(6, .slice (some ⟨ad, 0, none⟩) 1 c), (71, .slice (some ⟨ad, 0, none⟩) 1 c), (72, .int .i64 1), (73, .int .i64 (i : Int))]) (Inv := KF3 dx dy rx ry ad w) (mu := fun i => 1 - i) (0) ?_ ?_ ?_
     ·exact ⟨by decide, fun h => (by cases h), hrc, hNx, hNy, hch⟩
     ·exact SLp
     ·rintro i wr ⟨hi1, hz3, hrc, hNx, hNy, hch⟩;have hrl := hrc.lt (by simp [ratC]);refine Sr fun _ kh57 => ?_;refine WL.ev (Ev.lss rfl rfl) rfl ?_;refine zz (kh57 (zc fun _ kh59 => ?_));refine zy rfl ?_ ?_<;>intro hc4<;>try simp only [qs] at hc4
      ·have hi0 : i = 0 := by omega
       subst hi0;refine zkk ?_;refine kh59 (zc fun _ kh60 => ?_);refine CW.block ?_;refine Sr fun _ kh61 => ?_;refine WL.ev (Ev.indexAddr rfl rfl (by omega) (by omega)) rfl ?_;rw [show 0 + ((0 : Nat) : Int).toNat * 6 = 0 from rfl];refine WL.ev (Ev.loadAgg (cs := ratC dx dy rx ry) rfl rfl rfl hrc) rfl ?_;unfold ratC;refine WL.allocB (l := [.bool false, .slice none 0 0, .int .i64 0, .bool false, .slice none 0 0, .int .i64 0]) rfl rfl fun b14 wm14 hb14 hcm14 hge14 => ?_;have hgehch14 := Nat.le_trans hch.size hge14;have hch := hch.ta hcm14;have hrc := hrc.keep0 hcm14;have hNx := hNx.keep0 hcm14;have hNy := hNy.keep0 hcm14;refine zss rfl rfl ao hb14 rfl fun ws10 hb14_ hcs10 => ?_;(try simp only [Sx.splice, qt] at hb14_);have hch := hch.s1 hcs10;have hrc := hrc.keepBK hb14 hcs10 an;have hNx := hNx.keepBK hb14 hcs10 an;have hNy := hNy.keepBK hb14 hcs10 an;have hb14 := hb14_;refine zz (kh61 (Sr fun _ kh63 => zf rfl ?_));refine WL.ev (Ev.loadB rfl rfl hb14 rfl rfl) rfl ?_;simp only [List.drop_succ_cons, List.drop_zero, List.take_succ_cons, List.take_zero];refine WL.call hasF100 rfl rfl (Sign_dspec dy.neg ry (wd dy.m) dy.e _ hNy) fun v w5 h' => ?_;obtain ⟨rfl, hC79⟩ := h';rw [val_wd];have hch := hch.ta hC79;have hrc := hrc.keep0 hC79;have hNx := hNx.keep0 hC79;have hNy := hNy.keep0 hC79;refine zq rfl rfl (zz (kh63 ?_));refine zy rfl ?_ ?_<;>intro hc5<;>try simp only [qs] at hc5
       ·have hy0 : dy.m = 0 := sgD_zero.1 hc5
        refine Sr fun _ kh65 => za rfl (za rfl (zz (kh65 ?_)));refine zr (zr2 rfl rfl rfl ?_);exact ⟨.inr (.inr (.inl ⟨hs1, dx, dy, hex, hey, hy0, rfl⟩)), hch⟩
       ·have hy0 : dy.m ≠ 0 := fun e => hc5 (sgD_zero.2 e);refine zkk ?_
        refine kh60 ?_;refine zR fun _ kr67 => ?_;(first | refine zi rfl rfl ?_ | refine zo rfl rfl ?_);refine zm rfl ?_;refine WL.nil (kr67 _ _ _ ?_);refine ⟨rfl, 1, ?_, ?_, ?_⟩
        ·exact SLp
        ·exact ⟨by decide, fun _ => hy0, hrc, hNx, hNy, hch⟩
        ·decide
      ·have hi0 : i = 1 := by omega
       subst hi0;have hy0 := hz3 rfl;refine CW.exit ?_;refine kh54 (Sr fun _ kh68 => zm rfl (za rfl (za rfl (zz (kh68 ?_)))));refine zr (zr2 rfl rfl rfl ?_);exact ⟨.inr (.inr (.inr ⟨hs1, dx, dy, hex, hey, hy0, ad, c, rx, ry, rfl, hrc, hNx, hNy⟩)), hch⟩

end

/- Package root: rounded, Quot. No condition. -/
section
open Go Sx Wd
set_option exponentiation.threshold 5000

/-- A form's value is what it was made of. -/
theorem formD_val {neg : Bool} {n : Nat} {e : Int} {d : Dy} (h : formD neg n e = some d) (h0 : n ≠ 0) : ∃ t : Nat, n = d.m * 2 ^ t ∧ d.e = e + t ∧ d.neg = neg := by
  unfold formD at h
  rw [if_neg h0] at h
  split at h
  · cases h
  · cases h; exact ⟨tz n, (tz_spec h0).2, rfl, rfl⟩
theorem dy_congr {m : Nat} {e e' : Int} {t : Nat} (he : e' = e + t) : dyA m e' * dyB e = dyA (m * 2 ^ t) e * dyB e' := by
  unfold dyA dyB
  rw [Nat.mul_assoc, Nat.mul_assoc, Nat.mul_assoc, ← Nat.pow_add, ← Nat.pow_add, ← Nat.pow_add]
  congr 2
  omega
/-- A ratio of dyads, rounded (or what is wrong). -/
def QuotP (nn nd : Bool) (ln ld : Nat) (en ed mode : Int) (bits : Nat) (e : Int) : Prop :=
  (¬ (0 ≤ mode ∧ mode ≤ 4) ∧ bits = 0 ∧ e = 1) ∨ ((0 ≤ mode ∧ mode ≤ 4) ∧
    ((sgD nd ld < 0 ∧ bits = 0 ∧ e = 1) ∨ (0 ≤ sgD nd ld ∧ (formD nn ln en = none ∨ formD nd ld ed = none) ∧ bits = 0 ∧ e = 2) ∨
     (0 ≤ sgD nd ld ∧ ∃ x y, formD nn ln en = some x ∧ formD nd ld ed = some y ∧ ((y.m = 0 ∧ bits = 0 ∧ e = 21) ∨
       (y.m ≠ 0 ∧ ∃ r, IsNear (dyA x.m (x.e - y.e)) (y.m * dyB (x.e - y.e)) x.neg mode r ∧ r ≤ 9218868437227405312 ∧ bits = (if x.neg then r + 9223372036854775808 else r) ∧ e = 0)))))
theorem aboutD_ok {neg : Bool} {m : Nat} {cut : Bool} {e : Int} (h : m < 2 ^ 82) : (aboutD neg m cut e).ok := by
  obtain ⟨d, hd⟩ := about_form (neg := neg) (cut := cut) (e := e) h
  have : aboutD neg m cut e = d := by unfold aboutD; rw [hd]; rfl
  rw [this]; exact formD_ok hd
/-- What quotient and Round come to. -/
theorem quot_round {x y : Dy} (hx : x.ok) (hy : y.ok) (hy0 : y.m ≠ 0) {size a : Nat} {mode : Int} {bits : Nat} {e : Int} (hm : 0 ≤ mode ∧ mode ≤ 4)
    (hD : DigI (x.m * 2 ^ (max 0 (-((bl x.m : Int) - (bl y.m : Int)))).toNat) (y.m * 2 ^ (max 0 ((bl x.m : Int) - (bl y.m : Int))).toNat) 82 size a)
    (hR : RoundR (formD (aboutD x.neg size (decide (a ≠ 0)) ((bl x.m : Int) - (bl y.m : Int) - 81 + x.e - y.e)).neg (aboutD x.neg size (decide (a ≠ 0)) ((bl x.m : Int) - (bl y.m : Int) - 81 + x.e - y.e)).m (aboutD x.neg size (decide (a ≠ 0)) ((bl x.m : Int) - (bl y.m : Int) - 81 + x.e - y.e)).e) mode bits e) :
    ∃ r, IsNear (dyA x.m (x.e - y.e)) (y.m * dyB (x.e - y.e)) x.neg mode r ∧ r ≤ 9218868437227405312 ∧ bits = (if x.neg then r + 9223372036854775808 else r) ∧ e = 0 := by
  obtain ⟨d, hd⟩ := about_form (neg := x.neg) (cut := decide (a ≠ 0)) (e := (bl x.m : Int) - (bl y.m : Int) - 81 + x.e - y.e) hD.w
  have hdd : aboutD x.neg size (decide (a ≠ 0)) ((bl x.m : Int) - (bl y.m : Int) - 81 + x.e - y.e) = d := by unfold aboutD; rw [hd]; rfl
  rw [hdd, formD_self (formD_ok hd)] at hR
  rcases hR with ⟨h, _⟩ | ⟨_, ⟨h, _⟩ | ⟨d2, r, h, hN, hr, hb, he⟩⟩
  · exact absurd hm h
  · cases h
  cases h
  by_cases h0 : x.m = 0
  · -- nought
    have hz := hx.z h0
    have hs : size = 0 ∧ a = 0 := by
      obtain ⟨h3, _⟩ := hD.s (by decide)
      rw [h0, Nat.zero_mul, Nat.zero_mul] at h3
      have hB : 0 < y.m * 2 ^ (max 0 ((bl 0 : Int) - (bl y.m : Int))).toNat := Nat.mul_pos (by omega) (Nat.two_pow_pos _)
      have h4 : size * (y.m * 2 ^ (max 0 ((bl 0 : Int) - (bl y.m : Int))).toNat) = 0 := by omega
      rcases Nat.mul_eq_zero.1 h4 with q | q
      · exact ⟨q, by omega⟩
      · omega
    have hm0 : aboutM size (decide (a ≠ 0)) = 0 := by unfold aboutM; rw [hs.1, hs.2]; rfl
    rw [hm0, formD_zero] at hd
    cases hd
    have e1 : dyA Dy.zero.m Dy.zero.e = 0 := by unfold dyA Dy.zero; simp
    rw [e1] at hN
    have hr0 := hN.unique (dyB_pos _) (near_zero (dyB_pos _) _ _)
    subst hr0
    have hxn : x.neg = false := by rw [hz]; rfl
    refine ⟨0, ?_, by decide, ?_, he⟩
    · rw [h0, show dyA 0 (x.e - y.e) = 0 by unfold dyA; simp]
      exact near_zero (Nat.mul_pos (by omega) (dyB_pos _)) _ _
    · rw [hb, hxn]; rfl
  · have hM0 : aboutM size (decide (a ≠ 0)) ≠ 0 := by
      have hl := (digits_low h0 hy0 rfl).2
      have := dig_size hD (by decide) hl
      unfold aboutM
      omega
    obtain ⟨t, h1, h2, h3⟩ := formD_val hd hM0
    rw [h3] at hN hb
    have hN2 := hN.congr (B' := dyB (aboutE ((bl x.m : Int) - (bl y.m : Int) - 81 + x.e - y.e))) (dyB_pos _) (dyB_pos _) (dy_congr h2)
    rw [← h1] at hN2
    refine ⟨r, near_quot (a := a) h0 hy0 rfl hm hD (e := aboutE ((bl x.m : Int) - (bl y.m : Int) - 81 + x.e - y.e)) (by unfold aboutE; congr 2; omega) ?_, hr, hb, he⟩
    have e5 : aboutM size (decide (a ≠ 0)) = 2 * size + if a = 0 then 0 else 1 := by
      unfold aboutM
      by_cases q : a = 0
      · simp [q]
      · simp [q]
    rw [e5] at hN2
    exact hN2

theorem rounded_spec (nn nd : Bool) (vn vd : Value) (ln ld : List Nat) (en ed mode : Int) (w : World) (hn : NU w vn ln) (hd : NU w vd ld) (hg : GW w) (hen : -9223372036854775808 ≤ en ∧ en ≤ 9223372036854775807) (hed : -9223372036854775808 ≤ ed ∧ ed ≤ 9223372036854775807) : Ret Tryz.prog 199 [.agg [.bool nn, vn, .int .i64 en, .bool nd, vd, .int .i64 ed].toArray, .int .i64 mode, .bool false, .func (.func 72) #[] #[]] w fun u w' => (∃ bits e, u = .tuple [.float .f64 bits, .int .i64 e].toArray ∧ QuotP nn nd (val ln) (val ld) en ed mode bits e) ∧ Chg [] w w' := by
 have hch : Chg [] w w := Chg.refl _ _;have hon := hn.one;have hod := hd.one;have hg0 := hg;refine zE4 Tryz.func199 rfl ?_;refine Sr fun _ kh1 => ?_;refine zBh rfl rfl rfl hch fun b4 wm4 hb4 hcm4 hge4 hgehch4 hch => ?_;have hn := hn.keep0 hcm4;have hd := hd.keep0 hcm4;refine za rfl (za rfl (zz (kh1 (zc fun _ kh3 => ?_))));refine CW.seqM 17 (decide (¬ (0 ≤ mode ∧ mode ≤ 4))) ?_ ?_
 ·refine zR fun _ kr4 => ?_;refine zm rfl ?_;refine WL.ev (Ev.lss rfl rfl) rfl ?_;refine zm rfl ?_;refine zb ?_ ?_<;>intro hg1<;>try simp only [qs] at hg1
  ·refine zv rfl (zv rfl (zt rfl rfl ?_));refine WL.nil (kr4 _ _ _ ?_);refine ⟨rfl, rfl, Subs.consB rfl ?_ ?_⟩
   ·first | (simp; omega) | (refine decide_eq_decide.2 ?_; omega)
   ·exact SMg
  ·refine zw rfl (zm rfl (zw rfl ?_));refine WL.ev (Ev.gtr rfl rfl) rfl ?_
   refine ze rfl rfl ?_;refine WL.nil (kr4 _ _ _ ?_);refine ⟨rfl, rfl, Subs.consB rfl ?_ ?_⟩
   ·first | (simp; omega) | (refine decide_eq_decide.2 ?_; omega)
   ·exact SMg
 ·refine zy rfl ?_ ?_<;>intro hc2<;>try simp only [qs] at hc2
  ·have hmode : ¬ (0 ≤ mode ∧ mode ≤ 4) := hc2
   refine Sr fun _ kh5 => za rfl (za rfl (zz (kh5 ?_)));refine zr (zr2 rfl rfl rfl ?_);refine ⟨⟨_, _, rfl, .inl ⟨hmode, rfl, rfl⟩⟩, hch⟩
  ·have hmode : 0 ≤ mode ∧ mode ≤ 4 := by have := hc2; omega
   refine zkk ?_;refine kh3 (Sr fun _ kh7 => zg hb4 rfl ?_);refine WL.buildSlice (m := 1) (cs := [.bool nn, vn, .int .i64 en, .bool nd, vd, .int .i64 ed]) (by decide) (by decide) rfl (by kernel_rfl) rfl fun b20 w20 hn20 => ?_;have hcm20 := hn20.chg;have hb20 : BK w20 b20 218 [.bool nn, vn, .int .i64 en, .bool nd, vd, .int .i64 ed] := hn20.at_;have hch := hch.trans hcm20;have hn := hn.keep0 hcm20;have hd := hd.keep0 hcm20;refine WL.call hasF280 rfl rfl (forms_spec b20 nn nd vn vd ln ld en ed _ hb20 hn hd (hg0.keep0 hch) hen hed) fun v w1 h' => ?_;obtain ⟨hF, hC21⟩ := h';have hch := hch.ta hC21;rcases hF with ⟨hsg, rfl⟩ | ⟨hsg, hno, rfl⟩ | ⟨hsg, dx, dy, hex, hey, hy0, rfl⟩ | ⟨hsg, dx, dy, hex, hey, hy0, gg, cc, rx, ry, rfl, hrc, hNx, hNy⟩
   ·refine zm rfl (zx rfl rfl (zx rfl rfl (za rfl (za rfl (zz (kh7 (zc fun _ kh9 => ?_)))))));refine CW.block ?_;refine Sr fun _ kh10 => zm rfl ?_;refine WL.ev (Ev.neq rfl rfl) rfl ?_;refine za rfl (zz (kh10 ?_));refine CW.condT rfl ?_;refine Sr fun _ kh12 => zm rfl (za rfl (za rfl (zz (kh12 ?_))));refine zr (zr2 rfl rfl rfl ?_);refine ⟨⟨_, _, rfl, .inr ⟨hmode, .inl ⟨hsg, rfl, rfl⟩⟩⟩, hch⟩
   ·refine zm rfl (zx rfl rfl (zx rfl rfl (za rfl (za rfl (zz (kh7 (zc fun _ kh14 => ?_)))))));refine CW.block ?_;refine Sr fun _ kh15 => zm rfl ?_;refine WL.ev (Ev.neq rfl rfl) rfl ?_;refine za rfl (zz (kh15 ?_));refine CW.condT rfl ?_;refine Sr fun _ kh17 => zm rfl (za rfl (za rfl (zz (kh17 ?_))));refine zr (zr2 rfl rfl rfl ?_);refine ⟨⟨_, _, rfl, .inr ⟨hmode, .inr (.inl ⟨hsg, hno, rfl, rfl⟩)⟩⟩, hch⟩
   ·refine zm rfl (zx rfl rfl (zx rfl rfl (za rfl (za rfl (zz (kh7 (zc fun _ kh19 => ?_)))))));refine CW.block ?_;refine Sr fun _ kh20 => zm rfl ?_;refine WL.ev (Ev.neq rfl rfl) rfl ?_;refine za rfl (zz (kh20 ?_));refine CW.condT rfl ?_;refine Sr fun _ kh22 => zm rfl (za rfl (za rfl (zz (kh22 ?_))));refine zr (zr2 rfl rfl rfl ?_);refine ⟨⟨_, _, rfl, .inr ⟨hmode, .inr (.inr ⟨hsg, dx, dy, hex, hey, .inl ⟨hy0, rfl, rfl⟩⟩)⟩⟩, hch⟩
   ·have hokx := formD_ok hex;have hoky := formD_ok hey;refine zm rfl (zx rfl rfl (zx rfl rfl (za rfl (za rfl (zz (kh7 (zc fun _ kh24 => ?_)))))));refine CW.block ?_;refine Sr fun _ kh25 => zm rfl ?_;refine WL.ev (Ev.neq rfl rfl) rfl ?_;refine za rfl (zz (kh25 ?_));refine CW.condF rfl ?_;refine Sr fun _ kh27 => zm rfl (zm rfl (zv rfl (zv rfl (zv rfl (zv rfl (zv rfl (ze rfl rfl (za rfl (zz (kh27 ?_))))))))));refine CW.condF rfl ?_;refine Sr fun _ kh29 => zm rfl (za rfl (zz (kh29 ?_)));refine CW.condF rfl ?_;refine zkk ?_;refine kh24 (Sr fun _ kh31 => zm rfl (zm rfl ?_));refine WL.ev (Ev.indexAddr rfl rfl (by omega) (by omega)) rfl ?_;rw [show 0 + (0 : Int).toNat * 6 = 0 from rfl];refine WL.ev (Ev.loadAgg (cs := ratC dx dy rx ry) rfl rfl rfl hrc) rfl ?_;unfold ratC;refine WL.call hasF282 rfl rfl (quotient_spec dx.neg dy.neg rx ry dx.m dy.m dx.e dy.e _ hNx hNy hokx.len hoky.len hy0 hokx.e hoky.e (hg0.keep0 hch)) fun v w2 h' => ?_;obtain ⟨⟨size, a, ⟨rq, rfl, hNq⟩, hDg⟩, hC52⟩ := h';have hch := hch.ta hC52;refine zm rfl ?_;refine WL.callV (cap := []) hasF72 rfl rfl rfl (by rw [List.append_nil]; exact Round_dspec _ _ _ _ mode _ hNq (hg0.keep0 hch) (by have := (aboutD_ok (neg := dx.neg) (cut := decide (a ≠ 0)) (e := (bl dx.m : Int) - (bl dy.m : Int) - 81 + dx.e - dy.e) hDg.w).e; omega)) fun v54 w54 h54 => ?_;obtain ⟨⟨bits, ee, rfl, hRR⟩, hC54⟩ := h54;have hch := hch.trans hC54;rw [val_wd] at hRR;refine zx rfl rfl (zx rfl rfl (za rfl (za rfl (zz (kh31 ?_)))));refine zr (zr2 rfl rfl rfl ?_);obtain ⟨r, q1, q2, q3, q4⟩ := quot_round hokx hoky hy0 hmode hDg hRR;refine ⟨⟨_, _, rfl, .inr ⟨hmode, .inr (.inr ⟨hsg, dx, dy, hex, hey, .inr ⟨hy0, r, q1, q2, q3, q4⟩⟩)⟩⟩, hch⟩

theorem Quot_spec (nn nd : Bool) (vn vd : Value) (ln ld : List Nat) (en ed mode : Int) (w : World) (hn : NU w vn ln) (hd : NU w vd ld) (hg : GW w) (hen : -9223372036854775808 ≤ en ∧ en ≤ 9223372036854775807) (hed : -9223372036854775808 ≤ ed ∧ ed ≤ 9223372036854775807) : Ret Tryz.prog 116 [.agg [.bool nn, vn, .int .i64 en, .bool nd, vd, .int .i64 ed].toArray, .int .i64 mode] w fun u w' => (∃ bits e, u = .tuple [.float .f64 bits, .int .i64 e].toArray ∧ QuotP nn nd (val ln) (val ld) en ed mode bits e) ∧ Chg [] w w' := by
 have hch : Chg [] w w := Chg.refl _ _;have hon := hn.one;have hod := hd.one;have hg0 := hg;refine zE2 Tryz.func116 rfl ?_;refine Sr fun _ kh1 => ?_;refine zBh rfl rfl rfl hch fun b2 wm2 hb2 hcm2 hge2 hgehch2 hch => ?_;have hn := hn.keep0 hcm2;have hd := hd.keep0 hcm2;refine za rfl (za rfl (zz (kh1 (Sr fun _ kh3 => zg hb2 rfl (zm rfl ?_)))));refine WL.call hasF199 rfl rfl (rounded_spec nn nd vn vd ln ld en ed mode _ hn hd (hg0.keep0 hch) hen hed) fun v w1 h' => ?_;obtain ⟨⟨bits, e, rfl, hQ⟩, hC8⟩ := h';have hch := hch.ta hC8;refine zx rfl rfl (zx rfl rfl (za rfl (za rfl (zz (kh3 ?_)))));refine zr (zr2 rfl rfl rfl ?_);exact ⟨⟨_, _, rfl, hQ⟩, hch⟩

end

/- What numbers are, as whole numbers of 2^-2148, and their sums. No condition. -/
section
open Go Sx Wd
set_option exponentiation.threshold 9000

/-- A number's size in units of 2^-2148 (nought, if it is none or not finite). -/
def fvN (x : Nat) : Nat := if (splitP x).cls = 1 ∨ (splitP x).cls = 2 then (splitP x).frac * 2 ^ ((splitP x).exp + 2148).toNat else 0
def fvI (x : Nat) : Int := if (splitP x).neg = true then -(fvN x : Int) else (fvN x : Int)
theorem b64 (e : Nat) : 18446744073709551616 ^ (e / 64) * 2 ^ (e % 64) = 2 ^ e := by
  rw [show (18446744073709551616 : Nat) = 2 ^ 64 from rfl, ← Nat.pow_mul, ← Nat.pow_add]
  congr 1; omega
theorem thv_one (x : Nat) : thv (oneP x) = fvI x := by
  unfold thv oneP fvI fvN
  by_cases h : (splitP x).cls = 1 ∨ (splitP x).cls = 2
  · obtain ⟨h1, h2, h3, h4⟩ := splitP_fin h
    rw [if_pos h, if_pos h]
    dsimp only
    rw [if_pos h, laidW_val (by omega) (by omega)]
    have e : (0 * 18446744073709551616 + (splitP x).frac) * 2 ^ (((splitP x).exp + 2148).toNat % 64) * 18446744073709551616 ^ (((splitP x).exp + 2148).toNat / 64) = (splitP x).frac * 2 ^ ((splitP x).exp + 2148).toNat := by
      rw [← b64 ((splitP x).exp + 2148).toNat, Nat.zero_mul, Nat.zero_add]; ac_rfl
    rw [e]
  · simp [h]
theorem fvN_lt (x : Nat) : fvN x < 2 ^ 3172 := by
  unfold fvN
  split
  · rename_i h
    obtain ⟨h1, h2, h3, h4⟩ := splitP_fin h
    have h5 : 2 ^ ((splitP x).exp + 2148).toNat ≤ 2 ^ 3119 := Nat.pow_le_pow_right (by decide) (by omega)
    have h6 : (splitP x).frac * 2 ^ ((splitP x).exp + 2148).toNat < 9007199254740992 * 2 ^ 3119 := Nat.lt_of_lt_of_le (Nat.mul_lt_mul_of_pos_right h4 (Nat.two_pow_pos _)) (Nat.mul_le_mul_left _ h5)
    rw [show (9007199254740992 : Nat) = 2 ^ 53 from rfl, ← Nat.pow_add] at h6
    exact h6
  · exact Nat.two_pow_pos _
/-- A list's sum. -/
def sumI (l : List Nat) : Int := (l.map fvI).sum
theorem sum_snoc (l : List Int) (x : Int) : (l ++ [x]).sum = l.sum + x := by
  induction l with
  | nil => simp
  | cons a l ih => simp only [List.cons_append, List.sum_cons, ih]; omega
theorem sumI_step {l : List Nat} {i : Nat} (h : i < l.length) : sumI (l.take (i + 1)) = sumI (l.take i) + fvI (l.getD i 0) := by
  unfold sumI
  rw [take_step h, List.map_append, List.map_cons, List.map_nil, sum_snoc]
theorem fvI_abs (x : Nat) : (fvI x).natAbs = fvN x := by unfold fvI; split <;> simp
theorem sumI_le : ∀ (l : List Nat), (sumI l).natAbs ≤ l.length * 2 ^ 3172
  | [] => by simp [sumI]
  | x :: l => by
    have h1 := sumI_le l
    have h2 := fvN_lt x
    have h3 := fvI_abs x
    have e : sumI (x :: l) = fvI x + sumI l := by simp [sumI]
    rw [e, List.length_cons, Nat.add_mul, Nat.one_mul]
    generalize 2 ^ 3172 = B at *
    generalize l.length * B = C at *
    omega
theorem BB_pow : 16384 * BB = 2 ^ 4238 := by
  unfold BB
  rw [show (18446744073709551616 : Nat) = 2 ^ 64 from rfl, ← Nat.pow_mul, show (16384 : Nat) = 2 ^ 14 from rfl, ← Nat.pow_add]
theorem sumI_in {l : List Nat} (h : l.length ≤ 1099511627776) : -((16384 * BB : Nat) : Int) < sumI l ∧ sumI l < (16384 * BB : Nat) := by
  have h1 := sumI_le l
  have h2 : l.length * 2 ^ 3172 < 2 ^ 41 * 2 ^ 3172 := Nat.mul_lt_mul_of_pos_right (by omega) (Nat.two_pow_pos _)
  rw [← Nat.pow_add] at h2
  have h3 : 2 ^ (41 + 3172) ≤ 16384 * BB := by rw [BB_pow]; exact Nat.pow_le_pow_right (by decide) (by decide)
  generalize 16384 * BB = M at *
  generalize 2 ^ (41 + 3172) = M2 at *
  omega
theorem cnt1_le {s : SP} {n : Nat} (h : s.le n) (c : Nat) (neg : Bool) : (cnt1 s c neg).le (n + 1) := by
  obtain ⟨a, b, c2, d, e, f⟩ := h
  unfold cnt1
  repeat' split
  all_goals (refine ⟨?_, ?_, ?_, ?_, ?_, ?_⟩ <;> dsimp only <;> omega)
end

/- Package mean: clean, right, told, all. No condition. -/
section
open Go Sx Wd
set_option exponentiation.threshold 5000

theorem clean_spec (b6 b7 x : Nat) (e : Int) (w : World) (h6 : BK w b6 30 [.float .f64 x]) (h7 : BK w b7 25 [.int .i64 e]) (hne : b6 ≠ b7) : RetD Tryz.prog 109 [.pointer (some ⟨b6, 0, none⟩), .pointer (some ⟨b7, 0, none⟩)] w fun u w' => BK w' b6 30 [.float .f64 (if e = 0 then x else 0)] ∧ BK w' b7 25 [.int .i64 e] ∧ Chg [b6] w w' := by
  have hch : Chg [b6] w w := Chg.refl _ _
  refine RetD.enter Tryz.func109 rfl rfl ?_
  simp only [args0, Nat.zero_add, Nat.reduceAdd]
  refine Sq fun _ kh1 _ kr2 => ?_
  refine Mv rfl rfl ?_
  refine WL.ev (Ev.nilPtr rfl) rfl ?_
  refine WL.ev (Ev.load rfl rfl (h7.at_ rfl)) rfl ?_
  refine WL.ev (Ev.neq rfl rfl) rfl ?_
  refine WL.nil (kr2 _ _ _ (kh1 _ _ _ ?_))
  refine zy rfl (fun hc1 => ?_) fun hc1 => ?_
  ·
    (try simp only [qs] at hc1)
    have he0 : e ≠ 0 := hc1
    refine zR fun _ kr3 => ?_
    refine Mv rfl rfl ?_
    refine WL.ev (Ev.nilPtr rfl) rfl ?_
    refine WL.storeC rfl rfl o1 h6 (by simp) rfl fun ws1 h6_ hcs1 => ?_
    (try simp only [Sx.splice, qt] at h6_)
    have hch := hch.s1 hcs1
    have h7 := h7.kq hcs1
    have h6 := h6_
    refine WL.nil (kr3 _ _ _ ?_)
    refine bodyA.norm0 rfl ?_
    refine ⟨?_, h7, hch⟩
    rw [if_neg he0]; exact h6
  ·
    (try simp only [qs] at hc1)
    have he0 : e = 0 := by have := hc1; omega
    refine zkk ?_
    refine bodyA.norm0 rfl ?_
    refine ⟨?_, h7, hch⟩
    rw [if_pos he0]; exact h6

/-- The door of a function that defers clean. -/
theorem clean_door {fn : Func} {n : Nat} {s : Sl} {w : World} {R : Value → World → Prop} {t6 t7 b6 b7 x : Nat} {e : Int} (hr : fn.results = #[.cell t6 30, .cell t7 25]) (l6 : Sx.look s t6 = some (.pointer (some ⟨b6, 0, none⟩))) (l7 : Sx.look s t7 = some (.pointer (some ⟨b7, 0, none⟩)))
    (h6 : BK w b6 30 [.float .f64 x]) (h7 : BK w b7 25 [.int .i64 e]) (hne : b6 ≠ b7) (h : ∀ w', Chg [b6] w w' → R (.tuple [.float .f64 (if e = 0 then x else 0), .int .i64 e].toArray) w') :
    bodyD Tryz.prog fn n 109 R .ret [⟨.fn (.func 109) #[], [.pointer (some ⟨b6, 0, none⟩), .pointer (some ⟨b7, 0, none⟩)].toArray⟩] s w :=
  bodyD.retR2 hr rfl ((clean_spec b6 b7 x e w h6 h7 hne).mono fun _ w' ⟨q6, q7, hc⟩ => ⟨_, _, RVal.cell l6 (q6.var1 rfl rfl), RVal.cell l7 (q7.var1 rfl rfl), h w' hc⟩)

theorem right_spec (mode : Int) (w : World) : Ret Tryz.prog 110 [.int .i64 mode] w fun u w' => u = .bool (decide (0 ≤ mode ∧ mode ≤ 4)) ∧ w = w' := by
 refine zE1 Tryz.func110 rfl ?_;refine Sr fun _ kh1 => za rfl (zz (kh1 (Sr fun _ kh3 => zm rfl ?_)));refine WL.ev (Ev.geq rfl rfl) rfl ?_;refine zm rfl ?_;refine zb ?_ ?_<;>intro hg1<;>try simp only [qs] at hg1
 ·have h1 : 0 ≤ mode := hg1
  refine zw rfl (zm rfl (zw rfl ?_));refine WL.ev (Ev.leq rfl rfl) rfl ?_;refine zt rfl rfl (za rfl (zz (kh3 ?_)));refine zr (zr1 rfl rfl ?_);refine ⟨congrArg Value.bool (decide_eq_decide.2 (by omega)), rfl⟩
 ·have h1 : ¬ 0 ≤ mode := by have := hg1; omega
  refine zv rfl (zv rfl (ze rfl rfl (za rfl (zz (kh3 ?_)))));refine zr (zr1 rfl rfl ?_);refine ⟨?_, rfl⟩;rw [decide_eq_false (by omega)]

/-- What told answers. -/
def toldR (d : Dy) (n : Nat) (s : SP) (mode : Int) (bits : Nat) (e : Int) : Prop :=
  (d.m = 0 ∧ bits = noughtP s mode ∧ e = 0) ∨ (d.m ≠ 0 ∧ QuotP d.neg (intD n).neg d.m (intD n).m d.e (intD n).e mode bits e)
theorem intD_ok {n : Int} (h : n.natAbs < 18446744073709551616) : (intD n).ok := formD_ok (intD_eq h)
theorem ok_e {d : Dy} (h : d.ok) : -9223372036854775808 ≤ d.e ∧ d.e ≤ 9223372036854775807 := by have := h.e; omega

theorem told_spec (d : Dy) (r : Value) (n : Nat) (s : SP) (mode : Int) (w : World) (hr : NU w r (wd d.m)) (hok : d.ok) (hn : n ≤ 1099511627776) (hs : s.le 1000000000000000) (hg : GW w) : Ret Tryz.prog 112 [.agg [.bool d.neg, r, .int .i64 d.e].toArray, .int .i64 (n : Int), .agg [.int .i64 (s.na : Int), .int .i64 (s.up : Int), .int .i64 (s.dn : Int), .int .i64 (s.mi : Int), .int .i64 (s.pl : Int), .int .i64 (s.al : Int)].toArray, .int .i64 mode] w fun u w' => (∃ bits e, u = .tuple [.float .f64 bits, .int .i64 e].toArray ∧ toldR d n s mode bits e) ∧ Chg [] w w' := by
 have hch : Chg [] w w := Chg.refl _ _;have hor := hr.one;have hg0 := hg;refine zE4 Tryz.func112 rfl ?_;refine Sr fun _ kh1 => ?_;refine zBh rfl rfl rfl hch fun b4 wm4 hb4 hcm4 hge4 hgehch4 hch => ?_;have hr := hr.keep0 hcm4;refine zBh rfl rfl rfl hch fun b6 wm6 hb6 hcm6 hge6 hgehch6 hch => ?_;have hr := hr.keep0 hcm6;have hneb46 := zdd hb4.lt hge6;have hb4 := hb4.k0 hcm6;refine za rfl (za rfl (zz (kh1 (zc fun _ kh3 => Sr fun _ kh4 => zg hb4 rfl ?_))));refine WL.call hasF100 rfl rfl (Sign_dspec d.neg r (wd d.m) d.e _ hr) fun v w1 h' => ?_;obtain ⟨rfl, hC11⟩ := h';rw [val_wd];have hch := hch.ta hC11;have hb4 := hb4.k0 hC11;have hb6 := hb6.k0 hC11;have hr := hr.keep0 hC11;refine zq rfl rfl (zz (kh4 ?_));refine zy rfl ?_ ?_<;>intro hc1<;>try simp only [qs] at hc1
 ·have h0 : d.m = 0 := sgD_zero.1 hc1
  refine Sr fun _ kh6 => zg hb6 rfl (zm rfl ?_);refine WL.call hasF101 rfl rfl (Nought_spec s mode _ hs) fun v w2 h' => ?_;obtain ⟨rfl, hC15⟩ := h';have hch := hch.ta hC15;refine za rfl (za rfl (zz (kh6 ?_)));refine zr (zr2 rfl rfl rfl ?_);exact ⟨⟨_, _, rfl, .inl ⟨h0, rfl, rfl⟩⟩, hch⟩
 ·have h0 : d.m ≠ 0 := fun e => hc1 (sgD_zero.2 e);refine zkk ?_
  refine kh3 (zc fun _ kh8 => ?_);refine CW.regionHC 10 rfl hmix fun kR9 kr9 hS hdr => ?_;have hch := hch.ta hdr;have hb4 := hb4.k0 hdr;have hr := hr.keep0 hdr;have hb4_r := hb4;refine wh 0 rfl hS (fun _ hw' => Ev.loadA rfl rfl (hb4_r.keep0 hw') rfl) (wh 1 rfl hS (fun _ _ => Ev.move rfl) (wh 4 rfl hS (fun _ _ => Ev.move rfl) ?_));refine WH.oneCall 2 rfl (by kernel_rfl) hasF180 rfl rfl (Int_spec (n : Int) _ (hg0.keep0 hch) (by omega)) fun v w3 h' => ?_;obtain ⟨⟨rn, rfl, hN18⟩, hC18⟩ := h';have hch := hch.ta hC18;have hr := hr.keep0 hC18;have hS := hS.trans hC18;refine ⟨hS, ?_⟩;refine wh 3 rfl hS (fun _ _ => Ev.build (vs := _) (cs := [_, _, _, _, _, _]) rfl rfl) ?_;refine WH.oneCall 5 rfl (by kernel_rfl) hasF116 rfl rfl (Quot_spec d.neg (intD n).neg r rn (wd d.m) (wd (intD n).m) d.e (intD n).e mode _ hr hN18 (hg0.keep0 hch) (ok_e hok) (ok_e (intD_ok (by omega)))) fun v w4 h' => ?_;obtain ⟨⟨bits, e, rfl, hQ⟩, hC21⟩ := h';rw [val_wd, val_wd] at hQ;have hch := hch.ta hC21;have hS := hS.trans hC21;refine ⟨hS, ?_⟩;refine wh 6 rfl hS (fun _ _ => Ev.extract rfl rfl) (wh 7 rfl hS (fun _ _ => Ev.extract rfl rfl) (wh 8 rfl hS (fun _ _ => Ev.assign rfl) (wh 9 rfl hS (fun _ _ => Ev.assign rfl) ?_)));refine WH.done (by kernel_rfl) (kr9 _ _ _ ?_);refine kh8 ?_;refine zr (zr2 rfl rfl rfl ?_);exact ⟨⟨_, _, rfl, .inr ⟨h0, hQ⟩⟩, hch⟩

structure KAll (l : List Nat) (b : Nat) (w0 : World) (g : Nat × List Nat × SP) (w : World) : Prop where
  hi : g.1 ≤ l.length
  hB : TB w b 230 g.2.1 g.2.2.cells
  hr : Rep g.2.1 (sumI (l.take g.1))
  hs : g.2.2.le g.1
  ch : Chg [] w0 w

theorem all_spec (v : Value) (l : List Nat) (w : World) (hv : NF w v l) (hl : l.length ≤ 65536) : Ret Tryz.prog 113 [v] w fun u w' => (∃ b C, ∃ s : SP, u = .pointer (some ⟨b, 0, none⟩) ∧ TB w' b 230 C s.cells ∧ Rep C (sumI l) ∧ s.le 65536) ∧ Chg [] w w' := by
 obtain ⟨⟨al, cl, rfl, hcap, hrl⟩, hWl, hll⟩ := hv;have hch : Chg [] w w := Chg.refl _ _;refine zE1 Tryz.func113 rfl ?_;refine Sr fun _ kh1 => za rfl (zz (kh1 (Sr fun _ kh3 => ?_)));refine WL.call hasF106 rfl rfl (New_spec _) fun v w1 h' => ?_;obtain ⟨b, rfl, hB6, hge6, hC6⟩ := h';have hch := hch.trans hC6;have hbge : w.heap.size ≤ b := hge6;refine za rfl (zz (kh3 (zc fun _ kh5 => Sr fun _ kh6 => zm rfl (zn rfl (zm rfl (zz (kh6 ?_)))))));refine CW.block ?_;refine CW.loop (S := fun g : Nat × List Nat × SP => [(3, .pointer (some ⟨b, 0, none⟩)), (7, .slice al l.length cl), (8, .int .i64 (l.length : Int)), (9, .int .i64 (g.1 : Int))]) (Inv := KAll l b w) (mu := fun g => l.length - g.1) ((0, List.replicate 67 0, SP.zero)) ?_ ?_ ?_
 ·exact ⟨Nat.zero_le _, hB6, by rw [List.take_zero]; exact Rep.zero, ⟨by decide, by decide, by decide, by decide, by decide, by decide⟩, hch⟩
 ·exact SLp
 ·rintro ⟨i, C, s⟩ wr ⟨hi, hB, hr, hs, hch⟩;dsimp only at hi hB hr hs hch;dsimp only;have hx := D_getD hWl i;refine Sr fun _ kh8 => ?_;refine WL.ev (Ev.lss rfl rfl) rfl ?_;refine zz (kh8 (zc fun _ kh10 => ?_));refine zy rfl ?_ ?_<;>intro hc1<;>try simp only [qs] at hc1
  ·have hst := sumI_step (l := l) (i := i) (by omega);have hin := sumI_in (l := l.take (i + 1)) (by rw [List.length_take]; omega);rw [hst, ← thv_one] at hin
   refine zkk ?_;refine kh10 (zc fun _ kh11 => ?_);refine CW.block ?_;refine Sr fun _ kh12 => ?_;refine WL.ev (Ev.ixR (i) rfl rfl (hrl.keep0 hch) (by omega) (by omega) (by simp; omega)) rfl ?_;refine WL.ev (Ev.load rfl rfl ((hrl.keep0 hch).f64 (by first | omega | (simp; omega)))) rfl ?_;refine za rfl (zz (kh12 ?_));refine zR fun _ kr14 => ?_;refine zm rfl (zm rfl ?_);refine WL.call hasF107 rfl rfl (acAdd_spec b C (l.getD i 0) s (sumI (l.take i)) _ hB hr hx (hs.mono (by omega)) hin.1 hin.2) fun v w2 h' => ?_;obtain ⟨rfl, C2, hB2, hr2, hC15⟩ := h';rw [thv_one, ← hst] at hr2;have hch := hch.step hC15 (fun y hy => by simp only [List.mem_singleton] at hy; subst hy; exact .inr hbge);refine WL.nil (kr14 _ _ _ (kh11 ?_));refine zR fun _ kr15 => ?_;(first | refine zi rfl rfl ?_ | refine zo rfl rfl ?_);refine zm rfl ?_;refine WL.nil (kr15 _ _ _ ?_);refine ⟨rfl, (i + 1, C2, cnt1 s (splitP (l.getD i 0)).cls (splitP (l.getD i 0)).neg), ?_, ?_, ?_⟩
   ·exact SLp
   ·exact ⟨by show i + 1 ≤ l.length; omega, hB2, hr2, cnt1_le hs _ _, hch⟩
   ·show l.length - (i + 1) < l.length - i; omega
  ·have hiX : i = l.length := by omega
   subst hiX;rw [List.take_length] at hr;refine CW.exit ?_;refine kh5 (Sr fun _ kh16 => zm rfl (za rfl (zz (kh16 ?_))));refine zr (zr1 rfl rfl ?_);exact ⟨⟨b, C, s, rfl, hB, hr, hs.mono hl⟩, hch⟩

end

/- Package mean: Mean. No condition. -/
section
open Go Sx Wd
set_option exponentiation.threshold 5000

def isF64 : Value → Bool
  | .float .f64 _ => true
  | _ => false
theorem NF.one {w : World} {v : Value} {l : List Nat} (h : NF w v l) : v.oneCell' = true := by
  obtain ⟨⟨a, c, rfl, _⟩, _⟩ := h; rfl
/-- A list stays where a block turns that holds no numbers. -/
theorem NF.keepBK {w w' : World} {v : Value} {l : List Nat} {b : Nat} {T : TypeId} {cs : List Value} (h : NF w v l) (hb : BK w b T cs) (hc : Chg [b] w w') (hn : ∀ c ∈ cs, isF64 c = false) : NF w' v l := by
  obtain ⟨⟨a, c, h1, h2, h3⟩, h4, h5⟩ := h
  refine ⟨⟨a, c, h1, h2, fun i u hu => ?_⟩, h4, h5⟩
  obtain ⟨ad, e, hcell⟩ := h3 i u hu
  refine ⟨ad, e, hc.cell hcell fun hm => ?_⟩
  simp only [List.mem_singleton] at hm
  have hx : isF64 u = true := by
    rw [List.getElem?_map] at hu
    cases hq : l[i]? with
    | none => rw [hq] at hu; cases hu
    | some y => rw [hq] at hu; cases hu; rfl
  have hlk := hcell
  cases had : ad.add i with
  | mk b' o' sp =>
    rw [had] at hlk hm
    simp only at hm
    subst hm
    cases sp with
    | none =>
      rw [cell_at hb] at hlk
      have := hn u (List.mem_of_getElem? hlk)
      rw [hx] at this; cases this
    | some q =>
      have : w.cell? ⟨b', o', some q⟩ = none := by simp [World.cell?, show w.heap[b']? = _ from hb]
      rw [this] at hlk; cases hlk
theorem QuotP.err {nn nd : Bool} {ln ld : Nat} {en ed mode : Int} {bits : Nat} {e : Int} (h : QuotP nn nd ln ld en ed mode bits e) : (if e = 0 then bits else 0) = bits := by
  rcases h with ⟨_, rfl, rfl⟩ | ⟨_, ⟨_, rfl, rfl⟩ | ⟨_, _, rfl, rfl⟩ | ⟨_, x, y, _, _, ⟨_, rfl, rfl⟩ | ⟨_, r, _, _, _, rfl⟩⟩⟩ <;> simp
theorem toldR.err {d : Dy} {n : Nat} {s : SP} {mode : Int} {bits : Nat} {e : Int} (h : toldR d n s mode bits e) : (if e = 0 then bits else 0) = bits := by
  rcases h with ⟨_, _, rfl⟩ | ⟨_, h⟩
  · simp
  · exact h.err
/-- What Mean answers. -/
def meanR (l : List Nat) (mode pn pi : Int) (bits : Nat) (e : Int) : Prop :=
  (¬ (0 ≤ mode ∧ mode ≤ 4) ∧ bits = 0 ∧ e = 1) ∨ ((0 ≤ mode ∧ mode ≤ 4) ∧
    ((siftE l pn pi ≠ 0 ∧ bits = 0 ∧ e = siftE l pn pi) ∨ (siftE l pn pi = 0 ∧
      ((verdP (cntP l) pn pi = some bits ∧ e = 0) ∨ (verdP (cntP l) pn pi = none ∧
        ((filP l = [] ∧ bits = 0 ∧ e = 3) ∨ (filP l ≠ [] ∧ toldR (sumD (sumI (filP l))) (filP l).length (cntP l) mode bits e)))))))
theorem filP_le (l : List Nat) : (filP l).length ≤ l.length := List.length_filter_le _ _
theorem siftE_len {l : List Nat} {pn pi : Int} (h : siftE l pn pi = 0) : l.length ≤ 65536 ∧ mayQ pn pi := by
  unfold siftE at h
  split at h
  · cases h
  · split at h
    · cases h
    · rename_i h1 h2; exact ⟨by omega, Classical.not_not.1 h1⟩
theorem sumD_ok {S : Int} (h1 : -((16384 * BB : Nat) : Int) < S) (h2 : S < (16384 * BB : Nat)) : (sumD S).ok := by
  have := sumD_eq h1 h2 (decide (S < 0))
  unfold sumD; rw [this]; exact formD_ok this

theorem Mean_spec (v : Value) (l : List Nat) (mode pn pi : Int) (w : World) (hv : NF w v l) (hg : GW w) : Ret Tryz.prog 33 [v, .int .i64 mode, .agg [.int .i64 pn, .int .i64 pi].toArray] w fun u w' => (∃ bits e, u = .tuple [.float .f64 bits, .int .i64 e].toArray ∧ meanR l mode pn pi bits e) ∧ Chg [] w w' := by
 have hch : Chg [] w w := Chg.refl _ _;have hv0 := hv;have hg0 := hg;have hov := hv.one;refine Ret.enterD 109 hasF109 Tryz.func33 rfl rfl ?_;simp only [args0, Nat.zero_add, Nat.reduceAdd];refine Sr fun _ kh1 => ?_;refine zBh rfl rfl rfl hch fun b5 wm5 hb5 hcm5 hge5 hgehch5 hch => ?_;refine WL.allocB (l := [.float .f64 0]) rfl rfl fun b6 wm6 hb6 hcm6 hge6 => ?_;have hgehch6 := Nat.le_trans hch.size hge6;have hch := hch.ta hcm6;have hneb56 := zdd hb5.lt hge6;have hb5 := hb5.k0 hcm6;refine WL.allocB (l := [.int .i64 0]) rfl rfl fun b7 wm7 hb7 hcm7 hge7 => ?_;have hgehch7 := Nat.le_trans hch.size hge7;have hch := hch.ta hcm7;have hneb57 := zdd hb5.lt hge7;have hb5 := hb5.k0 hcm7;have hneb67 := zdd hb6.lt hge7;have hb6 := hb6.k0 hcm7;refine zz (kh1 (Sr fun _ kh3 => ?_));refine WL.defer rfl ?_;refine zz (kh3 (zc fun _ kh5 => Sr fun _ kh6 => zm rfl ?_));refine WL.call hasF110 rfl rfl (right_spec mode _) fun v w1 h' => ?_;obtain ⟨rfl, rfl⟩ := h';refine WL.ev (Ev.not rfl) rfl ?_;refine zz (kh6 ?_);refine zy rfl ?_ ?_<;>intro hc1<;>try simp only [qs] at hc1
 ·have hmode : ¬ (0 ≤ mode ∧ mode ≤ 4) := by simpa using hc1
  refine Sr fun _ kh8 => ?_;refine WL.storeC rfl rfl o1 hb6 (by simp) rfl fun ws2 hb6_ hcs2 => ?_;(try simp only [Sx.splice, qt] at hb6_);have hch := hch.s1 hcs2;have hb7 := hb7.kq hcs2;have hb6 := hb6_;refine WL.storeC rfl rfl o1 hb7 (by simp) rfl fun ws3 hb7_ hcs3 => ?_;(try simp only [Sx.splice, qt] at hb7_);have hch := hch.s1 hcs3;have hb6 := hb6.kq hcs3;have hb7 := hb7_;refine zz (kh8 ?_);refine zr ?_;refine clean_door rfl rfl rfl hb6 hb7 hneb67 fun w9 hc9 => ?_;have hch := hch.step hc9 (fun y hy => by simp only [List.mem_singleton] at hy; subst hy; exact .inr (by omega));exact ⟨⟨_, _, rfl, .inl ⟨hmode, rfl, rfl⟩⟩, hch⟩
 ·have hmode : 0 ≤ mode ∧ mode ≤ 4 := by simpa using hc1
  refine zkk ?_;refine kh5 (Sr fun _ kh10 => zm rfl (zg hb5 rfl ?_));refine WL.call hasF111 rfl rfl (Sift_spec v l pn pi _ (hv0.keep0 hch)) fun v w2 h' => ?_;have hsz18 := hch.size;rcases h' with ⟨hse, rfl, hC18⟩ | ⟨hse, v2, hNf, rfl, hC18⟩
  ·have hch := hch.trans hC18;have hb6 := hb6.k0 hC18;have hb7 := hb7.k0 hC18;unfold SP.cells;refine zm rfl (zx rfl rfl (zx rfl rfl (zx rfl rfl ?_)));refine WL.allocB (l := [.int .i64 0, .int .i64 0, .int .i64 0, .int .i64 0, .int .i64 0, .int .i64 0]) rfl rfl fun b9 wm9 hb9 hcm9 hge9 => ?_;have hgehch9 := Nat.le_trans hch.size hge9;have hch := hch.ta hcm9;have hneb69 := zdd hb6.lt hge9;have hb6 := hb6.k0 hcm9;have hneb79 := zdd hb7.lt hge9;have hb7 := hb7.k0 hcm9;refine za rfl ?_;refine zss rfl rfl ao hb9 rfl fun ws4 hb9_ hcs4 => ?_;have hch := hch.s1 hcs4;have hb6 := hb6.kq hcs4;have hb7 := hb7.kq hcs4;refine WL.storeC rfl rfl o1 hb7 (by simp) rfl fun ws5 hb7_ hcs5 => ?_;(try simp only [Sx.splice, qt] at hb7_);have hch := hch.s1 hcs5;have hb6 := hb6.kq hcs5;have hb7 := hb7_;refine zz (kh10 (zc fun _ kh12 => Sr fun _ kh13 => zl hb7 rfl rfl ?_));refine WL.ev (Ev.neq rfl rfl) rfl ?_;refine zz (kh13 ?_);refine zy rfl ?_ ?_<;>intro hc2<;>try simp only [qs] at hc2
   ·refine Sr fun _ kh15 => zl hb7 rfl rfl ?_
    refine WL.storeC rfl rfl o1 hb6 (by simp) rfl fun ws6 hb6_ hcs6 => ?_;(try simp only [Sx.splice, qt] at hb6_);have hch := hch.s1 hcs6;have hb7 := hb7.kq hcs6;have hb6 := hb6_;refine WL.storeC rfl rfl o1 hb7 (by simp) rfl fun ws7 hb7_ hcs7 => ?_;(try simp only [Sx.splice, qt] at hb7_);have hch := hch.s1 hcs7;have hb6 := hb6.kq hcs7;have hb7 := hb7_;refine zz (kh15 ?_);refine zr ?_;refine clean_door rfl rfl rfl hb6 hb7 hneb67 fun w9 hc9 => ?_;have hch := hch.step hc9 (fun y hy => by simp only [List.mem_singleton] at hy; subst hy; exact .inr (by omega));refine ⟨⟨_, _, rfl, .inr ⟨hmode, .inl ⟨hse, ?_, rfl⟩⟩⟩, hch⟩;simp
   ·exact absurd hc2 hse
  ·have hch := hch.trans hC18;have hb5 := hb5.k0 hC18;have hb6 := hb6.k0 hC18;have hb7 := hb7.k0 hC18;unfold SP.cells;obtain ⟨hl65, hmay⟩ := siftE_len hse;have hfl := filP_le l;have hof := hNf.one;refine zm rfl (zx rfl rfl (zx rfl rfl (zx rfl rfl ?_)));refine WL.allocB (l := [.int .i64 0, .int .i64 0, .int .i64 0, .int .i64 0, .int .i64 0, .int .i64 0]) rfl rfl fun b9 wm9 hb9 hcm9 hge9 => ?_;have hgehch9 := Nat.le_trans hch.size hge9;have hch := hch.ta hcm9;have hNf := hNf.keep0 hcm9;have hneb59 := zdd hb5.lt hge9;have hb5 := hb5.k0 hcm9;have hneb69 := zdd hb6.lt hge9;have hb6 := hb6.k0 hcm9;have hneb79 := zdd hb7.lt hge9;have hb7 := hb7.k0 hcm9;refine za rfl ?_;refine zss rfl rfl ao hb9 rfl fun ws8 hb9_ hcs8 => ?_;(try simp only [Sx.splice, qt] at hb9_);have hch := hch.s1 hcs8;have hb5 := hb5.kq hcs8;have hb6 := hb6.kq hcs8;have hb7 := hb7.kq hcs8;have hNf := hNf.keepBK hb9 hcs8 an;have hb9 := hb9_;refine WL.storeC rfl rfl o1 hb7 (by simp) rfl fun ws9 hb7_ hcs9 => ?_;(try simp only [Sx.splice, qt] at hb7_);have hch := hch.s1 hcs9;have hb5 := hb5.kq hcs9;have hb6 := hb6.kq hcs9;have hb9 := hb9.kq hcs9;have hNf := hNf.keepBK hb7 hcs9 an;have hb7 := hb7_;refine zz (kh10 (zc fun _ kh17 => Sr fun _ kh18 => zl hb7 rfl rfl ?_));refine WL.ev (Ev.neq rfl rfl) rfl ?_;refine zz (kh18 ?_);refine CW.condF rfl ?_;refine zkk ?_;refine kh17 (zc fun _ kh20 => Sr fun _ kh21 => zg hb9 rfl (zg hb5 rfl ?_));refine WL.call hasF99 rfl rfl (Verdict_spec (cntP l) pn pi _ ((cnt_le l).mono (by omega))) fun v w3 h' => ?_;obtain ⟨rfl, hC28⟩ := h';have hch := hch.ta hC28;have hb6 := hb6.k0 hC28;have hb7 := hb7.k0 hC28;have hb9 := hb9.k0 hC28;have hNf := hNf.keep0 hC28;refine zm rfl (zx rfl rfl (zx rfl rfl (za rfl (za rfl (zz (kh21 (Sr fun _ kh23 => zm rfl (zz (kh23 ?_)))))))));refine zy rfl ?_ ?_<;>intro hc3<;>try simp only [qs] at hc3
   ·obtain ⟨vb, hvb⟩ := Option.isSome_iff_exists.1 hc3
    refine Sr fun _ kh25 => zm rfl ?_;refine WL.storeC rfl rfl o1 hb6 (by simp) rfl fun ws10 hb6_ hcs10 => ?_;(try simp only [Sx.splice, qt] at hb6_);have hch := hch.s1 hcs10;have hb7 := hb7.kq hcs10;have hb6 := hb6_;refine WL.storeC rfl rfl o1 hb7 (by simp) rfl fun ws11 hb7_ hcs11 => ?_;(try simp only [Sx.splice, qt] at hb7_);have hch := hch.s1 hcs11;have hb6 := hb6.kq hcs11;have hb7 := hb7_;refine zz (kh25 ?_);refine zr ?_;refine clean_door rfl rfl rfl hb6 hb7 hneb67 fun w9 hc9 => ?_;have hch := hch.step hc9 (fun y hy => by simp only [List.mem_singleton] at hy; subst hy; exact .inr (by omega));refine ⟨⟨_, _, rfl, .inr ⟨hmode, .inr ⟨hse, .inl ⟨?_, rfl⟩⟩⟩⟩, hch⟩;rw [hvb]; rfl
   ·have hvn : verdP (cntP l) pn pi = none := by cases q : verdP (cntP l) pn pi with | none => rfl | some z => rw [q] at hc3; cases hc3
    refine zkk ?_;refine kh20 (zc fun _ kh27 => Sr fun _ kh28 => zm rfl ?_);obtain ⟨ap, cp, rfl, hcapp, hrp⟩ := hNf.ex;refine zn rfl (zq rfl rfl (zz (kh28 ?_)));refine zy rfl ?_ ?_<;>intro hc4<;>try simp only [qs] at hc4
    ·have hnil : filP l = [] := List.length_eq_zero_iff.1 (by omega);refine Sr fun _ kh30 => ?_
     refine WL.storeC rfl rfl o1 hb6 (by simp) rfl fun ws12 hb6_ hcs12 => ?_;(try simp only [Sx.splice, qt] at hb6_);have hch := hch.s1 hcs12;have hb7 := hb7.kq hcs12;have hb6 := hb6_;refine WL.storeC rfl rfl o1 hb7 (by simp) rfl fun ws13 hb7_ hcs13 => ?_;(try simp only [Sx.splice, qt] at hb7_);have hch := hch.s1 hcs13;have hb6 := hb6.kq hcs13;have hb7 := hb7_;refine zz (kh30 ?_);refine zr ?_;refine clean_door rfl rfl rfl hb6 hb7 hneb67 fun w9 hc9 => ?_;have hch := hch.step hc9 (fun y hy => by simp only [List.mem_singleton] at hy; subst hy; exact .inr (by omega));exact ⟨⟨_, _, rfl, .inr ⟨hmode, .inr ⟨hse, .inr ⟨hvn, .inl ⟨hnil, rfl, rfl⟩⟩⟩⟩⟩, hch⟩
    ·have hnn : filP l ≠ [] := fun e => by rw [e] at hc4; exact hc4 rfl
     have hin := sumI_in (l := filP l) (by omega);have hok := sumD_ok hin.1 hin.2;refine zkk ?_;refine kh27 (zc fun _ kh32 => ?_);refine CW.regionKC 10 12 rfl hmix fun kR33 kr33 hS hdr => ?_;have hch := hch.ta hdr;have hb6 := hb6.k0 hdr;have hb7 := hb7.k0 hdr;have hb9 := hb9.k0 hdr;have hNf := hNf.keep0 hdr;have hb9_r := hb9;refine wk 0 rfl hS (fun _ _ => Ev.move rfl) (wk 3 rfl hS (fun _ _ => Ev.move rfl) (wk 4 rfl hS (fun _ _ => Ev.len rfl) (wk 5 rfl hS (fun _ hw' => Ev.loadA rfl rfl (hb9_r.keep0 hw') rfl) (wk 6 rfl hS (fun _ _ => Ev.move rfl) ?_))));refine WK.oneCall 1 rfl (by kernel_rfl) hasF113 rfl rfl (all_spec _ (filP l) _ hNf (by omega)) fun v w4 h' => ?_;obtain ⟨⟨ba, C, sa, rfl, hBa, hRa, hsa⟩, hC37⟩ := h';have hch := hch.ta hC37;have hb6 := hb6.k0 hC37;have hb7 := hb7.k0 hC37;have hS := hS.trans hC37;refine ⟨hS, ?_⟩;refine WK.oneCall 2 rfl (by kernel_rfl) hasF114 rfl rfl (Exact_spec ba C (sumI (filP l)) _ hBa hRa (hg0.keep0 hch) hin.1 hin.2) fun v w5 h' => ?_;obtain ⟨⟨rx, rfl, hNx⟩, hC38⟩ := h';have hch := hch.ta hC38;have hb6 := hb6.k0 hC38;have hb7 := hb7.k0 hC38;have hS := hS.trans hC38;refine ⟨hS, ?_⟩;refine WK.oneCall 7 rfl (by kernel_rfl) hasF112 rfl rfl (told_spec (sumD (sumI (filP l))) rx (filP l).length (cntP l) mode _ hNx hok (by omega) ((cnt_le l).mono (by omega)) (hg0.keep0 hch)) fun v w6 h' => ?_;obtain ⟨⟨bits, e, rfl, hT⟩, hC43⟩ := h';have hch := hch.ta hC43;have hb6 := hb6.k0 hC43;have hb7 := hb7.k0 hC43;have hS := hS.trans hC43;refine ⟨hS, ?_⟩;refine wk 8 rfl hS (fun _ _ => Ev.extract rfl rfl) (wk 9 rfl hS (fun _ _ => Ev.extract rfl rfl) ?_);refine WK.storeC 10 rfl (by kernel_rfl) (by kernel_rfl) rfl rfl o1 hb6 (by simp) rfl fun ws14 hb6_ hcs14 => ?_;(try simp only [Sx.splice, qt] at hb6_);have hch := hch.s1 hcs14;have hb7 := hb7.kq hcs14;have hb6 := hb6_;refine WK.storeC 11 rfl (by kernel_rfl) (by kernel_rfl) rfl rfl o1 hb7 (by simp) rfl fun ws15 hb7_ hcs15 => ?_;(try simp only [Sx.splice, qt] at hb7_);have hch := hch.s1 hcs15;have hb6 := hb6.kq hcs15;have hb7 := hb7_;refine WK.done (by kernel_rfl) (kr33 _ _ _ ?_);refine kh32 ?_;refine zr ?_;refine clean_door rfl rfl rfl hb6 hb7 hneb67 fun w9 hc9 => ?_;have hch := hch.step hc9 (fun y hy => by simp only [List.mem_singleton] at hy; subst hy; exact .inr (by omega));refine ⟨⟨_, _, rfl, .inr ⟨hmode, .inr ⟨hse, .inr ⟨hvn, .inr ⟨hnn, ?_⟩⟩⟩⟩⟩, hch⟩;rw [hT.err]; exact hT

end

/- Numbers of 64 bits as plain numbers: which are NaN, their order. No condition. -/
namespace Fl
open Go

def isNaN (b : Nat) : Bool := decide (9218868437227405312 < b % 9223372036854775808)
def canon (b : Nat) : Nat := if isNaN b then 9221120237041090560 else b
/-- The program's key. -/
def key (b : Nat) : Int := if isNaN b then 9223372036854775807 else if 9223372036854775808 ≤ b then -1 - ((b : Int) - 9223372036854775808) else b
/-- The reference's place. -/
def place (b : Nat) : Int := if 9223372036854775808 ≤ canon b then -1 - ((canon b : Int) - 9223372036854775808) else canon b
def cmpI (a b : Int) : Int := if a < b then -1 else if b < a then 1 else 0

theorem double_sign : Ieee.double.signWeight = 9223372036854775808 := by decide
theorem double_inf : Ieee.double.infRung = 9218868437227405312 := by decide
theorem double_bin : Ieee.double.binade = 4503599627370496 := by decide

theorem cmp_self (x : Int) : compare x x = .eq := by simp
theorem cmpN_self (x : Nat) : compare x x = .eq := by simp
theorem order_self (b : Nat) : (FloatKind.f64.format.order b b != some .eq) = isNaN b := by
  show ((Ieee.double.read b).order (Ieee.double.read b) != some .eq) = isNaN b
  unfold Ieee.Format.read isNaN
  simp only [double_sign, double_inf, double_bin]
  split
  · rename_i h
    have h2 : decide (9218868437227405312 < b % 9223372036854775808) = false := by simp; omega
    rw [h2]
    simp [Ieee.Datum.order, cmp_self]
  · split
    · rename_i h h'
      have h2 : decide (9218868437227405312 < b % 9223372036854775808) = false := by simp; omega
      rw [h2]
      simp [Ieee.Datum.order, cmp_self]
    · split
      · rename_i h h' h3
        have h2 : decide (9218868437227405312 < b % 9223372036854775808) = false := by simp; omega
        rw [h2]
        simp [Ieee.Datum.order, cmpN_self]
      · rename_i h h' h3
        have h2 : decide (9218868437227405312 < b % 9223372036854775808) = true := by simp; omega
        rw [h2]
        simp [Ieee.Datum.order]
theorem order_self_eq (b : Nat) : (FloatKind.f64.format.order b b == some .eq) = !isNaN b := by
  rw [← order_self b]; simp [bne]

theorem cmp_eq (x y : Int) : (some (compare x y) == some Ordering.eq) = decide (x = y) := by
  rw [Bool.eq_iff_iff]; simp
theorem canon_lt {b : Nat} (h : b < 18446744073709551616) : canon b < 18446744073709551616 := by
  unfold canon; split <;> omega

theorem key_pos_eq {b : Nat} (hn : isNaN b = false) (h : b < 9223372036854775808) : key b = b := by
  unfold key; rw [hn]; simp; omega
theorem key_neg_eq {b : Nat} (hn : isNaN b = false) (h : 9223372036854775808 ≤ b) : key b = -1 - ((b : Int) - 9223372036854775808) := by
  unfold key; rw [hn]; simp; omega
end Fl

/- Numbers as the machine's: a number less itself; which are finite. No condition. -/
section
open Go Sx Wd

theorem cls_le2 (x : Nat) : (splitP x).cls ≤ 2 ↔ x % 9223372036854775808 < 9218868437227405312 := by
  have e : x % 9223372036854775808 < 9218868437227405312 ↔ x / 4503599627370496 % 2048 ≠ 2047 := by omega
  rw [e]
  unfold splitP
  split
  · rename_i h; simp; exact h.1
  · split
    · rename_i h1 h; simp; exact h
    · split
      · rename_i h2 h1 h; simp; exact h1
      · split
        · rename_i h2 h1 h; simp; exact h2
        · rename_i h2 h1 h; simp; exact h2
section
variable {P : Program} {n : Nat} {D : List Deferred} {s : Sl} {w : World} {ops : Array Oper} {K : KK} {rest : List Oper} {ty : TypeId} {pos : String} {af : Array Edge} {d : Nat} {x y : Operand}
end
end

/- Package mean: finite. No condition. -/
section
open Go Sx Wd
set_option exponentiation.threshold 5000

def finL (l : List Nat) : Prop := ∀ x ∈ l, (splitP x).cls ≤ 2
instance (l : List Nat) : Decidable (finL l) := by unfold finL; exact inferInstance
theorem finL_step {l : List Nat} {i : Nat} (h : i < l.length) : finL (l.take (i + 1)) ↔ finL (l.take i) ∧ (splitP (l.getD i 0)).cls ≤ 2 := by
  rw [take_step h]
  unfold finL
  constructor
  · intro hh; exact ⟨fun x hx => hh x (List.mem_append_left _ hx), hh _ (by simp)⟩
  · rintro ⟨h1, h2⟩ x hx
    rcases List.mem_append.1 hx with q | q
    · exact h1 x q
    · simp at q; rw [q]; exact h2
end

/- Package mean: Weighted. No condition. -/
section
open Go Sx Wd
set_option exponentiation.threshold 5000

theorem sumD_form {S : Int} (h1 : -((16384 * BB : Nat) : Int) < S) (h2 : S < (16384 * BB : Nat)) (h0 : S ≠ 0) : sumD S = ⟨decide (S < 0), S.natAbs / 2 ^ tz S.natAbs, -2148 + tz S.natAbs⟩ := by
  unfold sumD
  rw [sumD_eq h1 h2, if_neg h0]; rfl
theorem sumD_m0 {S : Int} (h1 : -((16384 * BB : Nat) : Int) < S) (h2 : S < (16384 * BB : Nat)) : (sumD S).m = 0 ↔ S = 0 := by
  constructor
  · intro h
    apply Classical.byContradiction
    intro h0
    rw [sumD_form h1 h2 h0] at h
    have := (tz_spec (n := S.natAbs) (by omega)).1
    simp only at h
    rw [h] at this; cases this
  · intro h; rw [h]; rfl
end

/- Package mean: Middle, Of. No condition. -/
section
open Go Sx Wd
set_option exponentiation.threshold 5000

theorem NF.of_row {w : World} {a : Option Addr} {l : List Nat} {k c : Nat} (h : RW w a (l.map f64v)) (hw : ∀ x ∈ l, x < 18446744073709551616) (hl : l.length ≤ 70368744177664) (hk : k = l.length) (hc : k ≤ c) : NF w (.slice a k c) l := by
  subst hk
  exact ⟨⟨a, c, rfl, hc, h⟩, hw, hl⟩
theorem meanR.err {l : List Nat} {mode pn pi : Int} {bits : Nat} {e : Int} (h : meanR l mode pn pi bits e) : (if e = 0 then bits else 0) = bits := by
  rcases h with ⟨_, rfl, rfl⟩ | ⟨_, ⟨_, rfl, rfl⟩ | ⟨_, ⟨_, rfl⟩ | ⟨_, ⟨_, rfl, rfl⟩ | ⟨_, h⟩⟩⟩⟩
  · simp
  · simp
  · simp
  · simp
  · exact h.err
/-- What Middle answers. -/
def midR (x y : Nat) (mode : Int) (bits : Nat) (e : Int) : Prop :=
  (¬ (0 ≤ mode ∧ mode ≤ 4) ∧ bits = 0 ∧ e = 1) ∨ ((0 ≤ mode ∧ mode ≤ 4) ∧
    ((¬ ((splitP x).cls ≤ 2 ∧ (splitP y).cls ≤ 2) ∧ bits = 0 ∧ e = 30) ∨ (((splitP x).cls ≤ 2 ∧ (splitP y).cls ≤ 2) ∧ meanR [x, y] mode 0 0 bits e)))
theorem Middle_spec (x y : Nat) (mode : Int) (w : World) (hx : x < 18446744073709551616) (hy : y < 18446744073709551616) (hg : GW w) : Ret Tryz.prog 133 [.float .f64 x, .float .f64 y, .int .i64 mode] w fun u w' => (∃ bits e, u = .tuple [.float .f64 bits, .int .i64 e].toArray ∧ midR x y mode bits e) ∧ Chg [] w w' := by
 have hch : Chg [] w w := Chg.refl _ _;have hg0 := hg;refine Ret.enterD 109 hasF109 Tryz.func133 rfl rfl ?_;simp only [args0, Nat.zero_add, Nat.reduceAdd];refine Sr fun _ kh1 => ?_;refine WL.allocB (l := [.float .f64 0]) rfl rfl fun b6 wm6 hb6 hcm6 hge6 => ?_;have hgehch6 := Nat.le_trans hch.size hge6;have hch := hch.ta hcm6;refine WL.allocB (l := [.int .i64 0]) rfl rfl fun b7 wm7 hb7 hcm7 hge7 => ?_;have hgehch7 := Nat.le_trans hch.size hge7;have hch := hch.ta hcm7;have hneb67 := zdd hb6.lt hge7;have hb6 := hb6.k0 hcm7;refine zz (kh1 (Sr fun _ kh3 => ?_));refine WL.defer rfl ?_;refine zz (kh3 (zc fun _ kh5 => Sr fun _ kh6 => zm rfl ?_));refine WL.call hasF110 rfl rfl (right_spec mode _) fun v w1 h' => ?_;obtain ⟨rfl, rfl⟩ := h';refine WL.ev (Ev.not rfl) rfl ?_;refine zz (kh6 ?_);refine zy rfl ?_ ?_<;>intro hc1<;>try simp only [qs] at hc1
 ·have hmode : ¬ (0 ≤ mode ∧ mode ≤ 4) := by simpa using hc1
  refine Sr fun _ kh8 => ?_;refine WL.storeC rfl rfl o1 hb6 (by simp) rfl fun ws35 hb6_ hcs35 => ?_;(try simp only [Sx.splice, qt] at hb6_);have hch := hch.s1 hcs35;have hb7 := hb7.kq hcs35;have hb6 := hb6_;refine WL.storeC rfl rfl o1 hb7 (by simp) rfl fun ws36 hb7_ hcs36 => ?_;(try simp only [Sx.splice, qt] at hb7_);have hch := hch.s1 hcs36;have hb6 := hb6.kq hcs36;have hb7 := hb7_;refine zz (kh8 ?_);refine zr ?_;refine clean_door rfl rfl rfl hb6 hb7 hneb67 fun w9 hc9 => ?_;have hch := hch.step hc9 (fun y hy => by simp only [List.mem_singleton] at hy; subst hy; exact .inr (by omega));exact ⟨⟨_, _, rfl, .inl ⟨hmode, rfl, rfl⟩⟩, hch⟩
 ·have hmode : 0 ≤ mode ∧ mode ≤ 4 := by simpa using hc1
  refine zkk ?_;refine kh5 (zc fun _ kh10 => Sr fun _ kh11 => zm rfl ?_);refine WL.call hasF130 rfl rfl (Class_spec x _ hx) fun v w2 h' => ?_;obtain ⟨rfl, hC12⟩ := h';have hch := hch.ta hC12;have hb6 := hb6.k0 hC12;have hb7 := hb7.k0 hC12;refine WL.ev (Ev.gtr rfl rfl) rfl ?_;refine zm rfl ?_;refine zb ?_ ?_<;>intro hg2<;>try simp only [qs] at hg2
  ·have h1 : 2 < (splitP x).cls := by have := hg2; omega
   refine zv rfl (zv rfl (zv rfl (zt rfl rfl (zz (kh11 ?_)))));refine CW.condT rfl ?_;refine Sr fun _ kh13 => ?_;refine WL.storeC rfl rfl o1 hb6 (by simp) rfl fun ws37 hb6_ hcs37 => ?_;(try simp only [Sx.splice, qt] at hb6_);have hch := hch.s1 hcs37;have hb7 := hb7.kq hcs37;have hb6 := hb6_;refine WL.storeC rfl rfl o1 hb7 (by simp) rfl fun ws38 hb7_ hcs38 => ?_;(try simp only [Sx.splice, qt] at hb7_);have hch := hch.s1 hcs38;have hb6 := hb6.kq hcs38;have hb7 := hb7_;refine zz (kh13 ?_);refine zr ?_;refine clean_door rfl rfl rfl hb6 hb7 hneb67 fun w9 hc9 => ?_;have hch := hch.step hc9 (fun y hy => by simp only [List.mem_singleton] at hy; subst hy; exact .inr (by omega));exact ⟨⟨_, _, rfl, .inr ⟨hmode, .inl ⟨fun h => by have := h.1; omega, rfl, rfl⟩⟩⟩, hch⟩
  ·have h1 : (splitP x).cls ≤ 2 := by have := hg2; omega
   refine zw rfl (zm rfl (zw rfl ?_));refine WL.call hasF130 rfl rfl (Class_spec y _ hy) fun v w3 h' => ?_;obtain ⟨rfl, hC16⟩ := h';have hch := hch.ta hC16;have hb6 := hb6.k0 hC16;have hb7 := hb7.k0 hC16;refine zw rfl ?_;refine WL.ev (Ev.gtr rfl rfl) rfl ?_;refine ze rfl rfl (zz (kh11 ?_));refine zy rfl ?_ ?_<;>intro hc3<;>try simp only [qs] at hc3
   ·have h2 : 2 < (splitP y).cls := by have := hc3; omega
    refine Sr fun _ kh15 => ?_;refine WL.storeC rfl rfl o1 hb6 (by simp) rfl fun ws39 hb6_ hcs39 => ?_;(try simp only [Sx.splice, qt] at hb6_);have hch := hch.s1 hcs39;have hb7 := hb7.kq hcs39;have hb6 := hb6_;refine WL.storeC rfl rfl o1 hb7 (by simp) rfl fun ws40 hb7_ hcs40 => ?_;(try simp only [Sx.splice, qt] at hb7_);have hch := hch.s1 hcs40;have hb6 := hb6.kq hcs40;have hb7 := hb7_;refine zz (kh15 ?_);refine zr ?_;refine clean_door rfl rfl rfl hb6 hb7 hneb67 fun w9 hc9 => ?_;have hch := hch.step hc9 (fun y hy => by simp only [List.mem_singleton] at hy; subst hy; exact .inr (by omega));exact ⟨⟨_, _, rfl, .inr ⟨hmode, .inl ⟨fun h => by have := h.2; omega, rfl, rfl⟩⟩⟩, hch⟩
   ·have h2 : (splitP y).cls ≤ 2 := by have := hc3; omega
    refine zkk ?_;refine kh10 (Sr fun _ kh17 => zm rfl (zm rfl ?_));refine WL.buildSlice (m := 2) (cs := [f64v (x), f64v (y)]) (by decide) (by decide) rfl (by kernel_rfl) rfl fun b21 w21 hn21 => ?_;have hcm21 := hn21.chg;have hge21 := hn21.ge;have hb21 : FB w21 b21 _ [x, y] := hn21.at_;have hgehch21 := Nat.le_trans hch.size hge21;have hch := hch.ta hcm21;have hneb621 := zdd hb6.lt hge21;have hb6 := hb6.k0 hcm21;have hneb721 := zdd hb7.lt hge21;have hb7 := hb7.k0 hcm21;refine zm rfl ?_;refine WL.call hasF153 rfl rfl (Plain_spec _) fun v w4 h' => ?_;obtain ⟨rfl, hC23⟩ := h';have hch := hch.ta hC23;have hb6 := hb6.k0 hC23;have hb7 := hb7.k0 hC23;have hb21 := hb21.k0 hC23;refine WL.call hasF33 rfl rfl (Mean_spec _ [x, y] mode 0 0 _ (NF.of_row hb21.row (by intro z hz; simp at hz; rcases hz with rfl | rfl <;> assumption) (by simp) rfl (by simp)) (hg0.keep0 hch)) fun v w5 h' => ?_;obtain ⟨⟨bits, e, rfl, hM⟩, hC24⟩ := h';have hch := hch.ta hC24;have hb6 := hb6.k0 hC24;have hb7 := hb7.k0 hC24;refine zx rfl rfl (zx rfl rfl ?_);refine WL.storeC rfl rfl o1 hb6 (by simp) rfl fun ws41 hb6_ hcs41 => ?_;(try simp only [Sx.splice, qt] at hb6_);have hch := hch.s1 hcs41;have hb7 := hb7.kq hcs41;have hb6 := hb6_;refine WL.storeC rfl rfl o1 hb7 (by simp) rfl fun ws42 hb7_ hcs42 => ?_;(try simp only [Sx.splice, qt] at hb7_);have hch := hch.s1 hcs42;have hb6 := hb6.kq hcs42;have hb7 := hb7_;refine zz (kh17 ?_);refine zr ?_;refine clean_door rfl rfl rfl hb6 hb7 hneb67 fun w9 hc9 => ?_;have hch := hch.step hc9 (fun y hy => by simp only [List.mem_singleton] at hy; subst hy; exact .inr (by omega));refine ⟨⟨_, _, rfl, .inr ⟨hmode, .inr ⟨⟨h1, h2⟩, ?_⟩⟩⟩, hch⟩;rw [hM.err]; exact hM

end

/- Means as plain numbers: what told and Weighted come to; the values that the statements ask. No condition. -/
section
open Go Sx Wd
set_option exponentiation.threshold 9000

theorem sgD_one (n : Nat) (neg : Bool) (h : n ≠ 0) (hn : neg = false) : sgD neg n = 1 := by unfold sgD; rw [if_neg h, hn]; rfl
theorem intD_form {n : Nat} (h0 : n ≠ 0) (hn : n < 18446744073709551616) : ∃ t : Nat, n = (intD (n : Int)).m * 2 ^ t ∧ (intD (n : Int)).e = t ∧ (intD (n : Int)).neg = false := by
  have h := intD_eq (n := (n : Int)) (by omega)
  rw [show decide ((n : Int) < 0) = false from decide_eq_false (by omega), Int.natAbs_natCast] at h
  obtain ⟨t, h1, h2, h3⟩ := formD_val h h0
  exact ⟨t, h1, by omega, h3⟩
/-- The exact sum S (in units of 2^-2148) through n, rounded. -/
def MeanQ (S : Int) (n : Nat) (mode : Int) (bits : Nat) : Prop :=
  ∃ r, IsNear S.natAbs (n * 2 ^ 1073) (decide (S < 0)) mode r ∧ r ≤ 9218868437227405312 ∧ bits = (if S < 0 then r + 9223372036854775808 else r)
/-- A ratio of forms by what they were made of. -/
theorem near_forms {x y : Nat} {ex ey : Int} {s t : Nat} {A B : Nat} {neg : Bool} {mode : Int} {r : Nat} {u v : Nat} (hy : y ≠ 0) (hA : A = x * 2 ^ s * 2 ^ u) (hB : B = y * 2 ^ t * 2 ^ v) (he : ex - ey + 1075 + (t : Int) + (v : Int) = (s : Int) + (u : Int)) :
    IsNear (dyA x (ex - ey)) (y * dyB (ex - ey)) neg mode r ↔ IsNear A B neg mode r := by
  have hB0 : 0 < B := by rw [hB]; exact Nat.mul_pos (Nat.mul_pos (by omega) (Nat.two_pow_pos _)) (Nat.two_pow_pos _)
  have hD0 : 0 < y * dyB (ex - ey) := Nat.mul_pos (by omega) (dyB_pos _)
  have hv : dyA x (ex - ey) * B = A * (y * dyB (ex - ey)) := by
    rw [hA, hB]
    unfold dyA dyB
    have e : (ex - ey + 1075).toNat + t + v = s + u + (-(ex - ey + 1075)).toNat := by omega
    calc x * 2 ^ (ex - ey + 1075).toNat * (y * 2 ^ t * 2 ^ v) = x * y * (2 ^ (ex - ey + 1075).toNat * 2 ^ t * 2 ^ v) := by ac_rfl
      _ = x * y * (2 ^ s * 2 ^ u * 2 ^ (-(ex - ey + 1075)).toNat) := by rw [← Nat.pow_add, ← Nat.pow_add, e, Nat.pow_add, Nat.pow_add]
      _ = _ := by ac_rfl
  exact ⟨fun h => h.congr hD0 hB0 hv, fun h => h.congr hB0 hD0 hv.symm⟩
theorem quot_sum {S : Int} {n : Nat} {mode : Int} {bits : Nat} {e : Int} (h1 : -((16384 * BB : Nat) : Int) < S) (h2 : S < (16384 * BB : Nat)) (hS : S ≠ 0) (hn : n ≠ 0) (hn2 : n ≤ 1099511627776) (hm : 0 ≤ mode ∧ mode ≤ 4)
    (h : QuotP (sumD S).neg (intD n).neg (sumD S).m (intD n).m (sumD S).e (intD n).e mode bits e) : e = 0 ∧ MeanQ S n mode bits := by
  have hokS := sumD_ok h1 h2
  have hokN := intD_ok (n := (n : Int)) (by omega)
  obtain ⟨t, q1, q2, q3⟩ := intD_form hn (by omega)
  have hm0 : (intD (n : Int)).m ≠ 0 := fun e => by rw [e, Nat.zero_mul] at q1; exact hn q1
  have hsg := sgD_one (intD (n : Int)).m (intD (n : Int)).neg hm0 q3
  have hf1 := formD_self hokS
  have hf2 := formD_self hokN
  have hform := sumD_form h1 h2 hS
  have htz := (tz_spec (n := S.natAbs) (by omega)).2
  rcases h with ⟨hh, _⟩ | ⟨_, ⟨hh, _⟩ | ⟨_, hh, _⟩ | ⟨_, x, y, hx, hy, ⟨hh, _⟩ | ⟨hy0, r, hN, hr, hb, he⟩⟩⟩
  · exact absurd hm hh
  · rw [hsg] at hh; exact absurd hh (by decide)
  · rw [hf1, hf2] at hh; rcases hh with hh | hh <;> cases hh
  · rw [hf2] at hy; cases hy; exact absurd hh hm0
  · rw [hf1] at hx; cases hx
    rw [hf2] at hy; cases hy
    have hneg : (sumD S).neg = decide (S < 0) := by rw [hform]
    have hmS : S.natAbs = (sumD S).m * 2 ^ tz S.natAbs := by rw [hform]; exact htz
    have heS : (sumD S).e = -2148 + tz S.natAbs := by rw [hform]
    rw [hneg] at hN hb
    refine ⟨he, r, (near_forms (s := tz S.natAbs) (t := t) (u := 0) (v := 1073) hy0 (A := S.natAbs) (B := n * 2 ^ 1073) (by rw [Nat.pow_zero, Nat.mul_one]; exact hmS) (by rw [← q1]) (by omega)).1 hN, hr, ?_⟩
    rw [hb]
    by_cases q : S < 0
    · simp [q]
    · simp [q]
/-- What told answers of a sum. -/
theorem told_sum {S : Int} {n : Nat} {s : SP} {mode : Int} {bits : Nat} {e : Int} (h1 : -((16384 * BB : Nat) : Int) < S) (h2 : S < (16384 * BB : Nat)) (hn : n ≠ 0) (hn2 : n ≤ 1099511627776) (hm : 0 ≤ mode ∧ mode ≤ 4)
    (h : toldR (sumD S) n s mode bits e) : e = 0 ∧ ((S = 0 ∧ bits = noughtP s mode) ∨ (S ≠ 0 ∧ MeanQ S n mode bits)) := by
  rcases h with ⟨hz, hb, he⟩ | ⟨hz, hq⟩
  · exact ⟨he, .inl ⟨(sumD_m0 h1 h2).1 hz, hb⟩⟩
  · have hS : S ≠ 0 := fun e => hz ((sumD_m0 h1 h2).2 e)
    obtain ⟨he, hM⟩ := quot_sum h1 h2 hS hn hn2 hm hq
    exact ⟨he, .inr ⟨hS, hM⟩⟩
/-- Mean of a list of finite numbers. -/
theorem mean_fin {l : List Nat} {mode pn pi : Int} {bits : Nat} {e : Int} (h : meanR l mode pn pi bits e) (hm : 0 ≤ mode ∧ mode ≤ 4) (hs : siftE l pn pi = 0) (hv : verdP (cntP l) pn pi = none) (hf : filP l ≠ []) :
    e = 0 ∧ ((sumI (filP l) = 0 ∧ bits = noughtP (cntP l) mode) ∨ (sumI (filP l) ≠ 0 ∧ MeanQ (sumI (filP l)) (filP l).length mode bits)) := by
  have hl := (siftE_len hs).1
  have hfl := filP_le l
  have hin := sumI_in (l := filP l) (by omega)
  rcases h with ⟨hh, _⟩ | ⟨_, ⟨hh, _⟩ | ⟨_, ⟨hh, _⟩ | ⟨_, ⟨hh, _⟩ | ⟨_, hT⟩⟩⟩⟩
  · exact absurd hm hh
  · exact absurd hs hh
  · rw [hv] at hh; cases hh
  · exact absurd hh hf
  · exact told_sum hin.1 hin.2 (fun e => hf (List.length_eq_zero_iff.1 e)) (by omega) hm hT
/-- A value that is the number r. -/
theorem near_is {A B : Nat} {neg : Bool} {mode : Int} {r : Nat} (hr : r < 9218868437227405312) (hB : 0 < B) (h : 2 * nz r * B = A) : IsNear A B neg mode r :=
  ⟨r, hr, Nat.le_of_eq h, .inl (by have := nz_lt_succ r; rw [← h]; exact Nat.mul_lt_mul_of_pos_right (by omega) hB), by rw [if_pos h]⟩
end

/- The order of finite numbers, by their values; the least and the greatest of two. No condition. -/
section
open Go Sx Wd
set_option exponentiation.threshold 9000
set_option maxRecDepth 4000

theorem signed_val (s : Bool) (m k : Nat) : Ieee.signed s m k = if s then -((m * 2 ^ k : Nat) : Int) else ((m * 2 ^ k : Nat) : Int) := by
  unfold Ieee.signed
  rw [Nat.shiftLeft_eq]
theorem splitP_small {x : Nat} (h1 : x % 9223372036854775808 < 4503599627370496) : splitP x = if 0 < x % 4503599627370496 then ⟨decide (x / 9223372036854775808 % 2 = 1), 1, -1074, x % 4503599627370496⟩ else ⟨decide (x / 9223372036854775808 % 2 = 1), 0, -1074, 0⟩ := by
  have e : x / 4503599627370496 % 2048 = 0 := by omega
  unfold splitP
  rw [e, if_neg (fun hh => absurd hh.1 (by decide)), if_neg (by decide), if_neg (by decide)]
theorem splitP_norm {x : Nat} (h1 : ¬ x % 9223372036854775808 < 4503599627370496) (h2 : x % 9223372036854775808 < 9218868437227405312) : splitP x = ⟨decide (x / 9223372036854775808 % 2 = 1), 2, -1074 + ((x / 4503599627370496 % 2048 : Nat) : Int) - 1, x % 4503599627370496 + 4503599627370496⟩ := by
  have e : x / 4503599627370496 % 2048 ≠ 2047 := by omega
  have e2 : 0 < x / 4503599627370496 % 2048 := by omega
  unfold splitP
  rw [if_neg (fun hh => e hh.1), if_neg e, if_pos e2]
theorem read_fin {x : Nat} (h : (splitP x).cls ≤ 2) : ∃ (m p : Nat), Ieee.double.read x = .number (x / 9223372036854775808 % 2 == 1) m ((p : Int) - 1074) ∧ fvN x = m * 2 ^ (p + 1074) ∧ nz (x % 9223372036854775808) = m * 2 ^ p ∧ (splitP x).neg = decide (x / 9223372036854775808 % 2 = 1) := by
  have hr := (cls_le2 x).1 h
  have hlp : Ieee.double.leastPlace = -1074 := by decide
  unfold Ieee.Format.read
  simp only [Fl.double_sign, Fl.double_inf, Fl.double_bin, hlp]
  by_cases h1 : x % 9223372036854775808 < 4503599627370496
  · rw [if_pos h1]
    have hs := splitP_small h1
    refine ⟨x % 9223372036854775808, 0, rfl, ?_, ?_, ?_⟩
    · unfold fvN
      rw [hs]
      by_cases h2 : 0 < x % 4503599627370496
      · rw [if_pos h2]
        dsimp only
        rw [if_pos (.inl rfl), show x % 9223372036854775808 = x % 4503599627370496 by omega]
        rfl
      · rw [if_neg h2]
        dsimp only
        rw [if_neg (by decide), show x % 9223372036854775808 = 0 by omega, Nat.zero_mul]
    · unfold nz; rw [if_pos h1]; simp
    · rw [hs]; split <;> rfl
  · rw [if_neg h1, if_pos hr]
    have hs := splitP_norm h1 hr
    refine ⟨4503599627370496 + x % 9223372036854775808 % 4503599627370496, x % 9223372036854775808 / 4503599627370496 - 1, ?_, ?_, ?_, ?_⟩
    · rw [show (-1074 : Int) + ((x % 9223372036854775808 / 4503599627370496 - 1 : Nat) : Int) = ((x % 9223372036854775808 / 4503599627370496 - 1 : Nat) : Int) - 1074 by omega]
    · unfold fvN
      rw [hs]
      dsimp only
      rw [if_pos (.inr rfl), show x % 4503599627370496 + 4503599627370496 = 4503599627370496 + x % 9223372036854775808 % 4503599627370496 by omega, show (-1074 + ((x / 4503599627370496 % 2048 : Nat) : Int) - 1 + 2148).toNat = x % 9223372036854775808 / 4503599627370496 - 1 + 1074 by omega]
    · unfold nz; rw [if_neg h1]
    · rw [hs]
theorem fvN_nz {x : Nat} (h : (splitP x).cls ≤ 2) : fvN x = nz (x % 9223372036854775808) * 2 ^ 1074 := by
  obtain ⟨m, p, _, h2, h3, _⟩ := read_fin h
  rw [h2, h3, Nat.pow_add, Nat.mul_assoc]
theorem fvI_nz {x : Nat} (h : (splitP x).cls ≤ 2) (hx : x < 18446744073709551616) : fvI x = if 9223372036854775808 ≤ x then -((nz (x % 9223372036854775808) * 2 ^ 1074 : Nat) : Int) else ((nz (x % 9223372036854775808) * 2 ^ 1074 : Nat) : Int) := by
  obtain ⟨m, p, _, _, _, h4⟩ := read_fin h
  unfold fvI
  rw [h4, fvN_nz h]
  by_cases q : 9223372036854775808 ≤ x
  · rw [if_pos (by simp; omega), if_pos q]
  · rw [if_neg (by simp; omega), if_neg q]
theorem cmp_scale {a b c : Int} (hc : 0 < c) : compare (a * c) (b * c) = compare a b := by
  show compareOfLessAndEq (a * c) (b * c) = compareOfLessAndEq a b
  unfold compareOfLessAndEq
  have h1 : a * c < b * c ↔ a < b := Int.mul_lt_mul_right hc
  have h2 : a * c = b * c ↔ a = b := ⟨fun h => Int.eq_of_mul_eq_mul_right (by omega) h, fun h => by rw [h]⟩
  by_cases q : a < b
  · rw [if_pos q, if_pos (h1.2 q)]
  · rw [if_neg q, if_neg (fun hh => q (h1.1 hh))]
    by_cases q2 : a = b
    · rw [if_pos q2, if_pos (h2.2 q2)]
    · rw [if_neg q2, if_neg (fun hh => q2 (h2.1 hh))]
theorem order_fin {x y : Nat} (hx : (splitP x).cls ≤ 2) (hy : (splitP y).cls ≤ 2) : FloatKind.f64.format.order x y = some (compare (fvI x) (fvI y)) := by
  obtain ⟨m, p, h1, h2, _, h4⟩ := read_fin hx
  obtain ⟨n, q, k1, k2, _, k4⟩ := read_fin hy
  show (Ieee.double.read x).order (Ieee.double.read y) = _
  rw [h1, k1]
  unfold Ieee.Datum.order
  dsimp only
  obtain ⟨b, hb⟩ : ∃ b : Nat, b = min p q := ⟨_, rfl⟩
  have e1 : ((p : Int) - 1074 - min ((p : Int) - 1074) ((q : Int) - 1074)).toNat = p - b := by omega
  have e2 : ((q : Int) - 1074 - min ((p : Int) - 1074) ((q : Int) - 1074)).toNat = q - b := by omega
  rw [e1, e2]
  have hc : (0 : Int) < ((2 ^ (b + 1074) : Nat) : Int) := by have := Nat.two_pow_pos (b + 1074); omega
  rw [← cmp_scale (a := Ieee.signed _ m _) (b := Ieee.signed _ n _) hc]
  have key : ∀ (s : Bool) (m p : Nat), b ≤ p → Ieee.signed s m (p - b) * ((2 ^ (b + 1074) : Nat) : Int) = if s = true then -((m * 2 ^ (p + 1074) : Nat) : Int) else ((m * 2 ^ (p + 1074) : Nat) : Int) := by
    intro s m p hbp
    have e : m * 2 ^ (p + 1074) = m * 2 ^ (p - b) * 2 ^ (b + 1074) := by
      rw [Nat.mul_assoc, ← Nat.pow_add]; congr 2; omega
    rw [signed_val, e]
    cases s
    · simp only [Bool.false_eq_true, if_false]; rw [← Int.natCast_mul]
    · simp only [if_true]; rw [Int.neg_mul, ← Int.natCast_mul]
  rw [key _ _ _ (by omega), key _ _ _ (by omega)]
  unfold fvI
  rw [h2, k2, h4, k4]
  have e5 : ∀ z : Nat, ((z / 9223372036854775808 % 2 == 1) = true) ↔ (decide (z / 9223372036854775808 % 2 = 1) = true) := fun z => by simp
  simp only [e5]
theorem icmp (a b : Int) : compare a b = if a < b then .lt else if a = b then .eq else .gt := rfl
theorem icmp_lt (a b : Int) : compare a b = .lt ↔ a < b := by
  rw [icmp]
  by_cases q : a < b
  · simp [q]
  · by_cases q2 : a = b <;> simp [q, q2]
theorem fcmp_lt (a b : Int) : (some (compare a b) == some Ordering.lt) = decide (a < b) := by
  rw [Bool.eq_iff_iff]; simp [icmp_lt]
theorem fcmp_le (a b : Int) : (some (compare a b) == some Ordering.lt || some (compare a b) == some Ordering.eq) = decide (a ≤ b) := by
  rw [fcmp_lt, Fl.cmp_eq, Bool.eq_iff_iff]; simp; omega
section
variable {P : Program} {s : Sl} {w : World} {ty : TypeId} {x y : Operand} {t t' : TypeId} {a b : Nat}
theorem Ev.fleq (hx : opnd s x = some (.float .f64 a)) (hy : opnd s y = some (.float .f64 b)) : Ev P s (.binOp .leq t x y t') ty w (.bool (FloatKind.f64.format.order a b == some .lt || FloatKind.f64.format.order a b == some .eq)) w :=
  run_bin hx hy (fun _ _ => eqGuard_float _ _ _ _ _ _ _ _) (by simp [binOp, Op.floatCmp])
end
end

/- Means of finite numbers: from the least to the greatest; of like numbers; signs turned. No condition. -/
section
open Go Sx Wd
set_option exponentiation.threshold 9000

theorem near_ge {A B : Nat} {neg : Bool} {mode : Int} {r k0 : Nat} (h : IsNear A B neg mode r) (hB : 0 < B) (hk : k0 < 9218868437227405312) (hle : 2 * nz k0 * B ≤ A) : k0 ≤ r := by
  obtain ⟨k, h1, h2, h3, rfl⟩ := h
  have hkk : k0 ≤ k := by
    apply Nat.le_of_not_lt
    intro hlt
    rcases h3 with h3 | h3
    · have h4 := Nat.mul_le_mul_right B (Nat.mul_le_mul_left 2 (nz_le (show k + 1 ≤ k0 from hlt)))
      omega
    · omega
  split
  · exact hkk
  · split <;> omega
theorem near_le {A B : Nat} {neg : Bool} {mode : Int} {r k0 : Nat} (h : IsNear A B neg mode r) (hB : 0 < B) (hle : A ≤ 2 * nz k0 * B) : r ≤ k0 := by
  obtain ⟨k, h1, h2, h3, rfl⟩ := h
  have key : ∀ {a b : Nat}, 2 * nz a * B ≤ 2 * nz b * B → a ≤ b := by
    intro a b hab
    have h4 := Nat.le_of_mul_le_mul_right hab hB
    apply Nat.le_of_not_lt
    intro hlt
    have := nz_mono hlt
    omega
  split
  · rename_i he; exact key (by omega)
  · rename_i he
    have h5 : k < k0 := by
      apply Nat.lt_of_le_of_ne (key (by omega))
      rintro rfl; omega
    split <;> omega
theorem kind_fin (x : Nat) : kindP x ≤ 2 ↔ (splitP x).cls ≤ 2 := by
  have := splitP_cls x
  unfold kindP
  split
  · omega
  · split
    · omega
    · split
      · omega
      · split
        · omega
        · split <;> omega
theorem cnt_fin : ∀ (l : List Nat) (s : SP), finL l → (l.foldl (fun s x => countP s (kindP x)) s).na = s.na ∧ (l.foldl (fun s x => countP s (kindP x)) s).up = s.up ∧ (l.foldl (fun s x => countP s (kindP x)) s).dn = s.dn
  | [], s, _ => ⟨rfl, rfl, rfl⟩
  | x :: l, s, h => by
    have h1 := cnt_fin l (countP s (kindP x)) (fun z hz => h z (List.mem_cons_of_mem _ hz))
    have h2 := (kind_fin x).2 (h x (List.mem_cons_self ..))
    simp only [List.foldl_cons]
    obtain ⟨a, b, c⟩ := h1
    rw [a, b, c]
    unfold countP
    refine ⟨?_, ?_, ?_⟩ <;> dsimp only <;> rw [if_neg (by omega)] <;> rfl
theorem fil_fin {l : List Nat} (h : finL l) : filP l = l := by
  unfold filP
  rw [List.filter_eq_self]
  intro x hx
  unfold finP
  simpa using (kind_fin x).2 (h x hx)
theorem sift_fin {l : List Nat} {pn pi : Int} (h : finL l) (hl : l.length ≤ 65536) (hm : mayQ pn pi) : siftE l pn pi = 0 ∧ verdP (cntP l) pn pi = none := by
  obtain ⟨a, b, c⟩ := cnt_fin l SP.zero h
  have a' : (cntP l).na = 0 := a
  have b' : (cntP l).up = 0 := b
  have c' : (cntP l).dn = 0 := c
  constructor
  · unfold siftE
    rw [if_neg (fun q => q hm), if_neg (by omega), a', b', c', if_neg (by omega), if_neg (by omega)]
  · unfold verdP
    rw [a', b', c']
    split
    · rfl
    · rw [if_neg (by omega), if_neg (by omega), if_neg (by omega)]
/-- Mean of finite numbers. -/
theorem mean_fin2 {l : List Nat} {mode pn pi : Int} {bits : Nat} {e : Int} (h : meanR l mode pn pi bits e) (hf : finL l) (hl : l.length ≤ 65536) (hne : l ≠ []) (hm : 0 ≤ mode ∧ mode ≤ 4) (hp : mayQ pn pi) :
    e = 0 ∧ ((sumI l = 0 ∧ bits = noughtP (cntP l) mode) ∨ (sumI l ≠ 0 ∧ MeanQ (sumI l) l.length mode bits)) := by
  obtain ⟨h1, h2⟩ := sift_fin hf hl hp
  have := mean_fin h hm h1 h2 (by rw [fil_fin hf]; exact hne)
  rwa [fil_fin hf] at this
theorem nought_two (s : SP) (mode : Int) : noughtP s mode = 0 ∨ noughtP s mode = 9223372036854775808 := by
  unfold noughtP
  split
  · exact .inr rfl
  · exact .inl rfl
theorem fv_zero : fvI 0 = 0 ∧ fvI 9223372036854775808 = 0 ∧ (splitP 0).cls = 0 ∧ (splitP 9223372036854775808).cls = 0 := by decide +kernel
theorem sum_ge {v : Int} : ∀ {l : List Nat}, (∀ x ∈ l, v ≤ fvI x) → (l.length : Int) * v ≤ sumI l
  | [], _ => by simp [sumI]
  | x :: l, h => by
    have h1 := sum_ge (l := l) (fun z hz => h z (List.mem_cons_of_mem _ hz))
    have h2 := h x (List.mem_cons_self ..)
    have e : sumI (x :: l) = fvI x + sumI l := by simp [sumI]
    rw [e, List.length_cons, Int.natCast_add, Int.add_mul]
    have : ((1 : Nat) : Int) * v = v := by simp
    omega
theorem sum_le {v : Int} : ∀ {l : List Nat}, (∀ x ∈ l, fvI x ≤ v) → sumI l ≤ (l.length : Int) * v
  | [], _ => by simp [sumI]
  | x :: l, h => by
    have h1 := sum_le (l := l) (fun z hz => h z (List.mem_cons_of_mem _ hz))
    have h2 := h x (List.mem_cons_self ..)
    have e : sumI (x :: l) = fvI x + sumI l := by simp [sumI]
    rw [e, List.length_cons, Int.natCast_add, Int.add_mul]
    have : ((1 : Nat) : Int) * v = v := by simp
    omega
theorem fin_mod {x : Nat} (h : (splitP x).cls ≤ 2) : x % 9223372036854775808 < 9218868437227405312 := (cls_le2 x).1 h
theorem fin_of {r : Nat} (h : r < 9218868437227405312) : (splitP r).cls ≤ 2 ∧ (splitP (r + 9223372036854775808)).cls ≤ 2 := ⟨(cls_le2 r).2 (by omega), (cls_le2 _).2 (by omega)⟩
theorem fv_pos {r : Nat} (h : r < 9218868437227405312) : fvI r = (nz r * 2 ^ 1074 : Nat) := by
  rw [fvI_nz (fin_of h).1 (by omega), if_neg (by omega), Nat.mod_eq_of_lt (by omega)]
theorem fv_neg {r : Nat} (h : r < 9218868437227405312) : fvI (r + 9223372036854775808) = -((nz r * 2 ^ 1074 : Nat) : Int) := by
  rw [fvI_nz (fin_of h).2 (by omega), if_pos (by omega), show (r + 9223372036854775808) % 9223372036854775808 = r by omega]
theorem unit2 (k n : Nat) : 2 * nz k * (n * 2 ^ 1073) = n * (nz k * 2 ^ 1074) := by
  rw [show (2 : Nat) ^ 1074 = 2 * 2 ^ 1073 by rw [← Nat.pow_succ']]; ac_rfl
/-- The rounded mean lies where the exact one lies. -/
theorem meanQ_between {S : Int} {n : Nat} {mode : Int} {bits lo hi : Nat} (hn : n ≠ 0) (h : MeanQ S n mode bits) (hS : S ≠ 0) (hlo : (splitP lo).cls ≤ 2) (hhi : (splitP hi).cls ≤ 2) (hl64 : lo < 18446744073709551616) (hh64 : hi < 18446744073709551616)
    (h1 : (n : Int) * fvI lo ≤ S) (h2 : S ≤ (n : Int) * fvI hi) : bits < 18446744073709551616 ∧ (splitP bits).cls ≤ 2 ∧ fvI lo ≤ fvI bits ∧ fvI bits ≤ fvI hi := by
  obtain ⟨r, hN, hr, hb⟩ := h
  have hB : 0 < n * 2 ^ 1073 := Nat.mul_pos (by omega) (Nat.two_pow_pos _)
  have ml := fin_mod hlo
  have mh := fin_mod hhi
  have el := fvI_nz hlo hl64
  have eh := fvI_nz hhi hh64
  have hp := Nat.two_pow_pos 1074
  by_cases hneg : S < 0
  · rw [if_pos hneg] at hb
    have hl0 : fvI lo < 0 := by
      apply Int.lt_of_not_ge; intro q
      have : 0 ≤ (n : Int) * fvI lo := Int.mul_nonneg (by omega) q
      omega
    have hlb : 9223372036854775808 ≤ lo := by
      apply Nat.le_of_not_lt; intro q
      rw [if_neg (by omega)] at el; omega
    rw [if_pos hlb] at el
    have hle : S.natAbs ≤ 2 * nz (lo % 9223372036854775808) * (n * 2 ^ 1073) := by
      rw [unit2]
      rw [el, Int.mul_neg, ← Int.natCast_mul] at h1
      omega
    have hrk := near_le hN hB hle
    have hrf : r < 9218868437227405312 := by omega
    have e5 := fv_neg hrf
    rw [← hb] at e5
    refine ⟨by omega, by rw [hb]; exact (fin_of hrf).2, ?_, ?_⟩
    · rw [e5, el]
      have := Nat.mul_le_mul_right (2 ^ 1074) (nz_le hrk)
      omega
    · by_cases hh0 : 0 ≤ fvI hi
      · rw [e5]; omega
      · have hhb : 9223372036854775808 ≤ hi := by
          apply Nat.le_of_not_lt; intro q
          rw [if_neg (by omega)] at eh; omega
        rw [if_pos hhb] at eh
        have hge : 2 * nz (hi % 9223372036854775808) * (n * 2 ^ 1073) ≤ S.natAbs := by
          rw [unit2]
          rw [eh, Int.mul_neg, ← Int.natCast_mul] at h2
          omega
        have hkr := near_ge hN hB mh hge
        rw [e5, eh]
        have := Nat.mul_le_mul_right (2 ^ 1074) (nz_le hkr)
        omega
  · rw [if_neg hneg] at hb
    have hh0 : 0 < fvI hi := by
      apply Int.lt_of_not_ge; intro q
      have : (n : Int) * fvI hi ≤ 0 := Int.mul_nonpos_of_nonneg_of_nonpos (by omega) q
      omega
    have hhb : ¬ 9223372036854775808 ≤ hi := by
      intro q
      rw [if_pos q] at eh; omega
    rw [if_neg hhb] at eh
    have hle : S.natAbs ≤ 2 * nz (hi % 9223372036854775808) * (n * 2 ^ 1073) := by
      rw [unit2]
      rw [eh, ← Int.natCast_mul] at h2
      omega
    have hrk := near_le hN hB hle
    have hrf : r < 9218868437227405312 := by omega
    have e5 := fv_pos hrf
    subst hb
    refine ⟨by omega, (fin_of hrf).1, ?_, ?_⟩
    · by_cases hl0 : fvI lo ≤ 0
      · rw [e5]; omega
      · have hlb : ¬ 9223372036854775808 ≤ lo := by
          intro q
          rw [if_pos q] at el; omega
        rw [if_neg hlb] at el
        have hge : 2 * nz (lo % 9223372036854775808) * (n * 2 ^ 1073) ≤ S.natAbs := by
          rw [unit2]
          rw [el, ← Int.natCast_mul] at h1
          omega
        have hkr := near_ge hN hB ml hge
        rw [e5, el]
        have := Nat.mul_le_mul_right (2 ^ 1074) (nz_le hkr)
        omega
    · rw [e5, eh]
      have := Nat.mul_le_mul_right (2 ^ 1074) (nz_le hrk)
      omega
/-- A mean lies from the least to the greatest. -/
theorem mean_between {l : List Nat} {mode : Int} {bits lo hi : Nat} {e : Int} (h : meanR l mode 0 0 bits e) (hf : finL l) (hl : l.length ≤ 65536) (hne : l ≠ []) (hm : 0 ≤ mode ∧ mode ≤ 4)
    (hlo : (splitP lo).cls ≤ 2) (hhi : (splitP hi).cls ≤ 2) (hl64 : lo < 18446744073709551616) (hh64 : hi < 18446744073709551616) (h1 : ∀ x ∈ l, fvI lo ≤ fvI x) (h2 : ∀ x ∈ l, fvI x ≤ fvI hi) :
    e = 0 ∧ bits < 18446744073709551616 ∧ (splitP bits).cls ≤ 2 ∧ fvI lo ≤ fvI bits ∧ fvI bits ≤ fvI hi := by
  have hp : mayQ 0 0 := ⟨by decide, by decide⟩
  obtain ⟨he, hh⟩ := mean_fin2 h hf hl hne hm hp
  have hn : l.length ≠ 0 := fun q => hne (List.length_eq_zero_iff.1 q)
  have s1 := sum_ge h1
  have s2 := sum_le h2
  refine ⟨he, ?_⟩
  rcases hh with ⟨hz, hb⟩ | ⟨hz, hM⟩
  · rw [hz] at s1 s2
    have hlo0 : fvI lo ≤ 0 := by
      apply Int.le_of_not_gt; intro q
      have : 0 < (l.length : Int) * fvI lo := Int.mul_pos (by omega) q
      omega
    have hhi0 : 0 ≤ fvI hi := by
      apply Int.le_of_not_gt; intro q
      have : (l.length : Int) * fvI hi < 0 := Int.mul_neg_of_pos_of_neg (by omega) q
      omega
    obtain ⟨z1, z2, z3, z4⟩ := fv_zero
    rcases nought_two (cntP l) mode with q | q
    · rw [hb, q, z1, z3]; exact ⟨by decide, by decide, hlo0, hhi0⟩
    · rw [hb, q, z2, z4]; exact ⟨by decide, by decide, hlo0, hhi0⟩
  · exact meanQ_between hn hM hz hlo hhi hl64 hh64 s1 s2
theorem sum_like (n v : Nat) : sumI (List.replicate n v) = (n : Int) * fvI v := by
  induction n with
  | zero => simp [sumI]
  | succ n ih =>
    have e : sumI (v :: List.replicate n v) = fvI v + sumI (List.replicate n v) := by simp [sumI]
    rw [List.replicate_succ, e, ih, Int.natCast_add, Int.add_mul]
    simp; omega
theorem nz_zero {k : Nat} : nz k = 0 ↔ k = 0 := by
  constructor
  · intro h
    apply Classical.byContradiction
    intro h0
    have := nz_mono (show 0 < k by omega)
    omega
  · intro h; rw [h]; decide
end

/- Reference of layer 6. No condition. -/
section
open Go Sx Wd

theorem kindP_bits {x : Nat} (hx : x < 18446744073709551616) : kindP x = if 9218868437227405312 < x % 9223372036854775808 then 5 else if x % 9223372036854775808 = 9218868437227405312 ∧ x / 9223372036854775808 = 1 then 4 else if x % 9223372036854775808 = 9218868437227405312 then 3 else if x % 9223372036854775808 = 0 ∧ x / 9223372036854775808 = 1 then 1 else if x % 9223372036854775808 = 0 then 2 else 0 := by
  have e1 : x / 4503599627370496 % 2048 = 2047 ↔ 9218868437227405312 ≤ x % 9223372036854775808 := by omega
  have e2 : (x / 4503599627370496 % 2048 = 2047 ∧ x % 4503599627370496 ≠ 0) ↔ 9218868437227405312 < x % 9223372036854775808 := by omega
  have e3 : x / 9223372036854775808 % 2 = 1 ↔ x / 9223372036854775808 = 1 := by omega
  have e4 : (¬ 0 < x / 4503599627370496 % 2048 ∧ ¬ 0 < x % 4503599627370496) ↔ x % 9223372036854775808 = 0 := by omega
  by_cases h1 : 9218868437227405312 < x % 9223372036854775808
  · have L : kindP x = 5 := by unfold kindP splitP; rw [if_pos (e2.2 h1)]; rfl
    rw [L, if_pos h1]
  · have n1 : ¬ (x / 4503599627370496 % 2048 = 2047 ∧ x % 4503599627370496 ≠ 0) := fun q => h1 (e2.1 q)
    by_cases h2 : x % 9223372036854775808 = 9218868437227405312
    · have p2 := e1.2 (by omega)
      by_cases h3 : x / 9223372036854775808 = 1
      · have L : kindP x = 4 := by
          unfold kindP splitP; rw [if_neg n1, if_pos p2]; simp [e3.2 h3]
        rw [L, if_neg h1, if_pos ⟨h2, h3⟩]
      · have L : kindP x = 3 := by
          have h5 : ¬ x / 9223372036854775808 % 2 = 1 := fun q => h3 (e3.1 q)
          unfold kindP splitP; rw [if_neg n1, if_pos p2]; simp [h5]
        rw [L, if_neg h1, if_neg (fun q => h3 q.2), if_pos h2]
    · have n2 : ¬ x / 4503599627370496 % 2048 = 2047 := fun q => h2 (by have := e1.1 q; omega)
      by_cases h4 : x % 9223372036854775808 = 0
      · have h5 := e4.2 h4
        by_cases h3 : x / 9223372036854775808 = 1
        · have L : kindP x = 1 := by
            unfold kindP splitP; rw [if_neg n1, if_neg n2, if_neg h5.1, if_neg h5.2]; simp [e3.2 h3]
          rw [L, if_neg h1, if_neg (fun q => h2 q.1), if_neg h2, if_pos ⟨h4, h3⟩]
        · have L : kindP x = 2 := by
            have h6 : ¬ x / 9223372036854775808 % 2 = 1 := fun q => h3 (e3.1 q)
            unfold kindP splitP; rw [if_neg n1, if_neg n2, if_neg h5.1, if_neg h5.2]; simp [h6]
          rw [L, if_neg h1, if_neg (fun q => h2 q.1), if_neg h2, if_neg (fun q => h3 q.2), if_pos h4]
      · have L : kindP x = 0 := by
          unfold kindP splitP; rw [if_neg n1, if_neg n2]
          by_cases h6 : 0 < x / 4503599627370496 % 2048
          · rw [if_pos h6]; rfl
          · rw [if_neg h6, if_pos (Classical.byContradiction fun q => h4 (e4.1 ⟨h6, q⟩))]; rfl
        rw [L, if_neg h1, if_neg (fun q => h2 q.1), if_neg h2, if_neg (fun q => h4 q.1), if_neg h4]

theorem r6Kind_spec (x : Nat) (w : World) (hx : x < 18446744073709551616) : Ret Tryz.prog 247 [.float .f64 x] w fun u w' => u = .int .i64 (kindP x : Int) ∧ w = w' := by
 refine zE1 Tryz.func247 rfl ?_;refine Sr fun _ kh1 => za rfl (zz (kh1 (Sr fun _ kh3 => zm rfl ?_)));refine WL.ev (Ev.ext rfl (ext63 _ _)) rfl ?_;refine za rfl (zz (kh3 (Sr fun _ kh5 => zm rfl ?_)));refine WL.ev (Ev.shrU (b := 63) rfl rfl (by simp only [IntKind.bits]; omega)) rfl ?_;rw [show x / 2 ^ 63 = x / 9223372036854775808 from rfl];refine zq rfl rfl ?_;rw [show decide (((x / 9223372036854775808 : Nat) : Int) = 1) = decide (x / 9223372036854775808 = 1) from decide_eq_decide.2 (by omega)];refine za rfl (zz (kh5 (Sr fun _ kh7 => zm rfl ?_)));refine WL.ev (Ev.remU (b := 9223372036854775808) rfl rfl (by omega)) rfl ?_;refine za rfl (zz (kh7 (zc fun _ kh9 => ?_)));refine CW.block ?_;refine Sr fun _ kh10 => zm rfl ?_;refine WL.ev (Ev.gtr rfl rfl) rfl ?_;refine za rfl (zz (kh10 ?_));refine zy rfl ?_ ?_<;>intro hc1<;>try simp only [qs] at hc1
 ·refine Sr fun _ kh12 => za rfl (zz (kh12 ?_));refine zr (zr1 rfl rfl ?_);refine ⟨?_, rfl⟩;rw [kindP_bits hx, if_pos (show 9218868437227405312 < x % 9223372036854775808 by omega)]; rfl
 ·have k1 : ¬ 9218868437227405312 < x % 9223372036854775808 := by omega
  refine CW.seqM 16 (decide (x % 9223372036854775808 = 9218868437227405312 ∧ x / 9223372036854775808 = 1)) ?_ ?_
  ·refine zR fun _ kr14 => ?_;refine zm rfl (zq rfl rfl (zm rfl ?_));refine zb ?_ ?_<;>intro hg2<;>try simp only [qs] at hg2
   ·refine zw rfl (zm rfl (zt rfl rfl (za rfl ?_)));refine WL.nil (kr14 _ _ _ ?_);refine ⟨rfl, rfl, Subs.consB rfl ?_ ?_⟩
    ·first | (simp; omega) | (simp_all; done) | (refine decide_eq_decide.2 ?_; omega)
    ·exact SMg
   ·refine zv rfl (ze rfl rfl (za rfl ?_));refine WL.nil (kr14 _ _ _ ?_);refine ⟨rfl, rfl, Subs.consB rfl ?_ ?_⟩
    ·first | (simp; omega) | (simp_all; done) | (refine decide_eq_decide.2 ?_; omega)
    ·exact SMg
  ·refine zy rfl ?_ ?_<;>intro hc3<;>try simp only [qs] at hc3
   ·have k2 := hc3
    refine Sr fun _ kh15 => za rfl (zz (kh15 ?_));refine zr (zr1 rfl rfl ?_);refine ⟨?_, rfl⟩;rw [kindP_bits hx, if_neg k1, if_pos k2]; rfl
   ·have k2 : ¬ (x % 9223372036854775808 = 9218868437227405312 ∧ x / 9223372036854775808 = 1) := hc3
    refine Sr fun _ kh17 => zm rfl (zq rfl rfl (za rfl (zz (kh17 ?_))));refine zy rfl ?_ ?_<;>intro hc4<;>try simp only [qs] at hc4
    ·have k3 : x % 9223372036854775808 = 9218868437227405312 := by omega
     refine Sr fun _ kh19 => za rfl (zz (kh19 ?_));refine zr (zr1 rfl rfl ?_);refine ⟨?_, rfl⟩;rw [kindP_bits hx, if_neg k1, if_neg k2, if_pos k3]; rfl
    ·have k3 : ¬ x % 9223372036854775808 = 9218868437227405312 := by omega
     refine CW.seqM 25 (decide (x % 9223372036854775808 = 0 ∧ x / 9223372036854775808 = 1)) ?_ ?_
     ·refine zR fun _ kr21 => ?_;refine zm rfl (zq rfl rfl (zm rfl ?_));refine zb ?_ ?_<;>intro hg5<;>try simp only [qs] at hg5
      ·refine zw rfl (zm rfl (zt rfl rfl (za rfl ?_)));refine WL.nil (kr21 _ _ _ ?_);refine ⟨rfl, rfl, Subs.consB rfl ?_ ?_⟩
       ·first | (simp; omega) | (simp_all; done) | (refine decide_eq_decide.2 ?_; omega)
       ·exact SMg
      ·refine zv rfl (ze rfl rfl (za rfl ?_));refine WL.nil (kr21 _ _ _ ?_);refine ⟨rfl, rfl, Subs.consB rfl ?_ ?_⟩
       ·first | (simp; omega) | (simp_all; done) | (refine decide_eq_decide.2 ?_; omega)
       ·exact SMg
     ·refine zy rfl ?_ ?_<;>intro hc6<;>try simp only [qs] at hc6
      ·have k4 := hc6
       refine Sr fun _ kh22 => za rfl (zz (kh22 ?_));refine zr (zr1 rfl rfl ?_);refine ⟨?_, rfl⟩;rw [kindP_bits hx, if_neg k1, if_neg k2, if_neg k3, if_pos k4]; rfl
      ·have k4 : ¬ (x % 9223372036854775808 = 0 ∧ x / 9223372036854775808 = 1) := hc6
       refine Sr fun _ kh24 => zm rfl (zq rfl rfl (za rfl (zz (kh24 ?_))));refine zy rfl ?_ ?_<;>intro hc7<;>try simp only [qs] at hc7
       ·have k5 : x % 9223372036854775808 = 0 := by omega
        refine Sr fun _ kh26 => za rfl (zz (kh26 ?_));refine zr (zr1 rfl rfl ?_);refine ⟨?_, rfl⟩;rw [kindP_bits hx, if_neg k1, if_neg k2, if_neg k3, if_neg k4, if_pos k5]; rfl
       ·have k5 : ¬ x % 9223372036854775808 = 0 := by omega
        refine zkk ?_;refine kh9 (Sr fun _ kh28 => za rfl (zz (kh28 ?_)));refine zr (zr1 rfl rfl ?_);refine ⟨?_, rfl⟩;rw [kindP_bits hx, if_neg k1, if_neg k2, if_neg k3, if_neg k4, if_neg k5]; rfl

theorem r6within_spec (n : Nat) (w : World) (hn : n ≤ 1000000000000000) : Ret Tryz.prog 239 [.int .i64 (n : Int)] w fun u w' => u = .bool (decide (n ≤ 1099511627776)) ∧ w = w' := by
 refine zE1 Tryz.func239 rfl ?_;refine Sr fun _ kh1 => za rfl (zz (kh1 (Sr fun _ kh3 => zm rfl ?_)));refine WL.ev (Ev.geq rfl rfl) rfl ?_;refine zm rfl ?_;refine zb ?_ ?_<;>intro hg1<;>try simp only [qs] at hg1
 ·refine zw rfl (zm rfl (zw rfl ?_));refine WL.ev (Ev.leq rfl rfl) rfl ?_
  refine zt rfl rfl (za rfl (zz (kh3 ?_)));refine zr (zr1 rfl rfl ?_);refine ⟨congrArg Value.bool (decide_eq_decide.2 (by omega)), rfl⟩
 ·refine zv rfl (zv rfl (ze rfl rfl (za rfl (zz (kh3 ?_)))));refine zr (zr1 rfl rfl ?_)
  exfalso; omega

theorem r6MayBe_spec (s : SP) (w : World) (hs : s.le 1000000000000000) : Ret Tryz.prog 156 [.agg [.int .i64 (s.na : Int), .int .i64 (s.up : Int), .int .i64 (s.dn : Int), .int .i64 (s.mi : Int), .int .i64 (s.pl : Int), .int .i64 (s.al : Int)].toArray] w fun u w' => u = .bool (decide (mayBeP s)) ∧ Chg [] w w' := by
 have hs0 := hs;obtain ⟨hs1, hs2, hs3, hs4, hs5, hs6⟩ := hs;have hch : Chg [] w w := Chg.refl _ _;refine zE1 Tryz.func156 rfl ?_;refine Sr fun _ kh1 => ?_;refine zBh rfl rfl rfl hch fun b1 wm1 hb1 hcm1 hge1 hgehch1 hch => ?_;refine za rfl (zz (kh1 ?_));refine CW.seqM 3 (decide ((s.na ≤ 1099511627776 ∧ s.up ≤ 1099511627776) ∧ s.dn ≤ 1099511627776)) ?_ ?_
 ·refine zR fun _ kr3 => ?_;refine zf rfl (zl hb1 rfl rfl ?_);refine WL.call hasF239 rfl rfl (r6within_spec s.na _ (by omega)) fun v w1 h' => ?_;obtain ⟨rfl, rfl⟩ := h';refine zm rfl ?_;refine zb ?_ ?_<;>intro hg1<;>try simp only [qs] at hg1
  ·refine zw rfl (zf rfl (zw rfl (zl hb1 rfl rfl (zw rfl ?_))));refine WL.call hasF239 rfl rfl (r6within_spec s.up _ (by omega)) fun v w2 h' => ?_
   obtain ⟨rfl, rfl⟩ := h';refine zt rfl rfl (zm rfl ?_);refine zb ?_ ?_<;>intro hg2<;>try simp only [qs] at hg2
   ·refine zw rfl (zf rfl (zw rfl (zl hb1 rfl rfl (zw rfl ?_))));refine WL.call hasF239 rfl rfl (r6within_spec s.dn _ (by omega)) fun v w3 h' => ?_
    obtain ⟨rfl, rfl⟩ := h';refine zt rfl rfl (za rfl ?_);refine WL.nil (kr3 _ _ _ ?_);refine ⟨rfl, rfl, Subs.consB rfl ?_ ?_⟩
    ·first | (simp; omega) | (simp_all; done) | (refine decide_eq_decide.2 ?_; omega)
    ·exact SMg
   ·refine zv rfl (zv rfl (zv rfl (ze rfl rfl (za rfl ?_))));refine WL.nil (kr3 _ _ _ ?_);refine ⟨rfl, rfl, Subs.consB rfl ?_ ?_⟩
    ·first | (simp; omega) | (simp_all; done) | (refine decide_eq_decide.2 ?_; omega)
    ·exact SMg
  ·refine zv rfl (zv rfl (zv rfl (ze rfl rfl (zm rfl (zv rfl (zv rfl (zv rfl (ze rfl rfl (za rfl ?_)))))))));refine WL.nil (kr3 _ _ _ ?_);refine ⟨rfl, rfl, Subs.consB rfl ?_ ?_⟩
   ·first | (simp; omega) | (simp_all; done) | (refine decide_eq_decide.2 ?_; omega)
   ·exact SMg
 ·refine CW.seqM 4 (decide ((s.mi ≤ 1099511627776 ∧ s.pl ≤ 1099511627776) ∧ s.al ≤ 1099511627776)) ?_ ?_
  ·refine zR fun _ kr4 => ?_;refine zf rfl (zl hb1 rfl rfl ?_);refine WL.call hasF239 rfl rfl (r6within_spec s.mi _ (by omega)) fun v w4 h' => ?_;obtain ⟨rfl, rfl⟩ := h';refine zm rfl ?_;refine zb ?_ ?_<;>intro hg3<;>try simp only [qs] at hg3
   ·refine zw rfl (zf rfl (zw rfl (zl hb1 rfl rfl (zw rfl ?_))));refine WL.call hasF239 rfl rfl (r6within_spec s.pl _ (by omega)) fun v w5 h' => ?_
    obtain ⟨rfl, rfl⟩ := h';refine zt rfl rfl (zm rfl ?_);refine zb ?_ ?_<;>intro hg4<;>try simp only [qs] at hg4
    ·refine zw rfl (zf rfl (zw rfl (zl hb1 rfl rfl (zw rfl ?_))));refine WL.call hasF239 rfl rfl (r6within_spec s.al _ (by omega)) fun v w6 h' => ?_
     obtain ⟨rfl, rfl⟩ := h';refine zt rfl rfl (za rfl ?_);refine WL.nil (kr4 _ _ _ ?_);refine ⟨rfl, rfl, Subs.consB rfl ?_ ?_⟩
     ·first | (simp; omega) | (simp_all; done) | (refine decide_eq_decide.2 ?_; omega)
     ·exact SMg
    ·refine zv rfl (zv rfl (zv rfl (ze rfl rfl (za rfl ?_))));refine WL.nil (kr4 _ _ _ ?_);refine ⟨rfl, rfl, Subs.consB rfl ?_ ?_⟩
     ·first | (simp; omega) | (simp_all; done) | (refine decide_eq_decide.2 ?_; omega)
     ·exact SMg
   ·refine zv rfl (zv rfl (zv rfl (ze rfl rfl (zm rfl (zv rfl (zv rfl (zv rfl (ze rfl rfl (za rfl ?_)))))))));refine WL.nil (kr4 _ _ _ ?_);refine ⟨rfl, rfl, Subs.consB rfl ?_ ?_⟩
    ·first | (simp; omega) | (simp_all; done) | (refine decide_eq_decide.2 ?_; omega)
    ·exact SMg
  ·refine Sr fun _ kh5 => zm rfl (zm rfl ?_);refine zb ?_ ?_<;>intro hg5<;>try simp only [qs] at hg5
   ·refine zw rfl (zm rfl (zt rfl rfl (zm rfl ?_)));refine zb ?_ ?_<;>intro hg6<;>try simp only [qs] at hg6
    ·refine zw rfl (zf rfl (zw rfl (zl hb1 rfl rfl (zw rfl (zf rfl (zw rfl (zl hb1 rfl rfl (zw rfl ?_))))))));(first | refine zi rfl rfl ?_ | refine zo rfl rfl ?_);refine zw rfl (zf rfl (zw rfl (zl hb1 rfl rfl (zw rfl ?_))));(first | refine zi rfl rfl ?_ | refine zo rfl rfl ?_);refine zw rfl (zf rfl (zw rfl (zl hb1 rfl rfl (zw rfl ?_))));(first | refine zi rfl rfl ?_ | refine zo rfl rfl ?_);refine zw rfl (zf rfl (zw rfl (zl hb1 rfl rfl (zw rfl ?_))));(first | refine zi rfl rfl ?_ | refine zo rfl rfl ?_);refine zw rfl (zf rfl (zw rfl (zl hb1 rfl rfl (zw rfl ?_))));refine WL.ev (Ev.leq rfl rfl) rfl ?_
     refine zt rfl rfl (za rfl (zz (kh5 ?_)));refine zr (zr1 rfl rfl ?_);refine ⟨congrArg Value.bool ?_, hch⟩
     first | (refine decide_eq_decide.2 ?_; unfold mayBeP; omega) | (symm; refine decide_eq_false ?_; unfold mayBeP; omega) | (symm; refine decide_eq_true ?_; unfold mayBeP; omega)
    ·refine zv rfl (zv rfl (zv rfl (zv rfl (zv rfl (zv rfl (zv rfl (zv rfl (zv rfl (zv rfl (zv rfl (zv rfl (zv rfl (zv rfl (zv rfl (zv rfl (zv rfl (ze rfl rfl (za rfl (zz (kh5 ?_))))))))))))))))))));refine zr (zr1 rfl rfl ?_);refine ⟨congrArg Value.bool ?_, hch⟩
     first | (refine decide_eq_decide.2 ?_; unfold mayBeP; omega) | (symm; refine decide_eq_false ?_; unfold mayBeP; omega) | (symm; refine decide_eq_true ?_; unfold mayBeP; omega)
   ·refine zv rfl (ze rfl rfl (zm rfl (zv rfl (zv rfl (zv rfl (zv rfl (zv rfl (zv rfl (zv rfl (zv rfl (zv rfl (zv rfl (zv rfl (zv rfl (zv rfl (zv rfl (zv rfl (zv rfl (zv rfl (ze rfl rfl (za rfl (zz (kh5 ?_)))))))))))))))))))))));refine zr (zr1 rfl rfl ?_);refine ⟨congrArg Value.bool ?_, hch⟩
    first | (refine decide_eq_decide.2 ?_; unfold mayBeP; omega) | (symm; refine decide_eq_false ?_; unfold mayBeP; omega) | (symm; refine decide_eq_true ?_; unfold mayBeP; omega)

theorem r6Zero_spec (neg : Bool) (w : World) : Ret Tryz.prog 259 [.bool neg] w fun u w' => u = .float .f64 (if neg = true then 9223372036854775808 else 0) ∧ w = w' := by
 refine zE1 Tryz.func259 rfl ?_;refine Sr fun _ kh1 => za rfl (zz (kh1 (Sr fun _ kh3 => za rfl (zz (kh3 (zc fun _ kh5 => Sr fun _ kh6 => zm rfl (zz (kh6 ?_))))))));refine zy rfl ?_ ?_<;>intro hc1<;>try simp only [qs] at hc1
 ·have k := hc1
  refine zR fun _ kr8 => ?_;refine za rfl ?_;refine WL.nil (kr8 _ _ _ (kh5 ?_));refine Sr fun _ kh9 => zm rfl ?_;refine WL.ev (Ev.ext rfl (ext94 _ _)) rfl ?_;refine za rfl (zz (kh9 ?_));refine zr (zr1 rfl rfl ?_);rw [if_pos k];exact ⟨rfl, rfl⟩
 ·have k := hc1
  refine zkk ?_;refine kh5 (Sr fun _ kh11 => zm rfl ?_);refine WL.ev (Ev.ext rfl (ext94 _ _)) rfl ?_;refine za rfl (zz (kh11 ?_));refine zr (zr1 rfl rfl ?_);rw [if_neg (by rw [k]; decide)];exact ⟨rfl, rfl⟩

theorem r6Nought_spec (s : SP) (mode : Int) (w : World) (hs : s.le 1000000000000000) : Ret Tryz.prog 168 [.agg [.int .i64 (s.na : Int), .int .i64 (s.up : Int), .int .i64 (s.dn : Int), .int .i64 (s.mi : Int), .int .i64 (s.pl : Int), .int .i64 (s.al : Int)].toArray, .int .i64 mode] w fun u w' => u = .float .f64 (noughtP s mode) ∧ Chg [] w w' := by
 have hs0 := hs;obtain ⟨hs1, hs2, hs3, hs4, hs5, hs6⟩ := hs;have hch : Chg [] w w := Chg.refl _ _;refine zE2 Tryz.func168 rfl ?_;refine Sr fun _ kh1 => ?_;refine zBh rfl rfl rfl hch fun b2 wm2 hb2 hcm2 hge2 hgehch2 hch => ?_;refine za rfl (zz (kh1 (Sr fun _ kh3 => zg hb2 rfl ?_)));refine WL.call hasF156 rfl rfl (r6MayBe_spec s _ hs0) fun v w1 h' => ?_;obtain ⟨rfl, hC⟩ := h';have hch := hch.ta hC;have hb2 := hb2.k0 hC;refine za rfl (zz (kh3 (Sr fun _ kh5 => zf rfl (zl hb2 rfl rfl (zf rfl (zl hb2 rfl rfl ?_))))));refine WL.ev (Ev.subIn rfl rfl (by omega)) rfl ?_;refine zf rfl (zl hb2 rfl rfl ?_);refine WL.ev (Ev.subIn rfl rfl (by omega)) rfl ?_;refine zf rfl (zl hb2 rfl rfl ?_);refine WL.ev (Ev.subIn rfl rfl (by omega)) rfl ?_;refine za rfl (zz (kh5 (zc fun _ kh7 => ?_)));refine CW.block ?_;refine CW.seqM 20 (decide (¬ mayBeP s ∨ s.al = s.na + s.up + s.dn)) ?_ ?_
 ·refine zR fun _ kr8 => ?_;refine zm rfl ?_;refine WL.ev (Ev.not rfl) rfl ?_;refine zm rfl ?_;refine zb ?_ ?_<;>intro hg1<;>try simp only [qs] at hg1
  ·refine zv rfl (zv rfl (zt rfl rfl (za rfl ?_)));refine WL.nil (kr8 _ _ _ ?_);refine ⟨rfl, rfl, Subs.consB rfl ?_ ?_⟩
   ·first | (simp_all; done) | (by_cases q1 : mayBeP s <;> simp_all <;> omega)
   ·exact SMg
  ·refine zw rfl (zm rfl (zw rfl (zq rfl rfl (ze rfl rfl (za rfl ?_)))));refine WL.nil (kr8 _ _ _ ?_);refine ⟨rfl, rfl, Subs.consB rfl ?_ ?_⟩
   ·first | (simp_all; done) | (by_cases q1 : mayBeP s <;> simp_all <;> omega)
   ·exact SMg
 ·refine zy rfl ?_ ?_<;>intro hc2<;>try simp only [qs] at hc2
  ·have k1 : ¬ mayBeP s ∨ s.al = s.na + s.up + s.dn := by simpa using hc2
   refine Sr fun _ kh9 => ?_;refine WL.call hasF259 rfl rfl (r6Zero_spec _ _) fun v w2 h' => ?_;obtain ⟨rfl, rfl⟩ := h';rw [if_neg (show ¬ false = true by decide)];refine za rfl (zz (kh9 ?_));refine zr (zr1 rfl rfl ?_);refine ⟨?_, hch⟩; unfold noughtP; rw [if_neg (fun q => by rcases k1 with k1 | k1; exact k1 q.1; have := q.2.1; omega)]
  ·have k1 : ¬ (¬ mayBeP s ∨ s.al = s.na + s.up + s.dn) := hc2
   have kM : mayBeP s := Classical.byContradiction fun q => k1 (.inl q);have kM2 := kM;unfold mayBeP at kM2;have kA : s.al ≠ s.na + s.up + s.dn := fun q => k1 (.inr q);refine Sr fun _ kh11 => zf rfl (zl hb2 rfl rfl (zm rfl (zq rfl rfl (za rfl (zz (kh11 ?_))))));refine zy rfl ?_ ?_<;>intro hc3<;>try simp only [qs] at hc3
   ·refine Sr fun _ kh13 => ?_
    refine WL.call hasF259 rfl rfl (r6Zero_spec _ _) fun v w3 h' => ?_;obtain ⟨rfl, rfl⟩ := h';rw [if_pos (show true = true from rfl)];refine za rfl (zz (kh13 ?_));refine zr (zr1 rfl rfl ?_);refine ⟨?_, hch⟩; unfold noughtP; rw [if_pos ⟨kM, by omega, .inl (by omega)⟩]
   ·refine Sr fun _ kh15 => zf rfl (zl hb2 rfl rfl (zm rfl (zq rfl rfl (za rfl (zz (kh15 ?_))))));refine zy rfl ?_ ?_<;>intro hc4<;>try simp only [qs] at hc4
    ·refine Sr fun _ kh17 => ?_
     refine WL.call hasF259 rfl rfl (r6Zero_spec _ _) fun v w4 h' => ?_;obtain ⟨rfl, rfl⟩ := h';rw [if_neg (show ¬ false = true by decide)];refine za rfl (zz (kh17 ?_));refine zr (zr1 rfl rfl ?_);refine ⟨?_, hch⟩; unfold noughtP; rw [if_neg (fun q => by have := q.2.2; omega)]
    ·refine zkk ?_
     refine kh7 (Sr fun _ kh19 => zm rfl (zq rfl rfl ?_));refine WL.call hasF259 rfl rfl (r6Zero_spec _ _) fun v w5 h' => ?_;obtain ⟨rfl, rfl⟩ := h';refine za rfl (zz (kh19 ?_));refine zr (zr1 rfl rfl ?_);refine ⟨?_, hch⟩;unfold noughtP
     by_cases q3 : mode = 3
     · rw [if_pos (decide_eq_true q3), if_pos ⟨kM, by omega, .inr ⟨by omega, q3⟩⟩]
     · rw [if_neg (show ¬ decide (mode = 3) = true by simpa using q3), if_neg (fun q => by have := q.2.2; omega)]

end

/- Drawn regions with two operations that may come up in either order. No condition. -/
namespace Sx
open Go

/-- Operation i comes up next. -/
def WHat (P : Program) (ops : Array Oper) (K : KK) (S : World → Prop) (fuel : Nat) (listed : Array Bool) (n : Nat) (D : List Deferred) (s : Sl) (w : World) (i : Nat) : Prop :=
  ∀ a, Fr n D s a → wpOp P ops (post n K) i (fun a' w' => S w' ∧ wpAnyH P .any ops (post n K) S fuel (listed.setIfInBounds i true) a' w') a w
section
variable {P : Program} {A : AQ} {n : Nat} {D : List Deferred} {s : Sl} {w : World} {ops : Array Oper} {K : KK} {S : World → Prop} {fuel : Nat} {listed : Array Bool}
variable {op : Op} {ty : TypeId} {pos : String} {af : Array Edge} {d : Nat} {v : Value}
theorem WH.all2 (i j : Nat) (hr : Region.ready .any ops listed = [i, j]) (h1 : WHat P ops K S fuel listed n D s w i) (h2 : WHat P ops K S fuel listed n D s w j) : WH P ops K S (fuel + 1) listed n D s w := fun a ha =>
  wpAnyH_all hr (by simp) fun k hk => by
    rcases (by simpa using hk : k = i ∨ k = j) with rfl | rfl
    · exact h1 a ha
    · exact h2 a ha
theorem WHat.call (i : Nat) {f : FuncId} {xs : List Operand} {at_ : Array TypeId} {vs : List Value} {R : Value → World → Prop} (hi : ops[i]? = some ⟨some d, .call ⟨.value (.func f), xs.toArray, at_⟩, ty, pos, af, none⟩) (hF : HasF P f) (hx : opnds s xs = some vs) (hd : Nat.blt d n = true) (h : Ret P f vs w R)
  (k : ∀ v w', R v w' → S w' ∧ WH P ops K S fuel (listed.setIfInBounds i true) n D ((d, v) :: s) w') : WHat P ops K S fuel listed n D s w i := fun a ha => by
 unfold wpOp;simp only [hi];rw [if_pos (by simp [Region.wanted])];refine .inl ?_;unfold Oper.wp;rw [exec_call hF rfl hx fun x u hx => ha.eval hx];exact Calls.mono h fun e w' ⟨v, he, hR⟩ => by subst he; exact ⟨(k v w' hR).1, (k v w' hR).2 _ (ha.put hd v)⟩
theorem WHat.one (i : Nat) {w' : World} (hi : ops[i]? = some ⟨some d, op, ty, pos, af, none⟩) (he : Ev P s op ty w v w') (hS : S w') (hd : Nat.blt d n = true)
    (k : WH P ops K S fuel (listed.setIfInBounds i true) n D ((d, v) :: s) w') : WHat P ops K S fuel listed n D s w i := fun a ha => by
  unfold wpOp
  simp only [hi]
  rw [if_pos (by simp [Region.wanted])]
  refine .inl ?_
  unfold Oper.wp
  rw [he a.eval (some d) pos af none fun x u hx => ha.eval hx]
  exact ⟨hS, k _ (ha.put hd v)⟩
theorem WHat.buildSlice (i : Nat) {w0 : World} {t e : TypeId} {de : TypeDesc} {sz by_ es be : Nat} {z ze : Value} {ps : List (Nat × Operand)} {vs : List (Nat × Value)} {cs : List Value} {m : Nat} [hT : HasT P t (.slice e) sz by_ z] [hE : HasT P e de es be ze]
    (hi : ops[i]? = some ⟨some d, .buildSlice t m ps.toArray, ty, pos, af, none⟩) (hS : Chg [] w0 w)
    (hm : m * es ≤ 2 ^ 24) (hp : 0 < m * es) (hx : opndP s ps = some vs) (hf : Instr.fill (fun i => some (i * es, es)) ((Array.range (m * es)).map (ze.cells[· % ze.cells.size]!)) vs = some cs.toArray) (hd : Nat.blt d n = true)
    (k : ∀ b w', New w b (.cells cs.toArray e) w' → Chg [] w0 w' → WH P ops K (Chg [] w0) fuel (listed.setIfInBounds i true) n D ((d, .slice (some ⟨b, 0, none⟩) m m) :: s) w') : WHat P ops K (Chg [] w0) fuel listed n D s w i := by
  obtain ⟨b, w', he, hn⟩ := ev_buildSlice (P := P) (ty := ty) (w := w) (t := t) (hT := hT) (hE := hE) hm hp hx hf
  exact WHat.one i hi he (hS.trans hn.chg) hd (k b w' hn (hS.trans hn.chg))
theorem WH.buildSliceC (i : Nat) {w0 : World} {t e : TypeId} {de : TypeDesc} {sz by_ es be : Nat} {z ze : Value} {ps : List (Nat × Operand)} {vs : List (Nat × Value)} {cs : List Value} {m : Nat} [hT : HasT P t (.slice e) sz by_ z] [hE : HasT P e de es be ze]
    (hi : ops[i]? = some ⟨some d, .buildSlice t m ps.toArray, ty, pos, af, none⟩) (hr : Region.ready .any ops listed = [i]) (hS : Chg [] w0 w)
    (hm : m * es ≤ 2 ^ 24) (hp : 0 < m * es) (hx : opndP s ps = some vs) (hf : Instr.fill (fun i => some (i * es, es)) ((Array.range (m * es)).map (ze.cells[· % ze.cells.size]!)) vs = some cs.toArray) (hd : Nat.blt d n = true)
    (k : ∀ b w', New w b (.cells cs.toArray e) w' → Chg [] w0 w' → WH P ops K (Chg [] w0) fuel (listed.setIfInBounds i true) n D ((d, .slice (some ⟨b, 0, none⟩) m m) :: s) w') : WH P ops K (Chg [] w0) (fuel + 1) listed n D s w := by
  obtain ⟨b, w', he, hn⟩ := ev_buildSlice (P := P) (ty := ty) (w := w) (t := t) (hT := hT) (hE := hE) hm hp hx hf
  exact WH.one i hi hr he (hS.trans hn.chg) hd (k b w' hn (hS.trans hn.chg))
theorem WHat.allocC (i : Nat) {w0 : World} {t : TypeId} {ds : TypeDesc} {sz by_ : Nat} {z : Value} {l : List Value} [hT : HasT P t ds sz by_ z] (hi : ops[i]? = some ⟨some d, .alloc t, ty, pos, af, none⟩) (hS : Chg [] w0 w) (hl : z.cells = l.toArray) (hd : Nat.blt d n = true)
    (k : ∀ b w', BK w' b t l → Chg [] w w' → w.heap.size ≤ b → Chg [] w0 w' → WH P ops K (Chg [] w0) fuel (listed.setIfInBounds i true) n D ((d, .pointer (some ⟨b, 0, none⟩)) :: s) w') : WHat P ops K (Chg [] w0) fuel listed n D s w i := by
  have hn := new_alloc w (.cells l.toArray t)
  refine WHat.one i (v := .pointer (some ⟨w.heap.size, 0, none⟩)) (w' := w.alloc (.cells l.toArray t)) hi (fun ρ d' pos af g hρ => ?_) (hS.trans hn.chg) hd (k _ _ hn.at_ hn.chg hn.ge (hS.trans hn.chg))
  simp [execOp, Instr.alloc, hT.zero, newVar, newRow, hl]
theorem WH.allocC (i : Nat) {w0 : World} {t : TypeId} {ds : TypeDesc} {sz by_ : Nat} {z : Value} {l : List Value} [hT : HasT P t ds sz by_ z] (hi : ops[i]? = some ⟨some d, .alloc t, ty, pos, af, none⟩) (hr : Region.ready .any ops listed = [i]) (hS : Chg [] w0 w) (hl : z.cells = l.toArray) (hd : Nat.blt d n = true)
    (k : ∀ b w', BK w' b t l → Chg [] w w' → w.heap.size ≤ b → Chg [] w0 w' → WH P ops K (Chg [] w0) fuel (listed.setIfInBounds i true) n D ((d, .pointer (some ⟨b, 0, none⟩)) :: s) w') : WH P ops K (Chg [] w0) (fuel + 1) listed n D s w := fun a ha =>
  wpAnyH_all hr (by simp) fun j hj => by
    obtain rfl : j = i := by simpa using hj
    exact WHat.allocC j hi hS hl hd k a ha
theorem WH.storeBN (i : Nat) {w0 : World} {t : TypeId} {ds : TypeDesc} {sz by_ : Nat} {z0 : Value} {b o : Nat} {l l' vs : List Value} {T : TypeId} {x y : Operand} [hT : HasT P t ds sz by_ z0] (hi : ops[i]? = some ⟨none, .store t x y, ty, pos, af, none⟩) (hr : Region.ready .any ops listed = [i]) (hS : Chg [] w0 w) (hge : w0.heap.size ≤ b)
    (hx : opnd s x = some (.pointer (some ⟨b, o, none⟩))) (hy : opnd s y = some (.agg vs.toArray)) (hs : vs.length = sz) (h1 : ∀ v ∈ vs, v.oneCell' = true)
    (hb : BK w b T l) (ho : o + vs.length ≤ l.length) (he : splice l o vs = l') (k : ∀ w', BK w' b T l' → Chg [b] w w' → Chg [] w0 w' → WH P ops K (Chg [] w0) fuel (listed.setIfInBounds i true) n D s w') : WH P ops K (Chg [] w0) (fuel + 1) listed n D s w := by
  subst he
  obtain ⟨w', he, hu⟩ := evS_storeAgg (P := P) (ty := ty) (t := t) (hT := hT) hx hy hs h1 hb ho
  have hS' : Chg [] w0 w' := hS.step hu.chg fun y hy => .inr (by simp only [List.mem_singleton] at hy; omega)
  exact WH.oneS i hi hr he hS' (k w' hu.at_ hu.chg hS')
end
end Sx

/- What the reference of layer 2 computes, in plain numbers. No condition. -/
section
open Go Sx Wd

theorem wd_take {l : List Nat} (h : W l) : wd (val l) = l.take (wd (val l)).length := by
  have hle := wd_length_val_le h
  refine eq_of_val (W_wd _) (h.take _) (by rw [List.length_take]; omega) ?_
  rw [val_wd, val_take h _ hle, Nat.mod_eq_of_lt (wd_length_le.1 (Nat.le_refl _))]
theorem take_len {l : List Nat} {k : Nat} (h : k ≤ l.length) : (l.take k).length = k := by rw [List.length_take]; omega
structure PlusI (la lb : List Nat) (i : Nat) (L : List Nat) (c : Nat) : Prop where
  le : i ≤ max la.length lb.length ∨ i = max la.length lb.length + 1 ∧ c = 0
  len : L.length = i
  w : W L
  c1 : c ≤ 1
  v : val L + 2 ^ (32 * i) * c = val (la.take i) + val (lb.take i)
theorem PlusI.zero (la lb : List Nat) : PlusI la lb 0 [] 0 := ⟨.inl (Nat.zero_le _), rfl, W_nil, by omega, by simp [val]⟩
theorem PlusI.step {la lb L : List Nat} {i c : Nat} (h : PlusI la lb i L c) (ha : W la) (hb : W lb) (hi : (i < la.length ∨ i < lb.length) ∨ 0 < c) :
    PlusI la lb (i + 1) (L ++ [(la.getD i 0 + lb.getD i 0 + c) % 4294967296]) ((la.getD i 0 + lb.getD i 0 + c) / 2 ^ 32) := by
  have h1 := ha.getD i
  have h2 := hb.getD i
  have h3 := h.c1
  refine ⟨?_, by simp [h.len], W_append.2 ⟨h.w, W_cons.2 ⟨by omega, W_nil⟩⟩, by omega, ?_⟩
  · rcases h.le with q | ⟨q, q2⟩
    · by_cases e : i = max la.length lb.length
      · right
        rw [getD_out (l := la) (by omega), getD_out (l := lb) (by omega)]
        exact ⟨by omega, by omega⟩
      · left; omega
    · omega
  · rw [val_snoc, h.len, val_take_succ', val_take_succ', two32]
    have := h.v
    generalize la.getD i 0 = a at *
    generalize lb.getD i 0 = b at *
    generalize 2 ^ (32 * i) = p at *
    have e : p * ((a + b + c) % 4294967296) + p * 4294967296 * ((a + b + c) / 2 ^ 32) = p * a + p * b + p * c := by
      rw [show (2 : Nat) ^ 32 = 4294967296 from rfl, Nat.mul_assoc, ← Nat.mul_add, Nat.mod_add_div, Nat.mul_add, Nat.mul_add]
    omega
theorem PlusI.done {la lb L : List Nat} {i c : Nat} (h : PlusI la lb i L c) (hi : ¬ ((i < la.length ∨ i < lb.length) ∨ 0 < c)) : val L = val la + val lb := by
  have := h.v
  rw [List.take_of_length_le (by omega), List.take_of_length_le (by omega), show c = 0 by omega] at this
  simpa using this
theorem PlusI.len_le {la lb L : List Nat} {i c : Nat} (h : PlusI la lb i L c) : i ≤ max la.length lb.length + 1 := by
  rcases h.le with q | ⟨q, _⟩ <;> omega
structure MinusI (la lb : List Nat) (i : Nat) (L : List Nat) (c : Nat) : Prop where
  le : i ≤ la.length
  len : L.length = i
  w : W L
  c1 : c ≤ 1
  v : val L + val (lb.take i) = val (la.take i) + 2 ^ (32 * i) * c
theorem MinusI.zero (la lb : List Nat) : MinusI la lb 0 [] 0 := ⟨Nat.zero_le _, rfl, W_nil, by omega, by simp [val]⟩
theorem MinusI.step {la lb L : List Nat} {i c : Nat} (h : MinusI la lb i L c) (ha : W la) (hb : W lb) (hi : i < la.length) :
    MinusI la lb (i + 1) (L ++ [(la.getD i 0 + 4294967296 - lb.getD i 0 - c) % 4294967296]) (1 - (la.getD i 0 + 4294967296 - lb.getD i 0 - c) / 2 ^ 32) := by
  have h1 := ha.getD i
  have h2 := hb.getD i
  have h3 := h.c1
  refine ⟨hi, by simp [h.len], W_append.2 ⟨h.w, W_cons.2 ⟨by omega, W_nil⟩⟩, by omega, ?_⟩
  rw [val_snoc, h.len, val_take_succ', val_take_succ', two32]
  have := h.v
  generalize la.getD i 0 = a at *
  generalize lb.getD i 0 = b at *
  generalize 2 ^ (32 * i) = p at *
  have e0 : a + 4294967296 * (1 - (a + 4294967296 - b - c) / 2 ^ 32) = (a + 4294967296 - b - c) % 4294967296 + b + c := by omega
  have e : p * a + p * 4294967296 * (1 - (a + 4294967296 - b - c) / 2 ^ 32) = p * ((a + 4294967296 - b - c) % 4294967296) + p * b + p * c := by
    rw [Nat.mul_assoc, ← Nat.mul_add, e0, Nat.mul_add, Nat.mul_add]
  omega
theorem MinusI.done {la lb L : List Nat} {c : Nat} (h : MinusI la lb la.length L c) (ha : W la) (hb : W lb) (hle : val lb ≤ val la) : val L = val la - val lb := by
  have h1 := h.v
  have h2 := val_lt h.w
  have h3 := val_lt ha
  have h4 := h.c1
  rw [h.len] at h2
  rw [List.take_length] at h1
  have e : val (lb.take la.length) = val lb := by
    by_cases q : la.length ≤ lb.length
    · rw [val_take hb _ q, Nat.mod_eq_of_lt (by omega)]
    · rw [List.take_of_length_le (by omega)]
  rw [e] at h1
  generalize 2 ^ (32 * la.length) = p at *
  have : c = 0 ∨ c = 1 := by omega
  rcases this with rfl | rfl <;> omega
/-- Digit by digit, from above. -/
structure PartI (la : List Nat) (b k : Nat) (Q : List Nat) (r : Nat) : Prop where
  le : k ≤ la.length
  len : Q.length = la.length
  w : W Q
  z : ∀ j, j < k → Q.getD j 0 = 0
  rl : r < b
  v : val (la.drop k) = val (Q.drop k) * b + r
theorem PartI.zero (la : List Nat) {b : Nat} (hb : 0 < b) : PartI la b la.length (List.replicate la.length 0) 0 := by
  refine ⟨Nat.le_refl _, by simp, W_replicate _, fun j _ => getD_replicate _ _, hb, ?_⟩
  rw [List.drop_length, List.drop_eq_nil_of_le (by simp)]
  simp [val]
theorem PartI.bound {la Q : List Nat} {b k r : Nat} (h : PartI la b k Q r) (ha : W la) : la.getD (k - 1) 0 + 4294967296 * r < b * 4294967296 := by
  have h1 := ha.getD (k - 1)
  have h2 := h.rl
  have : (r + 1) * 4294967296 ≤ b * 4294967296 := Nat.mul_le_mul_right _ h2
  omega
theorem PartI.step {la Q : List Nat} {b k r : Nat} (h : PartI la b k Q r) (ha : W la) (hk : 0 < k) :
    PartI la b (k - 1) (Q.set (k - 1) ((la.getD (k - 1) 0 + 4294967296 * r) / b)) ((la.getD (k - 1) 0 + 4294967296 * r) - b * ((la.getD (k - 1) 0 + 4294967296 * r) / b)) := by
  have hle := h.le
  have hlen := h.len
  have hbd := h.bound ha
  obtain ⟨i, rfl⟩ : ∃ i, k = i + 1 := ⟨k - 1, by omega⟩
  rw [show i + 1 - 1 = i by omega] at *
  have hb0 : 0 < b := Nat.lt_of_le_of_lt (Nat.zero_le _) h.rl
  have hd := val_drop_succ (l := la) (i := i) (by omega)
  have hv := h.v
  generalize hx : la.getD i 0 + 4294967296 * r = x at *
  have hq : x / b < 4294967296 := (Nat.div_lt_iff_lt_mul hb0).2 (by rw [Nat.mul_comm]; exact hbd)
  have hm := Nat.div_add_mod x b
  have hml := Nat.mod_lt x hb0
  refine ⟨by omega, by simp [h.len], h.w.set _ hq, fun j hj => ?_, by omega, ?_⟩
  · rw [Wd.getD_set_ne (i := i) (j := j) (by omega)]; exact h.z j (by omega)
  · have e := val_drop_succ (l := Q.set i (x / b)) (i := i) (by rw [List.length_set]; omega)
    rw [Wd.getD_set_self (by omega), show (Q.set i (x / b)).drop (i + 1) = Q.drop (i + 1) from List.drop_set_of_lt (by omega)] at e
    rw [hd, e, hv, Nat.add_mul, Nat.mul_add, Nat.mul_assoc]
    have : x / b * b = b * (x / b) := Nat.mul_comm _ _
    omega
theorem PartI.stay {la Q : List Nat} {b k r : Nat} (h : PartI la b k Q r) (ha : W la) (hk : 0 < k) (hlt : la.getD (k - 1) 0 + 4294967296 * r < b) :
    PartI la b (k - 1) Q (la.getD (k - 1) 0 + 4294967296 * r) := by
  have hle := h.le
  have hlen := h.len
  obtain ⟨i, rfl⟩ : ∃ i, k = i + 1 := ⟨k - 1, by omega⟩
  rw [show i + 1 - 1 = i by omega] at *
  have hd := val_drop_succ (l := la) (i := i) (by omega)
  have he := val_drop_succ (l := Q) (i := i) (by omega)
  have hv := h.v
  have hz := h.z i (by omega)
  refine ⟨by omega, h.len, h.w, fun j hj => h.z j (by omega), hlt, ?_⟩
  rw [hd, he, hv, hz, Nat.zero_add, Nat.mul_add, Nat.mul_assoc]
  omega
theorem PartI.done {la Q : List Nat} {b r : Nat} (h : PartI la b 0 Q r) : val Q = val la / b ∧ r = val la % b := by
  have hv := h.v
  have hr := h.rl
  rw [List.drop_zero, List.drop_zero] at hv
  rw [hv, Nat.mul_comm]
  exact ⟨by rw [Nat.mul_add_div (by omega), Nat.div_eq_of_lt hr, Nat.add_zero], by rw [Nat.mul_add_mod, Nat.mod_eq_of_lt hr]⟩
theorem tz_bits {n : Nat} (h : n ≠ 0) : n.testBit (tz n) = true ∧ ∀ j, j < tz n → n.testBit j = false := by
  obtain ⟨h1, h2⟩ := tz_spec h
  refine ⟨by rw [Nat.testBit_eq_decide_div_mod_eq]; exact decide_eq_true h1, fun j hj => ?_⟩
  rw [Nat.testBit_eq_decide_div_mod_eq]
  refine decide_eq_false ?_
  have e : n / 2 ^ j = n / 2 ^ tz n * 2 ^ (tz n - j - 1) * 2 := by
    conv => lhs; rw [h2]
    rw [show (2 : Nat) ^ tz n = 2 ^ (tz n - j - 1) * 2 * 2 ^ j by rw [← Nat.pow_succ, ← Nat.pow_add]; congr 1; omega, ← Nat.mul_assoc, Nat.mul_div_cancel _ (Nat.two_pow_pos j), Nat.mul_assoc, Nat.mul_assoc]
  rw [e, Nat.mul_mod_left]
  decide
theorem bl_half {x : Nat} (h : x ≠ 0) : bl x = bl (x / 2) + 1 := by
  by_cases h1 : x = 1
  · subst h1; decide
  · have := bl_shift (x := x) (k := 1) (by omega)
    rw [this]; simp [Nat.add_comm]
theorem val_zeros (k : Nat) (l : List Nat) : val (List.replicate k 0 ++ l) = val l * 2 ^ (32 * k) := by
  rw [val_append, val_replicate, List.length_replicate, Nat.zero_add, Nat.mul_comm]
/-- v's memory is newer than w0. -/
def Fh (w0 : World) (v : Value) : Prop := ∀ ad m c, v = .slice (some ad) m c → w0.heap.size ≤ ad.block
/-- v lies in no word of block b. -/
def Av (b : Nat) (v : Value) : Prop := ∀ ad m c, v = .slice (some ad) m c → ad.block ≠ b
theorem Fh.mono {w0 w1 : World} {v : Value} (h : Fh w1 v) (hs : w0.heap.size ≤ w1.heap.size) : Fh w0 v := fun ad m c e => Nat.le_trans hs (h ad m c e)
theorem Fh.av {w0 : World} {v : Value} {b : Nat} (h : Fh w0 v) (hb : b < w0.heap.size) : Av b v := fun ad m c e => by
  have := h ad m c e
  omega
theorem Fh.nil {w0 : World} {m c : Nat} : Fh w0 (.slice none m c) := fun ad m c e => by cases e
theorem Av.nil {b m c : Nat} : Av b (.slice none m c) := fun ad m c e => by cases e
theorem GR.fh {w w0 : World} {e : TypeId} {f : Nat → Value} {X : List Nat} {v : Value} {l : List Nat} {lo : Nat} (h : GR w e f lo X v l) (hlo : w0.heap.size ≤ lo) : Fh w0 v := fun ad m c e => by
  subst e
  have := (h.2 ad.block rfl).1
  omega
theorem NU.keepOB {w w' : World} {v : Value} {l : List Nat} {b : Nat} {E : TypeId} {lb : List Nat} (h : NU w v l) (hb : OB w b E lb) (hc : Chg [b] w w') (hn : Av b v) : NU w' v l := by
  obtain ⟨⟨a, c, rfl, h2, h3⟩, h4, h5⟩ := h
  exact ⟨⟨a, c, rfl, h2, h3.keepB hc fun ad e => by subst e; have := hn ad _ _ rfl; simpa using this⟩, h4, h5⟩
theorem sgn_le {a b : Nat} : sgn a b ≤ 0 ↔ a ≤ b := by unfold sgn; split <;> (try split) <;> omega
theorem sgn_ge {a b : Nat} : 0 ≤ sgn a b ↔ b ≤ a := by unfold sgn; split <;> (try split) <;> omega
theorem sgn_zero {a b : Nat} : sgn a b = 0 ↔ a = b := by unfold sgn; split <;> (try split) <;> omega
theorem len_up {x v k : Nat} (h : x < v * 4294967296) (hv : v < 2 ^ (32 * k)) : (wd x).length ≤ k + 1 :=
  wd_length_le.2 (Nat.lt_of_lt_of_le h (by rw [two32]; exact Nat.mul_le_mul_right _ (Nat.le_of_lt hv)))
theorem wd_one (m : Nat) (h : m < 4294967296) : val [m] = m := by simp [val]
end

/- Reference of layer 2: size, Norm, Of, at, Bit, Len, Low. No condition. -/
section
open Go Sx Wd

structure K0s (l : List Nat) (w : World) (k : Nat) (wr : World) : Prop where
  le : k ≤ l.length
  vl : val (l.take k) = val l
  eq : w = wr

theorem r2size_spec (v : Value) (l : List Nat) (w : World) (h : NU w v l) : Ret Tryz.prog 310 [v] w fun u w' => u = .int .i64 ((wd (val l)).length : Int) ∧ w = w' := by
 obtain ⟨⟨al, cl, rfl, hcapl, hrl⟩, hWl, hll⟩ := h;have hch : Chg [] w w := Chg.refl _ _;refine zE1 Tryz.func310 rfl ?_;refine Sr fun _ kh1 => za rfl (zz (kh1 (Sr fun _ kh3 => zm rfl (zn rfl (za rfl (zz (kh3 (zc fun _ kh5 => ?_))))))));refine CW.block ?_;refine CW.loop (S := fun k : Nat => [(0, .slice al l.length cl), (3, .int .i64 (k : Int))]) (Inv := K0s l w) (mu := fun k => k) (l.length) ?_ ?_ ?_
 ·exact ⟨Nat.le_refl _, by rw [List.take_length], rfl⟩
 ·exact SLp
 ·rintro k _ ⟨hkl, hvl, rfl⟩;refine zc fun _ kh6 => ?_;refine CW.seqM 15 (decide (0 < k ∧ l.getD (k - 1) 0 = 0)) ?_ ?_
  ·refine zR fun _ kr7 => ?_;refine zm rfl ?_;refine WL.ev (Ev.gtr rfl rfl) rfl ?_;refine zm rfl ?_;refine zb ?_ ?_<;>intro hg1<;>try simp only [qs] at hg1
   ·refine zw rfl (zm rfl (zw rfl (zm rfl (zw rfl ?_))))
    first | refine WL.ev (Ev.subIn rfl rfl (by omega)) rfl ?_ | refine WL.ev (Ev.sub rfl rfl) rfl ?_
    refine zw rfl ?_;refine WL.ev (Ev.ixR ((k - 1)) rfl rfl (hrl.keep0 hch) (by omega) (by omega) (by simp; omega)) rfl ?_;refine zw rfl ?_;refine WL.ev (Ev.load rfl rfl ((hrl.keep0 hch).u32 (by first | omega | (simp; omega)))) rfl ?_;have hw13 := hWl.getD ((k - 1));refine zw rfl (zq rfl rfl (zt rfl rfl ?_));refine WL.nil (kr7 _ _ _ ?_);refine ⟨rfl, rfl, Subs.consB rfl ?_ ?_⟩
    ·first | (simp; omega) | (refine decide_eq_decide.2 ?_; omega)
    ·exact SMg
   ·refine zv rfl (zv rfl (zv rfl (zv rfl (zv rfl (zv rfl (ze rfl rfl ?_))))));refine WL.nil (kr7 _ _ _ ?_);refine ⟨rfl, rfl, Subs.consB rfl ?_ ?_⟩
    ·first | (simp; omega) | (refine decide_eq_decide.2 ?_; omega)
    ·exact SMg
  ·refine zy rfl ?_ ?_<;>intro hc2<;>try simp only [qs] at hc2
   ·refine zkk ?_
    refine kh6 ?_;refine CW.block ?_;refine zR fun _ kr8 => ?_;refine zm rfl ?_
    first | refine WL.ev (Ev.subIn rfl rfl (by omega)) rfl ?_ | refine WL.ev (Ev.sub rfl rfl) rfl ?_
    refine za rfl ?_;refine WL.nil (kr8 _ _ _ ?_);refine ⟨rfl, k - 1, ?_, ?_, ?_⟩
    ·exact SLp
    ·exact ⟨by omega, by rw [take_pred hkl (by omega) (by omega)]; exact hvl, rfl⟩
    ·omega
   ·refine CW.exit ?_
    refine kh5 (Sr fun _ kh9 => zm rfl (za rfl (zz (kh9 ?_))));refine zr (zr1 rfl rfl ?_);rw [cut_wd hWl hkl hvl (by omega), take_len hkl];exact ⟨rfl, rfl⟩

theorem r2Norm_spec (v : Value) (l : List Nat) (w : World) (h : NU w v l) (hlm : (wd (val l)).length ≤ 35184372088832) : Ret Tryz.prog 305 [v] w fun u w' => NU w' u (wd (val l)) ∧ Chg [] w w' ∧ Fh w u := by
 have hv0 := h;obtain ⟨⟨al, cl, rfl, hcapl, hrl⟩, hWl, hll⟩ := h;have hch : Chg [] w w := Chg.refl _ _;obtain ⟨k, hk⟩ : ∃ k, k = (wd (val l)).length := ⟨_, rfl⟩;have hkle : k ≤ l.length := by rw [hk]; exact wd_length_val_le hWl
 have hwt : wd (val l) = l.take k := by rw [hk]; exact wd_take hWl
 rw [← hk] at hlm;have hkl := take_len hkle;refine zE1 Tryz.func305 rfl ?_;refine Sr fun _ kh1 => za rfl (zz (kh1 (Sr fun _ kh3 => za rfl (zz (kh3 (Sr fun _ kh5 => zm rfl (zm rfl (zm rfl ?_))))))));refine WL.call hasF310 rfl rfl (r2size_spec _ _ _ hv0) fun v w1 h' => ?_;obtain ⟨rfl, rfl⟩ := h';rw [← hk];refine WL.ev (Ev.sliceHn (k) rfl rfl rfl (by omega)) rfl ?_;have hr8 : RW w al ((l.take k).map u32v) := by rw [List.map_take]; exact hrl.take k
 refine WL.growR (f := u32v) (lo := w.heap.size) (X := []) (l := []) (news := (l.take k)) (by rfl) (fun i => rfl) rfl rfl GR.nil (by first | rfl | (simp; done) | (simp; omega) | omega) (hr8.keep0 hch) (by first | omega | exact hch.size | exact Nat.le_refl _) (by simp) (by simp only [List.length_append, List.length_cons, List.length_nil]; omega) (by simp only [List.length_append, List.length_cons, List.length_nil]; omega) rfl fun v9 w9 hg9 hcg9 => ?_;have hch := hch.trans (Chg.any (by simpa [Value.ownBlock] using hcg9));have hg_vo := hg9;rw [show ([] ++ (l.take k)) = (l.take k) from by rfl] at hg_vo;refine za rfl (zz (kh5 ?_));refine zr (zr1 rfl rfl ?_);rw [hwt];exact ⟨hg_vo.nu (hWl.take k) (by omega), hch, hg_vo.fh (Nat.le_refl _)⟩

theorem r2Of_spec (n : Nat) (w : World) (hn : n < 18446744073709551616) : Ret Tryz.prog 245 [.int .u64 (n : Int)] w fun u w' => NU w' u (wd n) ∧ Chg [] w w' ∧ Fh w u := by
 have hch : Chg [] w w := Chg.refl _ _;refine zE1 Tryz.func245 rfl ?_;refine Sr fun _ kh1 => za rfl (zz (kh1 (zc fun _ kh3 => ?_)));have hv8 : val [n % 4294967296, n / 2 ^ 32 % 4294967296] = n := by simp only [val]; omega
 have hW8 : W [n % 4294967296, n / 2 ^ 32 % 4294967296] := W_cons.2 ⟨by omega, W_cons.2 ⟨by omega, W_nil⟩⟩;have hl8 := wd_length_val_le hW8;simp only [List.length_cons, List.length_nil] at hl8;refine zR fun _ kr4 => ?_;refine zm rfl ?_;refine WL.ev (Ev.conv32 rfl rfl) rfl ?_;refine zm rfl ?_;refine WL.ev (Ev.shrU (b := 32) rfl rfl (by simp only [IntKind.bits]; omega)) rfl ?_;refine WL.ev (Ev.conv32 rfl rfl) rfl ?_;refine WL.buildSlice (m := 2) (cs := [u32v ((n % 4294967296)), u32v (((n / 2 ^ 32) % 4294967296))]) (by decide) (by decide) rfl (by kernel_rfl) rfl fun b8 w8 hn8 => ?_;have hcm8 := hn8.chg;have hge8 := hn8.ge;have hb8 : OB w8 b8 _ [(n % 4294967296), ((n / 2 ^ 32) % 4294967296)] := hn8.at_;have hgehch8 := Nat.le_trans hch.size hge8;have hch := hch.ta hcm8;refine WL.call hasF305 rfl rfl (r2Norm_spec _ _ _ (NU.of_block hb8 hW8 (by simp) rfl (by omega)) (by omega)) fun v w1 h' => ?_;obtain ⟨hN, hC, hF⟩ := h';rw [hv8] at hN;have hF := hF.mono hch.size;have hch := hch.ta hC;refine za rfl ?_;refine WL.nil (kr4 _ _ _ (kh3 ?_));refine zr (zr1 rfl rfl ?_);exact ⟨hN, hch, hF⟩

theorem r2at_spec (v : Value) (l : List Nat) (w : World) (h : NU w v l) (i : Nat) (hi : i < 9223372036854775808) : Ret Tryz.prog 309 [v, .int .i64 (i : Int)] w fun u w' => u = .int .u64 ((l.getD i 0 : Nat) : Int) ∧ w = w' := by
 obtain ⟨⟨al, cl, rfl, hcapl, hrl⟩, hWl, hll⟩ := h;have hch : Chg [] w w := Chg.refl _ _;refine zE2 Tryz.func309 rfl ?_;refine Sr fun _ kh1 => za rfl (zz (kh1 (zc fun _ kh3 => Sr fun _ kh4 => zm rfl (zm rfl (zn rfl ?_)))));refine WL.ev (Ev.geq rfl rfl) rfl ?_;refine zz (kh4 ?_);refine zy rfl ?_ ?_<;>intro hc1<;>try simp only [qs] at hc1
 ·refine Sr fun _ kh6 => za rfl (zz (kh6 ?_));refine zr (zr1 rfl rfl ?_);rw [getD_out (by omega)];exact ⟨rfl, rfl⟩
 ·have hwi := hWl.getD i
  refine zkk ?_;refine kh3 (Sr fun _ kh8 => zm rfl (zm rfl ?_));refine WL.ev (Ev.ixR (i) rfl rfl (hrl.keep0 hch) (by omega) (by omega) (by simp; omega)) rfl ?_;refine WL.ev (Ev.load rfl rfl ((hrl.keep0 hch).u32 (by first | omega | (simp; omega)))) rfl ?_;have hw12 := hWl.getD (i);refine WL.ev (Ev.convIn rfl rfl (in_u64 (by omega))) rfl ?_;refine za rfl (zz (kh8 ?_));refine zr (zr1 rfl rfl ?_);exact ⟨rfl, rfl⟩

theorem r2Bit_spec (v : Value) (l : List Nat) (w : World) (h : NU w v l) (n : Nat) (hi : n < 9223372036854775808) : Ret Tryz.prog 336 [v, .int .i64 (n : Int)] w fun u w' => u = .bool ((val l).testBit n) ∧ w = w' := by
 obtain ⟨⟨al, cl, rfl, hcapl, hrl⟩, hWl, hll⟩ := h;have hch : Chg [] w w := Chg.refl _ _;have htb := testBit_words hWl n;refine zE2 Tryz.func336 rfl ?_;refine Sr fun _ kh1 => za rfl (zz (kh1 (zc fun _ kh3 => ?_)));refine CW.seqM 13 (decide (l.length ≤ n / 32)) ?_ ?_
 ·refine zR fun _ kr4 => ?_;refine zm rfl ?_;refine WL.ev (Ev.lss rfl rfl) rfl ?_;refine zm rfl ?_;refine zb ?_ ?_<;>intro hg1<;>try simp only [qs] at hg1
  ·refine zv rfl (zv rfl (zv rfl (zv rfl (zv rfl (zt rfl rfl ?_)))));refine WL.nil (kr4 _ _ _ ?_);refine ⟨rfl, rfl, Subs.consB rfl ?_ ?_⟩
   ·first | (exfalso; omega) | (simp; omega) | (refine decide_eq_decide.2 ?_; omega)
   ·exact SMg
  ·refine zw rfl (zm rfl (zw rfl ?_));refine WL.ev (Ev.quoIn (b := 32) rfl rfl (by omega) (by simp only [IntKind.max, IntKind.signed, IntKind.bits]; omega) (by omega)) rfl ?_
   rw [show (n : Int) / 32 = ((n / 32 : Nat) : Int) by omega];refine zw rfl (zm rfl (zw rfl (zn rfl (zw rfl ?_))));refine WL.ev (Ev.geq rfl rfl) rfl ?_;refine ze rfl rfl ?_;refine WL.nil (kr4 _ _ _ ?_);refine ⟨rfl, rfl, Subs.consB rfl ?_ ?_⟩
   ·first | (exfalso; omega) | (simp; omega) | (refine decide_eq_decide.2 ?_; omega)
   ·exact SMg
 ·refine zy rfl ?_ ?_<;>intro hc2<;>try simp only [qs] at hc2
  ·refine Sr fun _ kh5 => za rfl (zz (kh5 ?_));refine zr (zr1 rfl rfl ?_);refine ⟨?_, rfl⟩;rw [htb, getD_out (by omega)];simp
  ·refine zkk ?_
   refine kh3 (Sr fun _ kh7 => zm rfl (zm rfl ?_));refine WL.ev (Ev.quoIn (b := 32) rfl rfl (by omega) (by simp only [IntKind.max, IntKind.signed, IntKind.bits]; omega) (by omega)) rfl ?_;rw [show (n : Int) / 32 = ((n / 32 : Nat) : Int) by omega];refine WL.ev (Ev.ixR ((n / 32)) rfl rfl (hrl.keep0 hch) (by omega) (by omega) (by simp; omega)) rfl ?_;refine WL.ev (Ev.load rfl rfl ((hrl.keep0 hch).u32 (by first | omega | (simp; omega)))) rfl ?_;have hw18 := hWl.getD ((n / 32));refine zm rfl ?_;refine WL.ev (Ev.remIn (b := 32) rfl rfl (by omega) (by omega)) rfl ?_;rw [show (n : Int) % 32 = ((n % 32 : Nat) : Int) by omega];refine WL.ev (Ev.shrU rfl rfl (by simp only [IntKind.bits]; omega)) rfl ?_;have hq2 : l.getD (n / 32) 0 / 2 ^ (n % 32) ≤ l.getD (n / 32) 0 := Nat.div_le_self _ _;refine WL.ev (Ev.andU (b := 1) rfl rfl rfl (by simp only [IntKind.bits]; omega) (by simp only [IntKind.bits]; omega)) rfl ?_;rw [Nat.and_one_is_mod];refine zq rfl rfl (za rfl (zz (kh7 ?_)));refine zr (zr1 rfl rfl ?_);refine ⟨?_, rfl⟩;rw [htb]
   congr 1
   refine decide_eq_decide.2 ?_;omega

structure KLns (x0 B : Nat) (w : World) (g : Nat × Nat) (wr : World) : Prop where
  le : g.1 ≤ x0
  eq : g.2 + bl g.1 = B
  w_ : w = wr

theorem r2Len_spec (v : Value) (l : List Nat) (w : World) (h : NU w v l) (hlm : l.length ≤ 35184372088832) : Ret Tryz.prog 304 [v] w fun u w' => u = .int .i64 (bl (val l) : Int) ∧ w = w' := by
 have hv0 := h;obtain ⟨⟨al, cl, rfl, hcapl, hrl⟩, hWl, hll⟩ := h;have hch : Chg [] w w := Chg.refl _ _;obtain ⟨k, hk⟩ : ∃ k, k = (wd (val l)).length := ⟨_, rfl⟩;have hkle : k ≤ l.length := by rw [hk]; exact wd_length_val_le hWl
 have hwt : wd (val l) = l.take k := by rw [hk]; exact wd_take hWl
 have hvw := val_wd (val l);have hnz := wd_length_pos (n := val l);have hkl := take_len hkle;refine zE1 Tryz.func304 rfl ?_;refine Sr fun _ kh1 => za rfl (zz (kh1 (Sr fun _ kh3 => zm rfl ?_)));refine WL.call hasF310 rfl rfl (r2size_spec _ _ _ hv0) fun v w1 h' => ?_;obtain ⟨rfl, rfl⟩ := h';rw [← hk];refine za rfl (zz (kh3 (zc fun _ kh5 => Sr fun _ kh6 => zm rfl (zq rfl rfl (zz (kh6 ?_))))));refine zy rfl ?_ ?_<;>intro hc1<;>try simp only [qs] at hc1
 ·refine Sr fun _ kh8 => za rfl (zz (kh8 ?_));refine zr (zr1 rfl rfl ?_);have hv0 : val l = 0 := by omega
  rw [hv0];exact ⟨rfl, rfl⟩
 ·have hlast := wd_last (show val l ≠ 0 by omega);rw [← hk, hwt] at hlast
  have hgt : (l.take k).getD (k - 1) 0 = l.getD (k - 1) 0 := by rw [List.getD_eq_getElem?_getD, List.getD_eq_getElem?_getD, List.getElem?_take, if_pos (by omega)]
  have hbl := bl_val (hWl.take k) (fun e => by rw [e] at hkl; simp at hkl; omega) (by rw [hkl]; exact hlast);rw [hkl, hgt, ← hwt, hvw] at hbl;have hb32 := bl_le.2 (show l.getD (k - 1) 0 < 2 ^ 32 from hWl.getD _);refine zkk ?_;refine kh5 (Sr fun _ kh10 => zm rfl ?_)
  first | refine WL.ev (Ev.subIn rfl rfl (by omega)) rfl ?_ | refine WL.ev (Ev.sub rfl rfl) rfl ?_
  refine WL.ev (Ev.mulIn rfl rfl (by omega)) rfl ?_;refine za rfl (zz (kh10 (zc fun _ kh12 => Sr fun _ kh13 => zm rfl (zm rfl ?_))))
  first | refine WL.ev (Ev.subIn rfl rfl (by omega)) rfl ?_ | refine WL.ev (Ev.sub rfl rfl) rfl ?_
  refine WL.ev (Ev.ixR ((k - 1)) rfl rfl (hrl.keep0 hch) (by omega) (by omega) (by simp; omega)) rfl ?_;refine WL.ev (Ev.load rfl rfl ((hrl.keep0 hch).u32 (by first | omega | (simp; omega)))) rfl ?_;have hw17 := hWl.getD ((k - 1));refine za rfl (zz (kh13 ?_));refine CW.block ?_;refine CW.loop (S := fun g : Nat × Nat => [(4, .int .i64 (g.2 : Int)), (5, .int .u32 (g.1 : Int))]) (Inv := KLns (l.getD (k - 1) 0) (bl (val l)) w) (mu := fun g => g.1) ((l.getD (k - 1) 0, 32 * (k - 1))) ?_ ?_ ?_
  ·exact ⟨Nat.le_refl _, by dsimp only; omega, rfl⟩
  ·exact SLp
  ·rintro ⟨x, q⟩ _ ⟨hx, hq, rfl⟩;dsimp only at hx hq;dsimp only;have hwx := hWl.getD (k - 1);refine zc fun _ kh15 => Sr fun _ kh16 => zm rfl ?_;refine WL.ev (Ev.gtr rfl rfl) rfl ?_;refine zz (kh16 ?_);refine zy rfl ?_ ?_<;>intro hc2<;>try simp only [qs] at hc2
   ·refine zkk ?_
    refine kh15 (zc fun _ kh18 => ?_);refine CW.block ?_;refine zR fun _ kr19 => ?_;refine zm rfl ?_;(first | refine zi rfl rfl ?_ | refine zo rfl rfl ?_);refine za rfl ?_;refine WL.nil (kr19 _ _ _ (kh18 ?_));refine zR fun _ kr20 => ?_;refine zm rfl ?_;refine WL.ev (Ev.quoU (b := 2) rfl rfl (by omega) (in_u32 (by omega)).2) rfl ?_;refine za rfl ?_;refine WL.nil (kr20 _ _ _ ?_);refine ⟨rfl, (x / 2, q + 1), ?_, ?_, ?_⟩
    ·exact SLp
    ·exact ⟨by dsimp only; omega, by dsimp only; have := bl_half (x := x) (by omega); omega, rfl⟩
    ·show x / 2 < x; omega
   ·refine CW.exit ?_
    refine kh12 (Sr fun _ kh21 => zm rfl (za rfl (zz (kh21 ?_))));refine zr (zr1 rfl rfl ?_);have hx0 : x = 0 := by omega
    rw [hx0, bl_zero] at hq;exact ⟨by first | rfl | (congr 1; omega), rfl⟩

structure KLws (n : Nat) (w : World) (i : Nat) (wr : World) : Prop where
  le : i ≤ tz n
  w_ : w = wr

theorem r2Low_spec (v : Value) (l : List Nat) (w : World) (h : NU w v l) (hlm : l.length ≤ 35184372088832) : Ret Tryz.prog 315 [v] w fun u w' => u = .int .i64 (tz (val l) : Int) ∧ w = w' := by
  have hv0 := h;obtain ⟨⟨al, cl, rfl, hcapl, hrl⟩, hWl, hll⟩ := h;have hch : Chg [] w w := Chg.refl _ _;obtain ⟨k, hk⟩ : ∃ k, k = (wd (val l)).length := ⟨_, rfl⟩;have hkle : k ≤ l.length := by rw [hk]; exact wd_length_val_le hWl
  have hnz := wd_length_pos (n := val l);refine zE1 Tryz.func315 rfl ?_;refine Sr fun _ kh1 => za rfl (zz (kh1 (zc fun _ kh3 => Sr fun _ kh4 => zm rfl ?_)));refine WL.call hasF310 rfl rfl (r2size_spec _ _ _ hv0) fun v w1 h' => ?_;obtain ⟨rfl, rfl⟩ := h';rw [← hk];refine zq rfl rfl (zz (kh4 ?_));refine zy rfl ?_ ?_<;>intro hc1<;>try simp only [qs] at hc1
  · refine Sr fun _ kh6 => za rfl (zz (kh6 ?_));refine zr (zr1 rfl rfl ?_);have hv0 : val l = 0 := by omega
    rw [hv0, tz_zero];exact ⟨rfl, rfl⟩
  · have hn0 : val l ≠ 0 := by omega
    obtain ⟨htb, htf⟩ := tz_bits hn0;have htl : tz (val l) < 32 * l.length := Nat.lt_of_lt_of_le (tz_lt_bl hn0) (bl_le.2 (val_lt hWl));refine zkk ?_;refine kh3 (Sr fun _ kh8 => za rfl (zz (kh8 (zc fun _ kh10 => ?_))));refine CW.block ?_;refine CW.loop (S := fun i : Nat => [(0, .slice al l.length cl), (3, .int .i64 (i : Int))]) (Inv := KLws (val l) w) (mu := fun i => tz (val l) - i) (0) ?_ ?_ ?_
    · exact ⟨Nat.zero_le _, rfl⟩
    · exact SLp
    · rintro i _ ⟨hi, rfl⟩;refine zc fun _ kh11 => Sr fun _ kh12 => zm rfl (zm rfl ?_);refine WL.call hasF336 rfl rfl (r2Bit_spec _ _ _ hv0 i (by omega)) fun v w2 h' => ?_;obtain ⟨rfl, rfl⟩ := h';refine WL.ev (Ev.not rfl) rfl ?_;refine zz (kh12 ?_);refine zy rfl ?_ ?_<;>intro hc2<;>try simp only [qs] at hc2
      · have hine : i + 1 ≤ tz (val l) := by
          rcases Nat.lt_or_ge i (tz (val l)) with q | q
          · exact q
          · have e : i = tz (val l) := by omega
            rw [e, htb] at hc2;simp at hc2
        refine zkk ?_;refine kh11 ?_;refine CW.block ?_;refine zR fun _ kr14 => ?_;refine zm rfl ?_;(first | refine zi rfl rfl ?_ | refine zo rfl rfl ?_);refine za rfl ?_;refine WL.nil (kr14 _ _ _ ?_);refine ⟨rfl, i + 1, ?_, ?_, ?_⟩
        · exact SLp
        · exact ⟨hine, rfl⟩
        · show tz (val l) - (i + 1) < tz (val l) - i; omega
      · have hcc := hc2
        refine CW.exit ?_;refine kh10 (Sr fun _ kh15 => zm rfl (za rfl (zz (kh15 ?_))));refine zr (zr1 rfl rfl ?_);refine ⟨?_, rfl⟩;have e : i = tz (val l) := by
          rcases Nat.lt_or_ge i (tz (val l)) with q | q
          · have := htf i q
            rw [this] at hcc;simp at hcc
          · omega
        rw [e]

end

/- Reference of layer 2: Cmp, Plus, Minus, Times. No condition. -/
section
open Go Sx Wd

structure KCs (A B : List Nat) (w : World) (k : Nat) (wr : World) : Prop where
  le : k ≤ A.length
  eq : A.drop k = B.drop k
  chg : Chg [] w wr

theorem r2Cmp_spec (va vb : Value) (la lb : List Nat) (w : World) (ha : NU w va la) (hb : NU w vb lb) : Ret Tryz.prog 254 [va, vb] w fun u w' => u = .int .i64 (sgn (val la) (val lb)) ∧ Chg [] w w' := by
 have ha0 := ha;have hb0 := hb;obtain ⟨⟨ala, cla, rfl, hcapla, hrla⟩, hWla, hlla⟩ := ha;obtain ⟨⟨alb, clb, rfl, hcaplb, hrlb⟩, hWlb, hllb⟩ := hb;have hch : Chg [] w w := Chg.refl _ _;obtain ⟨A, hA⟩ : ∃ A, A = wd (val la) := ⟨_, rfl⟩;have hvA : val A = val la := by rw [hA]; exact val_wd _
 have hleA : A.length ≤ la.length := by rw [hA]; exact wd_length_val_le hWla
 have hWA : W A := by rw [hA]; exact W_wd _
 have hrA : RW w ala (A.map u32v) := by
  have := wd_take hWla;rw [← hA] at this;rw [this, List.map_take]; exact hrla.take _
 obtain ⟨B, hB⟩ : ∃ B, B = wd (val lb) := ⟨_, rfl⟩;have hvB : val B = val lb := by rw [hB]; exact val_wd _
 have hleB : B.length ≤ lb.length := by rw [hB]; exact wd_length_val_le hWlb
 have hWB : W B := by rw [hB]; exact W_wd _
 have hrB : RW w alb (B.map u32v) := by
  have := wd_take hWlb;rw [← hB] at this;rw [this, List.map_take]; exact hrlb.take _
 have hs := sgn_len (a := val la) (b := val lb);rw [← hA, ← hB] at hs;refine zE2 Tryz.func254 rfl ?_;refine Sr fun _ kh1 => za rfl (zz (kh1 (Sr fun _ kh3 => zm rfl ?_)));refine WL.call hasF310 rfl rfl (r2size_spec _ _ _ ha0) fun v w1 h' => ?_;obtain ⟨rfl, rfl⟩ := h';rw [← hA];refine za rfl (zz (kh3 (Sr fun _ kh5 => zm rfl ?_)));refine WL.call hasF310 rfl rfl (r2size_spec _ _ _ hb0) fun v w2 h' => ?_;obtain ⟨rfl, rfl⟩ := h';rw [← hB];refine za rfl (zz (kh5 (zc fun _ kh7 => Sr fun _ kh8 => zm rfl (zm rfl ?_))));refine WL.ev (Ev.neq rfl rfl) rfl ?_;refine zz (kh8 ?_);refine zy rfl ?_ ?_<;>intro hc1<;>try simp only [qs] at hc1
 ·refine zc fun _ kh10 => Sr fun _ kh11 => zm rfl (zm rfl ?_);refine WL.ev (Ev.lss rfl rfl) rfl ?_
  refine zz (kh11 ?_);refine zy rfl ?_ ?_<;>intro hc2<;>try simp only [qs] at hc2
  ·refine Sr fun _ kh13 => za rfl (zz (kh13 ?_));refine zr (zr1 rfl rfl ?_);rw [hs.1 (by omega)];exact ⟨rfl, hch⟩
  ·refine zkk ?_
   refine kh10 (Sr fun _ kh15 => za rfl (zz (kh15 ?_)));refine zr (zr1 rfl rfl ?_);rw [hs.2 (by omega)];exact ⟨rfl, hch⟩
 ·have hAB : A.length = B.length := by omega
  refine zkk ?_;refine kh7 (zc fun _ kh17 => Sr fun _ kh18 => zm rfl ?_)
  first | refine WL.ev (Ev.subIn rfl rfl (by omega)) rfl ?_ | refine WL.ev (Ev.sub rfl rfl) rfl ?_
  refine za rfl (zz (kh18 ?_));refine CW.block ?_;refine CW.loop (S := fun k : Nat => [(0, .slice ala la.length cla), (1, .slice alb lb.length clb), (5, .int .i64 ((k : Int) - 1))]) (Inv := KCs A B w) (mu := fun k => k) (A.length) ?_ ?_ ?_
  ·exact ⟨Nat.le_refl _, by rw [List.drop_length, hAB, List.drop_length], hch⟩
  ·exact SLp
  ·rintro k wr ⟨hkl, hkd, hch⟩;refine zc fun _ kh20 => Sr fun _ kh21 => zm rfl ?_;refine WL.ev (Ev.geq rfl rfl) rfl ?_;refine zz (kh21 ?_);refine zy rfl ?_ ?_<;>intro hc3<;>try simp only [qs] at hc3
   ·have hk1 : k - 1 + 1 = k := by omega
    have hsd := sgn_drop hWA hWB hAB (k := k - 1) (by omega) (by rw [hk1]; exact hkd);rw [hvA, hvB] at hsd;refine zkk ?_;refine kh20 (zc fun _ kh23 => ?_);refine CW.block ?_;refine zc fun _ kh24 => zc fun _ kh25 => ?_;refine CW.regionSC hmix (by kernel_rfl) fun kR26 kr26 hdr => ?_;have hch := hch.ta hdr;refine ym rfl (ym rfl ?_);refine WS.ev (Ev.ixR ((k - 1)) rfl rfl (hrA.keep0 hch) (by omega) (by omega) (by simp; omega)) rfl ?_;refine WS.ev (Ev.load rfl rfl ((hrA.keep0 hch).u32 (by first | omega | (simp; omega)))) rfl ?_;have hw26 := hWA.getD ((k - 1));refine ym rfl (ym rfl ?_);refine WS.ev (Ev.ixR ((k - 1)) rfl rfl (hrB.keep0 hch) (by omega) (by omega) (by simp; omega)) rfl ?_;refine WS.ev (Ev.load rfl rfl ((hrB.keep0 hch).u32 (by first | omega | (simp; omega)))) rfl ?_;have hw30 := hWB.getD ((k - 1));refine WS.ev (Ev.lss rfl rfl) rfl ?_;refine WS.nil (kr26 _ _ ?_);refine kh25 ?_;refine zy rfl ?_ ?_<;>intro hc4<;>try simp only [qs] at hc4
    ·refine Sr fun _ kh27 => za rfl (zz (kh27 ?_));refine zr (zr1 rfl rfl ?_);rw [hsd.1 (by omega)];exact ⟨rfl, hch⟩
    ·refine zkk ?_
     refine kh24 (zc fun _ kh29 => ?_);refine CW.regionSC hmix (by kernel_rfl) fun kR30 kr30 hdr => ?_;have hch := hch.ta hdr;refine ym rfl (ym rfl ?_);refine WS.ev (Ev.ixR ((k - 1)) rfl rfl (hrA.keep0 hch) (by omega) (by omega) (by simp; omega)) rfl ?_;refine WS.ev (Ev.load rfl rfl ((hrA.keep0 hch).u32 (by first | omega | (simp; omega)))) rfl ?_;have hw35 := hWA.getD ((k - 1));refine ym rfl (ym rfl ?_);refine WS.ev (Ev.ixR ((k - 1)) rfl rfl (hrB.keep0 hch) (by omega) (by omega) (by simp; omega)) rfl ?_;refine WS.ev (Ev.load rfl rfl ((hrB.keep0 hch).u32 (by first | omega | (simp; omega)))) rfl ?_;have hw39 := hWB.getD ((k - 1));refine WS.ev (Ev.gtr rfl rfl) rfl ?_;refine WS.nil (kr30 _ _ ?_);refine kh29 ?_;refine zy rfl ?_ ?_<;>intro hc5<;>try simp only [qs] at hc5
     ·refine Sr fun _ kh31 => za rfl (zz (kh31 ?_));refine zr (zr1 rfl rfl ?_);rw [hsd.2.1 (by omega)];exact ⟨rfl, hch⟩
     ·refine zkk ?_
      refine kh23 ?_;refine zR fun _ kr33 => ?_;refine zm rfl ?_
      first | refine WL.ev (Ev.subIn rfl rfl (by omega)) rfl ?_ | refine WL.ev (Ev.sub rfl rfl) rfl ?_
      refine za rfl ?_;refine WL.nil (kr33 _ _ _ ?_);refine ⟨rfl, k - 1, ?_, ?_, ?_⟩
      ·exact SLp
      ·exact ⟨by omega, hsd.2.2 (by omega), hch⟩
      ·omega
   ·refine CW.exit ?_
    refine kh17 (Sr fun _ kh34 => za rfl (zz (kh34 ?_)));refine zr (zr1 rfl rfl ?_);have hk0 : k = 0 := by omega
    subst hk0;rw [List.drop_zero, List.drop_zero] at hkd;rw [← hvA, ← hvB, hkd, sgn_self];exact ⟨rfl, hch⟩

structure KPls (X Y : List Nat) (w : World) (g : Nat × List Nat × Nat × Value) (wr : World) : Prop where
  a : PlusI X Y g.1 g.2.1 g.2.2.1
  gr : GR wr 219 u32v w.heap.size [] g.2.2.2 g.2.1
  ch : Chg [] w wr
structure KMis (X Y : List Nat) (w : World) (g : Nat × List Nat × Nat × Value) (wr : World) : Prop where
  a : MinusI X Y g.1 g.2.1 g.2.2.1
  gr : GR wr 219 u32v w.heap.size [] g.2.2.2 g.2.1
  ch : Chg [] w wr

theorem r2Plus_spec (va vb : Value) (la lb : List Nat) (w : World) (ha : NU w va la) (hb : NU w vb lb) (hla : la.length ≤ 1099511627776) (hlb : lb.length ≤ 1099511627776) : Ret Tryz.prog 253 [va, vb] w fun u w' => NU w' u (wd (val la + val lb)) ∧ Chg [] w w' ∧ Fh w u := by
 have ha0 := ha;have hb0 := hb;obtain ⟨⟨ala, cla, rfl, hcapla, hrla⟩, hWla, hlla⟩ := ha;obtain ⟨⟨alb, clb, rfl, hcaplb, hrlb⟩, hWlb, hllb⟩ := hb;have hch : Chg [] w w := Chg.refl _ _;refine zE2 Tryz.func253 rfl ?_;refine Sr fun _ kh1 => za rfl (zz (kh1 (Sr fun _ kh3 => za rfl (zz (kh3 (Sr fun _ kh5 => za rfl (zz (kh5 (zc fun _ kh7 => Sr fun _ kh8 => za rfl (zz (kh8 ?_)))))))))));refine CW.block ?_;refine CW.loop (S := fun g : Nat × List Nat × Nat × Value => [(0, .slice ala la.length cla), (1, .slice alb lb.length clb), (5, g.2.2.2), (6, .int .u64 (g.2.2.1 : Int)), (7, .int .i64 (g.1 : Int))]) (Inv := KPls la lb w) (mu := fun g => max la.length lb.length + 1 - g.1) ((0, [], 0, .slice none 0 0)) ?_ ?_ ?_
 ·exact ⟨PlusI.zero _ _, GR.nil, hch⟩
 ·exact SLp
 ·rintro ⟨i, L, c, vo⟩ wr ⟨hI, hgr, hch⟩;dsimp only at hI hgr hch;dsimp only;have hil := hI.len_le;have hLl := hI.len;have hc1 := hI.c1;have hxa := hWla.getD i;have hxb := hWlb.getD i;refine zc fun _ kh10 => ?_;refine CW.seqM 22 (decide ((i < la.length ∨ i < lb.length) ∨ 0 < c)) ?_ ?_
  ·refine zR fun _ kr11 => ?_;refine zm rfl (zm rfl (zn rfl ?_));refine WL.ev (Ev.lss rfl rfl) rfl ?_;refine zm rfl ?_;refine zb ?_ ?_<;>intro hg1<;>try simp only [qs] at hg1
   ·refine zv rfl (zv rfl (zv rfl (zv rfl (zt rfl rfl (zm rfl (zv rfl (zv rfl (zt rfl rfl ?_))))))));refine WL.nil (kr11 _ _ _ ?_);refine ⟨rfl, rfl, Subs.consB rfl ?_ ?_⟩
    ·first | (simp; omega) | (simp_all; done) | (refine decide_eq_decide.2 ?_; omega)
    ·exact SMg
   ·refine zw rfl (zm rfl (zw rfl (zm rfl (zw rfl (zn rfl (zw rfl ?_))))));refine WL.ev (Ev.lss rfl rfl) rfl ?_
    refine ze rfl rfl (zm rfl ?_);refine zb ?_ ?_<;>intro hg2<;>try simp only [qs] at hg2
    ·refine zv rfl (zv rfl (zt rfl rfl ?_));refine WL.nil (kr11 _ _ _ ?_);refine ⟨rfl, rfl, Subs.consB rfl ?_ ?_⟩
     ·first | (simp; omega) | (simp_all; done) | (refine decide_eq_decide.2 ?_; omega)
     ·exact SMg
    ·refine zw rfl (zm rfl (zw rfl ?_));refine WL.ev (Ev.gtr rfl rfl) rfl ?_
     refine ze rfl rfl ?_;refine WL.nil (kr11 _ _ _ ?_);refine ⟨rfl, rfl, Subs.consB rfl ?_ ?_⟩
     ·first | (simp; omega) | (simp_all; done) | (refine decide_eq_decide.2 ?_; omega)
     ·exact SMg
  ·refine zy rfl ?_ ?_<;>intro hc3<;>try simp only [qs] at hc3
   ·have hcc := hc3
    refine zkk ?_;refine kh10 (zc fun _ kh12 => ?_);refine CW.block ?_;refine Sr fun _ kh13 => zm rfl (zm rfl ?_);refine WL.call hasF309 rfl rfl (r2at_spec _ _ _ (ha0.keep0 hch) i (by omega)) fun v w1 h' => ?_;obtain ⟨rfl, rfl⟩ := h';refine zm rfl (zm rfl ?_);refine WL.call hasF309 rfl rfl (r2at_spec _ _ _ (hb0.keep0 hch) i (by omega)) fun v w2 h' => ?_;obtain ⟨rfl, rfl⟩ := h'
    first | refine WL.ev (Ev.add64In rfl rfl (by omega)) rfl ?_ | refine WL.ev (Ev.add64 rfl rfl) rfl ?_
    refine zm rfl ?_
    first | refine WL.ev (Ev.add64In rfl rfl (by omega)) rfl ?_ | refine WL.ev (Ev.add64 rfl rfl) rfl ?_
    refine za rfl (zz (kh13 (Sr fun _ kh15 => zm rfl (zm rfl ?_))));refine WL.ev (Ev.conv32 rfl rfl) rfl ?_;refine WL.buildSlice (m := 1) (cs := [u32v (((((la.getD i 0) + (lb.getD i 0)) + c) % 4294967296))]) (by decide) (by decide) rfl (by kernel_rfl) rfl fun b37 w37 hn37 => ?_;have hcm37 := hn37.chg;have hge37 := hn37.ge;have hb37 : OB w37 b37 _ [((((la.getD i 0) + (lb.getD i 0)) + c) % 4294967296)] := hn37.at_;have hgehch37 := Nat.le_trans hch.size hge37;have hch := hch.ta hcm37;have hgr := hgr.keep0 hcm37;refine WL.growR (f := u32v) (lo := w.heap.size) (X := []) (l := L) (news := [((((la.getD i 0) + (lb.getD i 0)) + c) % 4294967296)]) (by rfl) (fun i => rfl) rfl rfl hgr (by first | rfl | (simp; done) | (simp; omega) | omega) hb37.row (by first | omega | exact hch.size | exact Nat.le_refl _) (by simp) (by simp only [List.length_append, List.length_cons, List.length_nil]; omega) (by simp only [List.length_append, List.length_cons, List.length_nil]; omega) rfl fun v38 w38 hg38 hcg38 => ?_;have hch := GR.frame hgr hcg38 hch (by first | omega | exact Nat.le_refl _);have hgr := hg38;refine za rfl (zz (kh15 ?_));refine zR fun _ kr17 => ?_;refine zm rfl ?_;refine WL.ev (Ev.shrU (b := 32) rfl rfl (by simp only [IntKind.bits]; omega)) rfl ?_;refine za rfl ?_;refine WL.nil (kr17 _ _ _ (kh12 ?_));refine zR fun _ kr18 => ?_;refine zm rfl ?_;(first | refine zi rfl rfl ?_ | refine zo rfl rfl ?_);refine za rfl ?_;refine WL.nil (kr18 _ _ _ ?_);refine ⟨rfl, (i + 1, L ++ [(la.getD i 0 + lb.getD i 0 + c) % 4294967296], (la.getD i 0 + lb.getD i 0 + c) / 2 ^ 32, v38), ?_, ?_, ?_⟩
    ·exact SLp
    ·exact ⟨hI.step hWla hWlb hcc, hgr, hch⟩
    ·show max la.length lb.length + 1 - (i + 1) < max la.length lb.length + 1 - i; have := (hI.step hWla hWlb hcc).len_le; omega
   ·have hcc := hc3
    have hdn := hI.done (by omega);refine CW.exit ?_;refine kh7 (Sr fun _ kh19 => zm rfl ?_);refine WL.call hasF305 rfl rfl (r2Norm_spec _ _ _ (hgr.nu hI.w (by omega)) (by have := wd_length_val_le hI.w; omega)) fun v w3 h' => ?_;obtain ⟨hN, hC, hF⟩ := h';rw [hdn] at hN;have hF := hF.mono hch.size;have hch := hch.ta hC;refine za rfl (zz (kh19 ?_));refine zr (zr1 rfl rfl ?_);exact ⟨hN, hch, hF⟩

theorem r2Minus_spec (va vb : Value) (la lb : List Nat) (w : World) (ha : NU w va la) (hb : NU w vb lb) (hla : la.length ≤ 1099511627776) (hle : val lb ≤ val la) : Ret Tryz.prog 255 [va, vb] w fun u w' => NU w' u (wd (val la - val lb)) ∧ Chg [] w w' ∧ Fh w u := by
 have ha0 := ha;have hb0 := hb;obtain ⟨⟨ala, cla, rfl, hcapla, hrla⟩, hWla, hlla⟩ := ha;obtain ⟨⟨alb, clb, rfl, hcaplb, hrlb⟩, hWlb, hllb⟩ := hb;have hch : Chg [] w w := Chg.refl _ _;refine zE2 Tryz.func255 rfl ?_;refine Sr fun _ kh1 => za rfl (zz (kh1 (Sr fun _ kh3 => za rfl (zz (kh3 (Sr fun _ kh5 => za rfl (zz (kh5 (zc fun _ kh7 => Sr fun _ kh8 => za rfl (zz (kh8 ?_)))))))))));refine CW.block ?_;refine CW.loop (S := fun g : Nat × List Nat × Nat × Value => [(0, .slice ala la.length cla), (1, .slice alb lb.length clb), (5, g.2.2.2), (6, .int .u64 (g.2.2.1 : Int)), (7, .int .i64 (g.1 : Int))]) (Inv := KMis la lb w) (mu := fun g => la.length - g.1) ((0, [], 0, .slice none 0 0)) ?_ ?_ ?_
 ·exact ⟨MinusI.zero _ _, GR.nil, hch⟩
 ·exact SLp
 ·rintro ⟨i, L, c, vo⟩ wr ⟨hI, hgr, hch⟩;dsimp only at hI hgr hch;dsimp only;have hil := hI.le;have hLl := hI.len;have hc1 := hI.c1;have hxa := hWla.getD i;have hxb := hWlb.getD i;refine zc fun _ kh10 => Sr fun _ kh11 => zm rfl (zm rfl (zn rfl ?_));refine WL.ev (Ev.lss rfl rfl) rfl ?_;refine zz (kh11 ?_);refine zy rfl ?_ ?_<;>intro hc1<;>try simp only [qs] at hc1
  ·refine zkk ?_
   refine kh10 (zc fun _ kh13 => ?_);refine CW.block ?_;refine Sr fun _ kh14 => zm rfl (zm rfl ?_);refine WL.call hasF309 rfl rfl (r2at_spec _ _ _ (ha0.keep0 hch) i (by omega)) fun v w1 h' => ?_;obtain ⟨rfl, rfl⟩ := h'
   first | refine WL.ev (Ev.add64In (b := 4294967296) rfl rfl (by omega)) rfl ?_ | refine WL.ev (Ev.add64 (b := 4294967296) rfl rfl) rfl ?_
   refine zm rfl (zm rfl ?_);refine WL.call hasF309 rfl rfl (r2at_spec _ _ _ (hb0.keep0 hch) i (by omega)) fun v w2 h' => ?_;obtain ⟨rfl, rfl⟩ := h'
   first | refine WL.ev (Ev.sub64In rfl rfl (by omega) (by omega)) rfl ?_ | refine WL.ev (Ev.sub64 rfl rfl (by omega)) rfl ?_
   refine zm rfl ?_
   first | refine WL.ev (Ev.sub64In rfl rfl (by omega) (by omega)) rfl ?_ | refine WL.ev (Ev.sub64 rfl rfl (by omega)) rfl ?_
   refine za rfl (zz (kh14 (Sr fun _ kh16 => zm rfl (zm rfl ?_))));refine WL.ev (Ev.conv32 rfl rfl) rfl ?_;refine WL.buildSlice (m := 1) (cs := [u32v ((((((la.getD i 0) + 4294967296) - (lb.getD i 0)) - c) % 4294967296))]) (by decide) (by decide) rfl (by kernel_rfl) rfl fun b28 w28 hn28 => ?_;have hcm28 := hn28.chg;have hge28 := hn28.ge;have hb28 : OB w28 b28 _ [(((((la.getD i 0) + 4294967296) - (lb.getD i 0)) - c) % 4294967296)] := hn28.at_;have hgehch28 := Nat.le_trans hch.size hge28;have hch := hch.ta hcm28;have hgr := hgr.keep0 hcm28;refine WL.growR (f := u32v) (lo := w.heap.size) (X := []) (l := L) (news := [(((((la.getD i 0) + 4294967296) - (lb.getD i 0)) - c) % 4294967296)]) (by rfl) (fun i => rfl) rfl rfl hgr (by first | rfl | (simp; done) | (simp; omega) | omega) hb28.row (by first | omega | exact hch.size | exact Nat.le_refl _) (by simp) (by simp only [List.length_append, List.length_cons, List.length_nil]; omega) (by simp only [List.length_append, List.length_cons, List.length_nil]; omega) rfl fun v29 w29 hg29 hcg29 => ?_;have hch := GR.frame hgr hcg29 hch (by first | omega | exact Nat.le_refl _);have hgr := hg29;refine za rfl (zz (kh16 ?_));refine zR fun _ kr18 => ?_;refine zm rfl ?_;refine WL.ev (Ev.shrU (b := 32) rfl rfl (by simp only [IntKind.bits]; omega)) rfl ?_
   first | refine WL.ev (Ev.sub64In (a := 1) rfl rfl (by omega) (by omega)) rfl ?_ | refine WL.ev (Ev.sub64 (a := 1) rfl rfl (by omega)) rfl ?_
   refine za rfl ?_;refine WL.nil (kr18 _ _ _ (kh13 ?_));refine zR fun _ kr19 => ?_;refine zm rfl ?_;(first | refine zi rfl rfl ?_ | refine zo rfl rfl ?_);refine za rfl ?_;refine WL.nil (kr19 _ _ _ ?_);refine ⟨rfl, (i + 1, L ++ [(la.getD i 0 + 4294967296 - lb.getD i 0 - c) % 4294967296], 1 - (la.getD i 0 + 4294967296 - lb.getD i 0 - c) / 2 ^ 32, v29), ?_, ?_, ?_⟩
   ·exact SLp
   ·exact ⟨hI.step hWla hWlb (by omega), hgr, hch⟩
   ·show la.length - (i + 1) < la.length - i; omega
  ·have hiX : i = la.length := by omega
   subst hiX;have hdn := hI.done hWla hWlb hle;refine CW.exit ?_;refine kh7 (Sr fun _ kh20 => zm rfl ?_);refine WL.call hasF305 rfl rfl (r2Norm_spec _ _ _ (hgr.nu hI.w (by omega)) (by have := wd_length_val_le hI.w; omega)) fun v w3 h' => ?_;obtain ⟨hN, hC, hF⟩ := h';rw [hdn] at hN;have hF := hF.mono hch.size;have hch := hch.ta hC;refine za rfl (zz (kh20 ?_));refine zr (zr1 rfl rfl ?_);exact ⟨hN, hch, hF⟩

structure KMs (la lb : List Nat) (w : World) (b : Nat) (g : Nat × List Nat) (wr : World) : Prop where
  a : MulI la lb g.1 g.2
  ob : OB wr b 219 g.2
  chg : Chg [] w wr
structure KNs (x : Nat) (lb : List Nat) (i : Nat) (L0 : List Nat) (w : World) (b : Nat) (g : Nat × List Nat × Nat) (wr : World) : Prop where
  a : MulJ x lb i L0 g.1 g.2.1 g.2.2
  ob : OB wr b 219 g.2.1
  chg : Chg [] w wr

theorem r2Times_spec (va vb : Value) (la lb : List Nat) (w : World) (ha : NU w va la) (hb : NU w vb lb) (hlm : la.length + lb.length ≤ 35184372088832) : Ret Tryz.prog 251 [va, vb] w fun u w' => NU w' u (wd (val la * val lb)) ∧ Chg [] w w' ∧ Fh w u := by
 obtain ⟨⟨ala, cla, rfl, hcapla, hrla⟩, hWla, hlla⟩ := ha;obtain ⟨⟨alb, clb, rfl, hcaplb, hrlb⟩, hWlb, hllb⟩ := hb;have hch : Chg [] w w := Chg.refl _ _;refine zE2 Tryz.func251 rfl ?_;refine Sr fun _ kh1 => za rfl (zz (kh1 (Sr fun _ kh3 => zm rfl (zn rfl (zm rfl (zn rfl ?_))))));(first | refine zi rfl rfl ?_ | refine zo rfl rfl ?_);refine WL.makeU (((la).length + (lb).length)) (((la).length + (lb).length)) rfl rfl (by omega) (by omega) (by omega) (by omega) (by omega) rfl fun b15 wm15 hb15 hcm15 hge15 => ?_;have hgehch15 := Nat.le_trans hch.size hge15;have hch := hch.ta hcm15;refine za rfl (zz (kh3 (zc fun _ kh5 => Sr fun _ kh6 => za rfl (zz (kh6 ?_)))));refine CW.block ?_;refine CW.loop (S := fun g : Nat × List Nat => [(0, .slice ala la.length cla), (1, .slice alb lb.length clb), (5, .slice (some ⟨b15, 0, none⟩) (la.length + lb.length) (la.length + lb.length)), (6, .int .i64 (g.1 : Int))]) (Inv := KMs la lb w b15) (mu := fun g => la.length - g.1) ((0, List.replicate (la.length + lb.length) 0)) ?_ ?_ ?_
 ·exact ⟨MulI.zero la lb, hb15, hch⟩
 ·exact SLp
 ·rintro ⟨i, L0⟩ wr ⟨hAd, hb15, hch⟩;dsimp only at hAd hb15 hch;have hiX := hAd.le;have hLl := hAd.len;refine zc fun _ kh8 => Sr fun _ kh9 => zm rfl (zm rfl (zn rfl ?_));refine WL.ev (Ev.lss rfl rfl) rfl ?_;refine zz (kh9 ?_);refine zy rfl ?_ ?_<;>intro hc1<;>try simp only [qs] at hc1
  ·refine zkk ?_
   refine kh8 (zc fun _ kh11 => ?_);refine CW.block ?_;refine Sr fun _ kh12 => za rfl (zz (kh12 (zc fun _ kh14 => Sr fun _ kh15 => za rfl (zz (kh15 ?_)))));refine CW.block ?_;refine CW.loop (S := fun g : Nat × List Nat × Nat => [(0, .slice ala la.length cla), (1, .slice alb lb.length clb), (5, .slice (some ⟨b15, 0, none⟩) (la.length + lb.length) (la.length + lb.length)), (6, .int .i64 (i : Int)), (7, .int .u64 (g.2.2 : Int)), (8, .int .i64 (g.1 : Int))]) (Inv := KNs (la.getD i 0) lb i L0 w b15) (mu := fun g => lb.length - g.1) ((0, L0, 0)) ?_ ?_ ?_
   ·exact ⟨MulJ.zero hAd.w, hb15, hch⟩
   ·exact SLp
   ·rintro ⟨j, L, c⟩ wr2 ⟨hJ, hb15, hch⟩;dsimp only at hJ hb15 hch;have hjX := hJ.le;have hLl2 := hJ.len;have hLW := hJ.w;have hcc := hJ.c1;refine zc fun _ kh17 => Sr fun _ kh18 => zm rfl (zm rfl (zn rfl ?_));refine WL.ev (Ev.lss rfl rfl) rfl ?_;refine zz (kh18 ?_);refine zy rfl ?_ ?_<;>intro hc2<;>try simp only [qs] at hc2
    ·have hfit := MulJ.fits (hWla.getD i) (hWlb.getD j) (hLW.getD (i + j)) hcc
     have hxa := hWla.getD i;refine zkk ?_;refine kh17 (zc fun _ kh20 => ?_);refine CW.block ?_;refine zc fun _ kh21 => ?_;refine CW.regionSC hmix (by kernel_rfl) fun kR22 kr22 hdr => ?_;have hch := hch.ta hdr;have hb15 := hb15.k0 hdr;refine ym rfl (ym rfl ?_);refine WS.ev (Ev.ixR (i) rfl rfl (hrla.keep0 hch) (by omega) (by omega) (by simp; omega)) rfl ?_;refine WS.ev (Ev.load rfl rfl ((hrla.keep0 hch).u32 (by first | omega | (simp; omega)))) rfl ?_;have hw31 := hWla.getD (i);refine WS.ev (Ev.convIn rfl rfl (in_u64 (by omega))) rfl ?_;refine ym rfl (ym rfl ?_);refine WS.ev (Ev.ixR (j) rfl rfl (hrlb.keep0 hch) (by omega) (by omega) (by simp; omega)) rfl ?_;refine WS.ev (Ev.load rfl rfl ((hrlb.keep0 hch).u32 (by first | omega | (simp; omega)))) rfl ?_;have hw36 := hWlb.getD (j);refine WS.ev (Ev.convIn rfl rfl (in_u64 (by omega))) rfl ?_;refine WS.ev (Ev.mul64In rfl rfl hfit.2.1) rfl ?_;refine ym rfl (ym rfl (ym rfl ?_))
     first | refine WS.ev (Ev.addIn rfl rfl (by omega)) rfl ?_ | refine WS.ev (Ev.add rfl rfl) rfl ?_
     refine WS.ev (Ev.ixB ((i + j)) rfl rfl (by omega) (by omega)) rfl ?_;refine WS.ev (Ev.load rfl rfl (hb15.u32 (by first | omega | (simp; omega)))) rfl ?_;have hw44 := hLW.getD ((i + j));refine WS.ev (Ev.convIn rfl rfl (in_u64 (by omega))) rfl ?_;refine WS.ev (Ev.add64In rfl rfl hfit.2.2) rfl ?_;refine ym rfl ?_;refine WS.ev (Ev.add64In rfl rfl hfit.1) rfl ?_;refine ya rfl ?_;refine WS.nil (kr22 _ _ ?_);refine kh21 (Sr fun _ kh23 => zm rfl (zm rfl (zm rfl ?_)));(first | refine zi rfl rfl ?_ | refine zo rfl rfl ?_);refine zm rfl ?_;refine WL.ev (Ev.conv32 rfl rfl) rfl ?_;refine WL.ev (Ev.ixB ((i + j)) rfl rfl (by omega) (by omega)) rfl ?_;refine WL.storeU rfl rfl hb15 (by first | omega | (simp; omega)) fun ws4 hb15_ hcs4 => ?_;have hch := hch.s1 hcs4;have hb15 := hb15_;refine zz (kh23 ?_);refine zR fun _ kr25 => ?_;refine zm rfl ?_;refine WL.ev (Ev.shrU (b := 32) rfl rfl (by simp only [IntKind.bits]; exact hfit.1)) rfl ?_;refine za rfl ?_;refine WL.nil (kr25 _ _ _ (kh20 ?_));refine zR fun _ kr26 => ?_;refine zm rfl ?_;(first | refine zi rfl rfl ?_ | refine zo rfl rfl ?_);refine za rfl ?_;refine WL.nil (kr26 _ _ _ ?_);refine ⟨rfl, (j + 1, L.set (i + j) ((la.getD i 0 * lb.getD j 0 + L.getD (i + j) 0 + c) % 4294967296), (la.getD i 0 * lb.getD j 0 + L.getD (i + j) 0 + c) / 4294967296), ?_, ?_, ?_⟩
     ·exact SLp
     ·exact ⟨hJ.step (hWla.getD i) hWlb (by omega) (by omega), hb15, hch⟩
     ·show lb.length - (j + 1) < lb.length - j; omega
    ·have hjX2 : j = lb.length := by omega
     subst hjX2;refine CW.exit ?_;refine kh14 ?_;refine zR fun _ kr27 => ?_;refine zm rfl (zm rfl (zm rfl (zn rfl ?_)));(first | refine zi rfl rfl ?_ | refine zo rfl rfl ?_);refine zm rfl ?_;refine WL.ev (Ev.conv32 rfl rfl) rfl ?_;rw [Nat.mod_eq_of_lt hcc];refine WL.ev (Ev.ixB ((i + (lb).length)) rfl rfl (by omega) (by omega)) rfl ?_;refine WL.storeU rfl rfl hb15 (by first | omega | (simp; omega)) fun ws5 hb15_ hcs5 => ?_;have hch := hch.s1 hcs5;have hb15 := hb15_;refine WL.nil (kr27 _ _ _ (kh11 ?_));refine zR fun _ kr28 => ?_;refine zm rfl ?_;(first | refine zi rfl rfl ?_ | refine zo rfl rfl ?_);refine za rfl ?_;refine WL.nil (kr28 _ _ _ ?_);refine ⟨rfl, (i + 1, L.set (i + lb.length) c), ?_, ?_, ?_⟩
     ·exact SLp
     ·exact ⟨hAd.step (by omega) hJ, hb15, hch⟩
     ·show la.length - (i + 1) < la.length - i; omega
  ·have hiX2 : i = la.length := by omega
   subst hiX2;have hdn := hAd.done;have hLn := hAd.len;refine CW.exit ?_;refine kh5 (Sr fun _ kh29 => zm rfl ?_);refine WL.call hasF305 rfl rfl (r2Norm_spec _ _ _ (NU.of_block hb15 hAd.w (by omega) (by omega) (Nat.le_refl _)) (by have := wd_length_val_le hAd.w; omega)) fun v w1 h' => ?_;obtain ⟨hN, hC, hF⟩ := h';rw [hdn] at hN;have hF := hF.mono hch.size;have hch := hch.ta hC;refine za rfl (zz (kh29 ?_));refine zr (zr1 rfl rfl ?_);exact ⟨hN, hch, hF⟩

end

end Go.Proofs.YtknahdghcfdmgaaGreatDoor