/- Part 4 of what the proof rests on. No condition. -/
import Derived.Test.YtnbipejaidbihaaGreatDoorZm3
set_option linter.unusedVariables false
set_option linter.unusedSimpArgs false
set_option maxRecDepth 100000
set_option maxHeartbeats 4000000
namespace Go.Proofs.YtnbipejaidbihaaGreatDoor
/- Package super: Exact. No condition. -/
section
open Go Sx Wd
set_option exponentiation.threshold 5000

/-- Words of 64 bits as pairs of words. -/
def prs : List Nat → List Nat
  | [] => []
  | x :: l => x % 4294967296 :: x / 4294967296 :: prs l
theorem prs_len : ∀ l, (prs l).length = 2 * l.length
  | [] => rfl
  | x :: l => by simp only [prs, List.length_cons, prs_len l]; omega
theorem prs_snoc : ∀ (l : List Nat) (x : Nat), prs (l ++ [x]) = prs l ++ [x % 4294967296, x / 4294967296]
  | [], x => rfl
  | y :: l, x => by simp only [List.cons_append, prs, prs_snoc l x]
theorem prs_val : ∀ l, val (prs l) = tv l
  | [] => rfl
  | x :: l => by simp only [prs, val, tv, prs_val l]; omega
theorem prs_W : ∀ {l : List Nat}, W64 l → W (prs l)
  | [], _ => fun y hy => by cases hy
  | x :: l, h => by
    have hx := h x (List.mem_cons_self ..)
    exact W_cons.2 ⟨Nat.mod_lt _ (by decide), W_cons.2 ⟨by omega, prs_W fun y hy => h y (List.mem_cons_of_mem _ hy)⟩⟩
theorem prs_step {C : List Nat} {i : Nat} (h : i < C.length) (hW : W64 C) : prs (C.take i) ++ [C.getD i 0 % 4294967296, C.getD i 0 / 4294967296 % 4294967296] = prs (C.take (i + 1)) := by
  have hx := hW.getD i
  rw [show C.take (i + 1) = C.take i ++ [C.getD i 0] by rw [List.take_add_one, List.getD_eq_getElem?_getD, List.getElem?_eq_getElem h]; rfl, prs_snoc, Nat.mod_eq_of_lt (a := C.getD i 0 / 4294967296) (by omega)]
theorem lt_of_some {l : List Value} {j : Nat} {v : Value} (h : l[j]? = some v) : j < l.length := (List.getElem?_eq_some_iff.1 h).1
theorem wd_len_gen {n k K : Nat} (h : n < 2 ^ k) (hk : k ≤ 32 * K) : (wd n).length ≤ K := wd_length_le.2 (Nat.lt_of_lt_of_le h (Nat.pow_le_pow_right (by decide) hk))
/-- What an accumulator's sum is, as a dyad. -/
def sumD (S : Int) : Dy := (formD (decide (S < 0)) S.natAbs (-2148)).getD Dy.zero
theorem sumD_eq {S : Int} (h1 : -((16384 * BB : Nat) : Int) < S) (h2 : S < (16384 * BB : Nat)) (neg : Bool) : formD neg S.natAbs (-2148) = some (if S = 0 then Dy.zero else ⟨neg, S.natAbs / 2 ^ tz S.natAbs, -2148 + tz S.natAbs⟩) := by
  by_cases h0 : S = 0
  · subst h0; rfl
  · have hn : S.natAbs ≠ 0 := by omega
    have hlt : S.natAbs < 2 ^ 4238 := by
      have : 16384 * BB = 2 ^ 4238 := by unfold BB; rw [show (18446744073709551616 : Nat) = 2 ^ 64 from rfl, ← Nat.pow_mul, show (16384 : Nat) = 2 ^ 14 from rfl, ← Nat.pow_add]
      rw [← this]; omega
    have hb := bl_le.2 hlt
    have ht := tz_lt_bl hn
    rw [if_neg h0, formD_some hn]
    have h3 : (wd (S.natAbs / 2 ^ tz S.natAbs)).length ≤ 8192 := wd_len_gen (Nat.lt_of_le_of_lt (Nat.div_le_self _ _) hlt) (by omega)
    omega
theorem prs_step' {C : List Nat} {i : Nat} (h : i < C.length) (hW : W64 C) : prs (C.take i) ++ [C.getD i 0 % 4294967296, C.getD i 0 / 2 ^ 32 % 4294967296] = prs (C.take (i + 1)) := prs_step h hW
structure KEx (C : List Nat) (b2 : Nat) (w0 : World) (g : Nat × Value) (w : World) : Prop where
  i : g.1 ≤ 67
  gr : GR w 209 u32v w0.heap.size [b2] g.2 (prs (C.take g.1))
  h2 : BK w b2 107 [.bool false, .slice none 0 0, .int .i64 0]
  ge : w0.heap.size ≤ b2
  ch : Chg [] w0 w
theorem rep_abs {L C : List Nat} {S : Int} (hr : Rep L S) (h1 : -((16384 * BB : Nat) : Int) < S) (h2 : S < (16384 * BB : Nat)) (hC : tv C = (if 9223372036854775808 ≤ L.getD 66 0 then (MM - tv L) % MM else tv L)) :
    decide (9223372036854775808 ≤ L.getD 66 0) = decide (S < 0) ∧ tv C = S.natAbs := by
  have hM := MM_eq
  by_cases h0 : S < 0
  · obtain ⟨a, _, c⟩ := hr.neg h0 h1
    rw [if_pos (by omega)] at hC
    refine ⟨decide_eq_decide.2 (by omega), ?_⟩
    rw [hC, Nat.mod_eq_of_lt (by omega)]
    omega
  · obtain ⟨a, c⟩ := hr.pos (by omega) h2
    rw [if_neg (by omega)] at hC
    refine ⟨decide_eq_decide.2 (by omega), ?_⟩
    rw [hC]; omega

theorem Exact_spec {R : List Value} (b : Nat) (L : List Nat) (S : Int) (w : World) (hB : TB w b 251 L R) (hr : Rep L S) (hg : GW w) (h1 : -((16384 * BB : Nat) : Int) < S) (h2 : S < (16384 * BB : Nat)) : Ret Tryz.prog 108 [.pointer (some ⟨b, 0, none⟩)] w fun u w' => DY w' u (sumD S) ∧ Chg [] w w' := by
 have hch : Chg [] w w := Chg.refl _ _;have hLL := hr.len;have hB0 := hB;have hg0 := hg;refine zE1 Tryz.func108 rfl ?_;refine Sr fun _ kh1 => ?_;refine zAh rfl rfl hch fun b2 wm2 hb2 hcm2 hge2 hgehch2 hch => ?_;have hneb2 : b ≠ b2 := by have := hB.lt; omega
 have hB := hB.keep0 hcm2;refine zz (kh1 (Sr fun _ kh3 => zm rfl ?_));refine WL.ev (Ev.nilPtr rfl) rfl ?_;refine zf rfl ?_;refine WL.ev (Ev.loadAgg (cs := L.map u64v) rfl (by simp [hLL]) rfl (fun j v hv => by rw [add_addr, Nat.zero_add]; exact BK.at_ hB (by rw [List.getElem?_append_left (lt_of_some hv)]; exact hv))) rfl ?_;refine WL.call hasF197 rfl rfl (size_spec L _ hLL hr.w) fun v w1 h' => ?_;obtain ⟨C, rfl, hCl, hCw, hCv, hC13⟩ := h';have hch := hch.ta hC13;have hB := hB.keep0 hC13;have hb2 := hb2.k0 hC13;refine WL.allocB (l := (List.replicate 67 0).map u64v) rfl rfl fun b3 wm3 hb3 hcm3 hge3 => ?_;have hne3 : b ≠ b3 := by have := hB.lt; omega
 have hne23 := zdd hb2.lt hge3;have hw3 := hch.size;have hch := hch.trans hcm3;have hb2 := hb2.k0 hcm3;have hB := hB.keep0 hcm3;refine WL.storeB (l' := C.map u64v) rfl rfl (by simp [hCl]) (by intro v hv; obtain ⟨x, _, rfl⟩ := List.mem_map.1 hv; rfl) hb3 (by simp [hCl]) (splice_all (C.map u64v) [] ((List.replicate 67 0).map u64v) (by simp [hCl])) fun ws3 hb3 hcs3 => ?_;have hch := hch.step hcs3 (fun y hy => by simp only [List.mem_singleton] at hy; subst hy; exact .inr (by omega));have hb2 := hb2.kq hcs3;have hB := hB.kq hcs3;refine zz (kh3 (Sr fun _ kh5 => za rfl (zz (kh5 (zc fun _ kh7 => Sr fun _ kh8 => ?_)))));refine WL.ev (Ev.loadA rfl rfl hb3 (by simp [hCl])) rfl ?_;refine zm rfl (zz (kh8 ?_));refine CW.block ?_;refine CW.loop (S := fun g : Nat × Value => [(0, .pointer (some ⟨b, 0, none⟩)), (2, .pointer (some ⟨b2, 0, none⟩)), (4, g.2), (14, .agg (C.map u64v).toArray), (15, .int .i64 (g.1 : Int))]) (Inv := KEx C b2 w) (mu := fun g => 67 - g.1) ((0, .slice none 0 0)) ?_ ?_ ?_
 ·exact ⟨by omega, GR.nil, hb2, hge2, hch⟩
 ·exact SLp
 ·rintro ⟨i, vo⟩ wr ⟨hi, hgr, hb2, hge2, hch⟩;dsimp only at hi hgr hb2 hge2 hch;dsimp only;have hx := hCw.getD i;have hpl := prs_len (C.take i);rw [List.length_take] at hpl;have hws := hch.size;refine Sr fun _ kh10 => ?_;refine WL.ev (Ev.lss rfl rfl) rfl ?_;refine zz (kh10 (zc fun _ kh12 => ?_));refine zy rfl ?_ ?_<;>intro hc1<;>try simp only [qs] at hc1
  ·refine zkk ?_
   refine kh12 (zc fun _ kh13 => ?_);refine CW.block ?_;refine Sr fun _ kh14 => ?_;refine WL.ev (Ev.indexAr (i := i) (v := u64v (C.getD i 0)) rfl rfl (by omega) rfl (map_at u64v 0 (by omega))) rfl ?_;refine za rfl (zz (kh14 ?_));refine zR fun _ kr16 => ?_;refine zm rfl (zm rfl ?_);refine WL.ev (Ev.conv32 rfl rfl) rfl ?_;refine zm rfl ?_;refine WL.ev (Ev.shrU (b := 32) rfl rfl (by simp only [IntKind.bits]; omega)) rfl ?_;refine WL.ev (Ev.conv32 rfl rfl) rfl ?_;refine WL.buildSlice (m := 2) (cs := [u32v (((C.getD i 0) % 4294967296)), u32v ((((C.getD i 0) / 2 ^ 32) % 4294967296))]) (by decide) (by decide) rfl (by kernel_rfl) rfl fun b24 w24 hn24 => ?_;have hcm24 := hn24.chg;have hge24 := hn24.ge;have hb24 : OB w24 b24 _ [((C.getD i 0) % 4294967296), (((C.getD i 0) / 2 ^ 32) % 4294967296)] := hn24.at_;have hgehch24 := Nat.le_trans hch.size hge24;have hch := hch.ta hcm24;have hneb224 := zdd hb2.lt hge24;have hb2 := hb2.k0 hcm24;have hgr := hgr.keep0 hcm24;refine WL.growR (f := u32v) (lo := w.heap.size) (X := [b2]) (l := prs (C.take i)) (news := [((C.getD i 0) % 4294967296), (((C.getD i 0) / 2 ^ 32) % 4294967296)]) (by rfl) (fun i => rfl) rfl rfl hgr (by first | rfl | (simp; done) | (simp; omega) | omega) hb24.row (by first | omega | exact hch.size | exact Nat.le_refl _) (by intro y hy; simp only [List.mem_singleton] at hy; subst hy; exact hb2.lt) (by simp only [List.length_append, List.length_cons, List.length_nil]; omega) (by simp only [List.length_append, List.length_cons, List.length_nil]; omega) rfl fun v25 w25 hg25 hcg25 => ?_;have hch := GR.frame hgr hcg25 hch (by first | omega | exact Nat.le_refl _);have hb2 := hb2.keep hcg25 (hgr.notin (by first | exact .inl (by simp) | exact .inr (by omega)));have hgr := hg25;rw [show (prs (C.take i) ++ [((C.getD i 0) % 4294967296), (((C.getD i 0) / 2 ^ 32) % 4294967296)]) = prs (C.take (i + 1)) from by exact prs_step' (by omega) hCw] at hgr;refine za rfl ?_;refine WL.nil (kr16 _ _ _ (kh13 ?_));refine zR fun _ kr17 => ?_;(first | refine zi rfl rfl ?_ | refine zo rfl rfl ?_);refine zm rfl ?_;refine WL.nil (kr17 _ _ _ ?_);refine ⟨rfl, (i + 1, v25), ?_, ?_, ?_⟩
   ·exact SLp
   ·exact ⟨by omega, hgr, hb2, hge2, hch⟩
   ·show 67 - (i + 1) < 67 - i; omega
  ·have hi67 : i = 67 := by omega
   subst hi67;have hB := hB0.keep0 hch;have hg := hg0.keep0 hch;have hNU := hgr.nu (by rw [List.take_of_length_le (by omega)]; exact prs_W hCw) (by omega);rw [List.take_of_length_le (by omega)] at hNU;obtain ⟨ea, ec⟩ := rep_abs hr h1 h2 hCv;refine CW.exit ?_;refine kh7 (Sr fun _ kh18 => zm rfl ?_);refine WL.ev (Ev.nilPtr rfl) rfl ?_;refine zf rfl ?_;refine WL.call hasF198 rfl rfl (neg_spec b L _ hB hLL hr.w) fun v w2 h' => ?_;obtain ⟨rfl, rfl⟩ := h';rw [ea];refine zm rfl ?_;refine WL.call hasF128 rfl rfl (Make_spec (decide (S < 0)) vo (prs C) (-2148) _ hNU hg (by omega)) fun v w3 h' => ?_;obtain ⟨hDR, hC33⟩ := h';have hfe := sumD_eq h1 h2 (decide (S < 0));rw [prs_val, ec] at hDR;have hsD : formD (decide (S < 0)) S.natAbs (-2148) = some (sumD S) := by unfold sumD; rw [hfe]; rfl
   rcases hDR with ⟨r, dd, he33, rfl, hN33⟩ | ⟨he33, _⟩
   rotate_left
   · rw [hsD] at he33; cases he33
   rw [hsD] at he33;cases he33;have hch := hch.ta hC33;have hb2 := hb2.k0 hC33;refine zm rfl (zx rfl rfl (zx rfl rfl ?_));refine zAh rfl rfl hch fun b7 wm7 hb7 hcm7 hge7 hgehch7 hch => ?_;have hN33 := hN33.keep0 hcm7;have hneb27 := zdd hb2.lt hge7;have hb2 := hb2.k0 hcm7;refine zss rfl rfl ao hb7 rfl fun ws8 hb7_ hcs8 => ?_;(try simp only [Sx.splice, qt] at hb7_);have hch := hch.s1 hcs8;have hb2 := hb2.kq hcs8;have hN33 := hN33.keepBK hb7 hcs8 an;have hb7 := hb7_;refine za rfl (zz (kh18 (Sr fun _ kh20 => zg hb7 rfl ?_)));refine zss rfl rfl ao hb2 rfl fun ws9 hb2_ hcs9 => ?_;(try simp only [Sx.splice, qt] at hb2_);have hch := hch.s1 hcs9;have hN33 := hN33.keepBK hb2 hcs9 an;have hb2 := hb2_;refine zz (kh20 ?_);refine zr (bodyA.retR1 rfl (RVal.cell rfl (hb2.varA rfl rfl)) ?_);exact ⟨⟨_, rfl, hN33⟩, hch⟩

end

/- Package root: about, digits. No condition. -/
section
open Go Sx Wd
set_option exponentiation.threshold 5000

theorem wd_len_lift {q y k : Nat} (h : (wd q).length ≤ k) (hy : y ≤ 32 * k) : (wd (2 * (q * 2 ^ y))).length ≤ 2 * k + 1 := by
  rw [wd_length_le] at h ⊢
  have h1 : q * 2 ^ y < 2 ^ (32 * k) * 2 ^ (32 * k) := Nat.lt_of_lt_of_le (Nat.mul_lt_mul_of_pos_right h (Nat.two_pow_pos _)) (Nat.mul_le_mul_left _ (Nat.pow_le_pow_right (by decide) hy))
  rw [← Nat.pow_add] at h1
  have h2 : 2 * 2 ^ (32 * k + 32 * k) ≤ 2 ^ (32 * (2 * k + 1)) := by
    rw [← Nat.pow_succ']; exact Nat.pow_le_pow_right (by decide) (by omega)
  omega
theorem wd_len_small {n k : Nat} (h : n < 2 ^ k) (hk : k ≤ 262144) : (wd n).length ≤ 8192 := wd_len_gen h (by omega)
theorem bl_len {n k : Nat} (h : (wd n).length ≤ k) : bl n ≤ 32 * k := bl_le.2 (wd_length_le.1 h)
theorem bl_small {n k : Nat} (h : n < 2 ^ k) : bl n ≤ k := bl_le.2 h
/-- What about tells: size and a sticky bit. -/
def aboutM (m : Nat) (cut : Bool) : Nat := 2 * m + if cut then 1 else 0
def aboutE (e : Int) : Int := max (-3000) (min 3000 (e - 1))
theorem aboutM_lt {m : Nat} {cut : Bool} (h : m < 2 ^ 82) : aboutM m cut < 2 ^ 84 := by unfold aboutM; cases cut <;> simp <;> omega
theorem about_form {neg : Bool} {m : Nat} {cut : Bool} {e : Int} (h : m < 2 ^ 82) : ∃ d, formD neg (aboutM m cut) (aboutE e) = some d := by
  have h2 := aboutM_lt (cut := cut) h
  by_cases h0 : aboutM m cut = 0
  · rw [h0]; exact ⟨_, rfl⟩
  · have ht := tz_lt_bl h0
    have hb := bl_small h2
    have h3 := wd_len_small (Nat.lt_of_le_of_lt (Nat.div_le_self _ (2 ^ tz (aboutM m cut))) h2) (by decide)
    refine ⟨_, formD_some h0 ?_⟩
    unfold aboutE
    omega
def aboutD (neg : Bool) (m : Nat) (cut : Bool) (e : Int) : Dy := (formD neg (aboutM m cut) (aboutE e)).getD Dy.zero

theorem about_spec (neg : Bool) (v : Value) (m : Nat) (cut : Bool) (e : Int) (w : World) (h : NU w v (wd m)) (hg : GW w) (hm : m < 2 ^ 82) (he : -1099511627776 ≤ e ∧ e ≤ 1099511627776) : Ret Tryz.prog 321 [.bool neg, v, .bool cut, .int .i64 e] w fun u w' => DY w' u (aboutD neg m cut e) ∧ Chg [] w w' := by
 have hch : Chg [] w w := Chg.refl _ _;have hb82 := bl_small hm;have hl82 := wd_len_small hm (by decide);obtain ⟨dd, hdd⟩ := about_form (neg := neg) (cut := cut) (e := e) hm;have hM84 := aboutM_lt (cut := cut) hm;have hg0 := hg;refine zE4 Tryz.func321 rfl ?_;refine Sr fun _ kh1 => ?_;refine zAh rfl rfl hch fun b8 wm8 hb8 hcm8 hge8 hgehch8 hch => ?_;have h := h.keep0 hcm8;refine zz (kh1 (Sr fun _ kh3 => zm rfl ?_));refine WL.call hasF172 rfl rfl (Shift_spec _ _ 1 _ h (by omega)) fun v w1 h' => ?_;obtain ⟨h', hC13⟩ := h';rw [val_wd, show shiftN m 1 = m * 2 ^ 1 from shiftN_pos m 1] at h';obtain ⟨_, r13, rfl, hN13⟩ := h'.resolve_right (fun q => q.1 ⟨hl82, .inr (by omega)⟩);have hch := hch.ta hC13;have hb8 := hb8.k0 hC13;refine zm rfl (zx rfl rfl (zx rfl rfl (za rfl (zz (kh3 (zc fun _ kh5 => Sr fun _ kh6 => zm rfl (zz (kh6 ?_))))))));refine zy rfl ?_ ?_<;>intro hc1<;>try simp only [qs] at hc1
 ·have hcT : cut = true := hc1
  refine zR fun _ kr8 => ?_;refine zm rfl ?_;refine WL.call hasF213 rfl rfl (Of_spec 1 _ (by decide)) fun v w2 h' => ?_;obtain ⟨hN19, hC19⟩ := h';have hch := hch.ta hC19;have hb8 := hb8.k0 hC19;have hN13 := hN13.keep0 hC19;refine WL.call hasF346 rfl rfl (Add_spec _ _ _ _ _ hN13 hN19) fun v w3 h' => ?_;obtain ⟨h', hC20⟩ := h';rw [val_wd, val_wd, show m * 2 ^ 1 + 1 = aboutM m cut by unfold aboutM; rw [hcT, if_pos rfl]; omega] at h';obtain ⟨_, _, _, r20, rfl, hN20⟩ := h'.resolve_right (fun q => q.1 ⟨wd_len_small (k := 84) (by omega) (by decide), wd_len_small (k := 84) (by decide) (by decide), wd_len_small hM84 (by decide)⟩);have hch := hch.ta hC20;have hb8 := hb8.k0 hC20;refine zm rfl (zx rfl rfl (zx rfl rfl (za rfl ?_)));refine WL.nil (kr8 _ _ _ (kh5 ?_));refine Sr fun _ kh9 => zm rfl (zm rfl (zm rfl ?_));refine WL.ev (Ev.subIn rfl rfl (by omega)) rfl ?_;refine WL.ev (Ev.minI rfl rfl) rfl ?_;refine WL.ev (Ev.maxI rfl rfl) rfl ?_;rw [show max (-3000) (min 3000 (e - 1)) = aboutE e from rfl];have haE : -3000 ≤ aboutE e ∧ aboutE e ≤ 3000 := by unfold aboutE; omega
  refine WL.call hasF128 rfl rfl (Make_spec neg _ (wd (aboutM m cut)) (aboutE e) _ hN20 (hg0.keep0 hch) (by omega)) fun v w4 h' => ?_;obtain ⟨hDR, hC30⟩ := h';rw [val_wd] at hDR;have hsD : formD neg (aboutM m cut) (aboutE e) = some (aboutD neg m cut e) := by unfold aboutD; rw [hdd]; rfl
  rcases hDR with ⟨r, d2, he30, rfl, hN33⟩ | ⟨he30, _⟩
  rotate_left
  · rw [hsD] at he30; cases he30
  rw [hsD] at he30;cases he30;have hch := hch.ta hC30;have hb8 := hb8.k0 hC30;refine zm rfl (zx rfl rfl (zx rfl rfl ?_));refine zAh rfl rfl hch fun b9 wm9 hb9 hcm9 hge9 hgehch9 hch => ?_;have hN33 := hN33.keep0 hcm9;have hneb89 := zdd hb8.lt hge9;have hb8 := hb8.k0 hcm9;refine zss rfl rfl ao hb9 rfl fun ws1 hb9_ hcs1 => ?_;(try simp only [Sx.splice, qt] at hb9_);have hch := hch.s1 hcs1;have hb8 := hb8.kq hcs1;have hN33 := hN33.keepBK hb9 hcs1 an;have hb9 := hb9_;refine za rfl (zz (kh9 (Sr fun _ kh11 => zg hb9 rfl ?_)));refine zss rfl rfl ao hb8 rfl fun ws2 hb8_ hcs2 => ?_;(try simp only [Sx.splice, qt] at hb8_);have hch := hch.s1 hcs2;have hN33 := hN33.keepBK hb8 hcs2 an;have hb8 := hb8_;refine zz (kh11 ?_);refine zr (bodyA.retR1 rfl (RVal.cell rfl (hb8.varA rfl rfl)) ?_);exact ⟨⟨_, rfl, hN33⟩, hch⟩
 ·have hcF : cut = false := hc1
  have hN20 := hN13;rw [show m * 2 ^ 1 = aboutM m cut by unfold aboutM; rw [hcF]; simp; omega] at hN20;refine zkk ?_;refine kh5 (Sr fun _ kh13 => zm rfl (zm rfl (zm rfl ?_)));refine WL.ev (Ev.subIn rfl rfl (by omega)) rfl ?_;refine WL.ev (Ev.minI rfl rfl) rfl ?_;refine WL.ev (Ev.maxI rfl rfl) rfl ?_;rw [show max (-3000) (min 3000 (e - 1)) = aboutE e from rfl];have haE : -3000 ≤ aboutE e ∧ aboutE e ≤ 3000 := by unfold aboutE; omega
  refine WL.call hasF128 rfl rfl (Make_spec neg _ (wd (aboutM m cut)) (aboutE e) _ hN20 (hg0.keep0 hch) (by omega)) fun v w5 h' => ?_;obtain ⟨hDR, hC30⟩ := h';rw [val_wd] at hDR;have hsD : formD neg (aboutM m cut) (aboutE e) = some (aboutD neg m cut e) := by unfold aboutD; rw [hdd]; rfl
  rcases hDR with ⟨r, d2, he30, rfl, hN33⟩ | ⟨he30, _⟩
  rotate_left
  · rw [hsD] at he30; cases he30
  rw [hsD] at he30;cases he30;have hch := hch.ta hC30;have hb8 := hb8.k0 hC30;refine zm rfl (zx rfl rfl (zx rfl rfl ?_));refine zAh rfl rfl hch fun b9 wm9 hb9 hcm9 hge9 hgehch9 hch => ?_;have hN33 := hN33.keep0 hcm9;have hneb89 := zdd hb8.lt hge9;have hb8 := hb8.k0 hcm9;refine zss rfl rfl ao hb9 rfl fun ws3 hb9_ hcs3 => ?_;(try simp only [Sx.splice, qt] at hb9_);have hch := hch.s1 hcs3;have hb8 := hb8.kq hcs3;have hN33 := hN33.keepBK hb9 hcs3 an;have hb9 := hb9_;refine za rfl (zz (kh13 (Sr fun _ kh15 => zg hb9 rfl ?_)));refine zss rfl rfl ao hb8 rfl fun ws4 hb8_ hcs4 => ?_;(try simp only [Sx.splice, qt] at hb8_);have hch := hch.s1 hcs4;have hN33 := hN33.keepBK hb8 hcs4 an;have hb8 := hb8_;refine zz (kh15 ?_);refine zr (bodyA.retR1 rfl (RVal.cell rfl (hb8.varA rfl rfl)) ?_);exact ⟨⟨_, rfl, hN33⟩, hch⟩

structure KDg (A0 B : Nat) (w0 : World) (vb : Value) (g : Nat × Nat × Nat × Value × Value) (w : World) : Prop where
  m : DigI A0 B g.1 g.2.1 g.2.2.1
  i : g.1 ≤ 82
  hs : NU w g.2.2.2.1 (wd g.2.1)
  ha : NU w g.2.2.2.2 (wd g.2.2.1)
  hb : NU w vb (wd B)
  ch : Chg [] w0 w
theorem dig_small {A0 B i size a : Nat} (h : DigI A0 B i size a) (h2 : A0 < 2 * B) : a ≤ 2 * B := by
  by_cases h0 : i = 0
  · have := (h.z h0).2; omega
  · have := (h.s (by omega)).2; omega

theorem digits_spec (vm vq : Value) (m q : Nat) (w : World) (hm : NU w vm (wd m)) (hq : NU w vq (wd q)) (hml : (wd m).length ≤ 8192) (hql : (wd q).length ≤ 8192) (hq0 : q ≠ 0) : Ret Tryz.prog 319 [vm, vq, .int .i64 82] w fun u w' => (∃ vs size a, u = .tuple [vs, .bool (decide (a ≠ 0)), .int .i64 ((bl m : Int) - (bl q : Int) - 81)].toArray ∧ NU w' vs (wd size) ∧ DigI (m * 2 ^ (max 0 (-((bl m : Int) - (bl q : Int)))).toNat) (q * 2 ^ (max 0 ((bl m : Int) - (bl q : Int))).toNat) 82 size a) ∧ Chg [] w w' := by
 have hch : Chg [] w w := Chg.refl _ _;have hbm := bl_len hml;have hbq := bl_len hql;obtain ⟨x, hx⟩ : ∃ x, x = (max 0 (-((bl m : Int) - (bl q : Int)))).toNat := ⟨_, rfl⟩;obtain ⟨y, hy⟩ : ∃ y, y = (max 0 ((bl m : Int) - (bl q : Int))).toNat := ⟨_, rfl⟩;have hA2 : m * 2 ^ x < 2 * (q * 2 ^ y) := by
  by_cases h0 : m = 0
  · rw [h0, Nat.zero_mul]; have := Nat.mul_pos (show 0 < q by omega) (Nat.two_pow_pos y); omega
  · rw [hx, hy]; exact (digits_low h0 hq0 rfl).1
 rw [← hx, ← hy];have hBl := wd_len_lift hql (y := y) (by omega);obtain ⟨A0, hA0⟩ : ∃ A0, A0 = m * 2 ^ x := ⟨_, rfl⟩;obtain ⟨B, hB⟩ : ∃ B, B = q * 2 ^ y := ⟨_, rfl⟩;rw [← hA0] at hA2 ⊢;rw [← hB] at hA2 hBl ⊢;refine zE3 Tryz.func319 rfl ?_;refine Sr fun _ kh1 => za rfl (za rfl (za rfl (zz (kh1 (Sr fun _ kh3 => zm rfl ?_)))));refine WL.call hasF184 rfl rfl (Len_spec _ _ _ hm) fun v w1 h' => ?_;obtain ⟨rfl, rfl⟩ := h';rw [val_wd];refine zm rfl ?_;refine WL.call hasF184 rfl rfl (Len_spec _ _ _ hq) fun v w2 h' => ?_;obtain ⟨rfl, rfl⟩ := h';rw [val_wd];refine WL.ev (Ev.subIn rfl rfl (by omega)) rfl ?_;refine za rfl (zz (kh3 (Sr fun _ kh5 => zm rfl (zm rfl ?_))));refine WL.ev (Ev.negIn rfl (by omega)) rfl ?_;refine WL.ev (Ev.maxI rfl rfl) rfl ?_;rw [show max 0 (-((bl m : Int) - (bl q : Int))) = ((x : Nat) : Int) by omega];refine WL.call hasF343 rfl rfl (lifted_spec _ _ x _ hm (by omega) (by omega)) fun v_22 w3 h' => ?_;obtain ⟨ha, hC22⟩ := h';rw [val_wd, ← hA0] at ha;have hch := hch.ta hC22;have hq := hq.keep0 hC22;refine zm rfl (zm rfl ?_);refine WL.ev (Ev.maxI rfl rfl) rfl ?_;rw [show max 0 ((bl m : Int) - (bl q : Int)) = ((y : Nat) : Int) by omega];refine WL.call hasF343 rfl rfl (lifted_spec _ _ y _ hq (by omega) (by omega)) fun v_26 w4 h' => ?_;obtain ⟨hb, hC26⟩ := h';rw [val_wd, ← hB] at hb;have hch := hch.ta hC26;have ha := ha.keep0 hC26;refine za rfl (za rfl (zz (kh5 (zc fun _ kh7 => Sr fun _ kh8 => zm rfl (zm rfl (zz (kh8 ?_)))))));refine CW.block ?_;refine CW.loop (S := fun g : Nat × Nat × Nat × Value × Value => [(2, .int .i64 82), (6, g.2.2.2.1), (9, .int .i64 ((bl m : Int) - (bl q : Int))), (10, g.2.2.2.2), (11, v_26), (27, .int .i64 82), (28, .int .i64 (g.1 : Int))]) (Inv := KDg A0 B w v_26) (mu := fun g => 82 - g.1) ((0, 0, A0, .slice none 0 0, v_22)) ?_ ?_ ?_
 ·exact ⟨DigI.zero _ _, Nat.zero_le _, by rw [wd_zero]; exact NU.nil, ha, hb, hch⟩
 ·exact SLp
 ·rintro ⟨i, size, a, vs, va⟩ wr ⟨hM, hi82, hs, ha, hb, hch⟩;dsimp only at hM hi82 hs ha hb hch;dsimp only;have hal := wd_length_mono (dig_small hM hA2);refine Sr fun _ kh10 => ?_;refine WL.ev (Ev.lss rfl rfl) rfl ?_;refine zz (kh10 (zc fun _ kh12 => ?_));refine zy rfl ?_ ?_<;>intro hc1<;>try simp only [qs] at hc1
  ·have hsz := hM.w
   have hp82 : 2 ^ i ≤ 2 ^ 82 := Nat.pow_le_pow_right (by decide) (by omega);have hs82 : size < 2 ^ 82 := by omega
   have hb82 := bl_small hs82;have hl82 := wd_len_small hs82 (by decide);refine zkk ?_;refine kh12 (zc fun _ kh13 => ?_);refine CW.block ?_;refine Sr fun _ kh14 => zm rfl (za rfl (zz (kh14 (zc fun _ kh16 => Sr fun _ kh17 => zm rfl ?_))));refine WL.ev (Ev.gtr rfl rfl) rfl ?_;refine zz (kh17 ?_);refine zy rfl ?_ ?_<;>intro hc2<;>try simp only [qs] at hc2
   ·have hi0 : 0 < i := by omega
    refine zR fun _ kr19 => ?_;refine zm rfl ?_;refine WL.call hasF343 rfl rfl (lifted_spec _ _ 1 _ ha (by decide) (by omega)) fun v34 w5 h' => ?_;obtain ⟨ha2, hC34⟩ := h';rw [val_wd] at ha2;have hch := hch.ta hC34;have hs := hs.keep0 hC34;have hb := hb.keep0 hC34;refine za rfl ?_;refine WL.nil (kr19 _ _ _ (kh16 ?_));refine Sr fun _ kh20 => zm rfl ?_;refine WL.call hasF172 rfl rfl (Shift_spec _ _ 1 _ hs (by omega)) fun v w6 h' => ?_;obtain ⟨h', hC37⟩ := h';rw [val_wd, show shiftN size 1 = size * 2 ^ 1 from shiftN_pos size 1] at h';obtain ⟨_, r37, rfl, hN37⟩ := h'.resolve_right (fun q => q.1 ⟨hl82, .inr (by omega)⟩);have hch := hch.ta hC37;have ha2 := ha2.keep0 hC37;have hb := hb.keep0 hC37;refine zm rfl (zx rfl rfl (zx rfl rfl (za rfl (zz (kh20 (Sr fun _ kh22 => zm rfl (zm rfl ?_)))))));refine WL.call hasF344 rfl rfl (compared_spec _ _ (a * 2 ^ 1) B _ ha2 hb) fun v w7 h' => ?_;obtain ⟨rfl, hC42⟩ := h';have hch := hch.ta hC42;have ha2 := ha2.keep0 hC42;have hb := hb.keep0 hC42;have hN37 := hN37.keep0 hC42;refine WL.ev (Ev.geq rfl rfl) rfl ?_;refine zz (kh22 ?_);refine zy rfl ?_ ?_<;>intro hc3<;>try simp only [qs] at hc3
    ·have hge : B ≤ a * 2 ^ 1 := Nat.le_of_not_lt fun hlt => by unfold sgn at hc3; rw [if_pos hlt] at hc3; omega
     have hst := hM.step (a' := a * 2 ^ 1) hA2 (by rw [if_pos hi0]);refine Sr fun _ kh24 => zm rfl (zm rfl ?_);refine WL.call hasF345 rfl rfl (rless_spec _ _ _ _ _ ha2 hb (by rw [val_wd, val_wd]; exact hge)) fun v46 w8 h' => ?_;obtain ⟨hN46, hC46⟩ := h';rw [val_wd, val_wd] at hN46;have hch := hch.ta hC46;have hb := hb.keep0 hC46;have hN37 := hN37.keep0 hC46;refine za rfl (zz (kh24 ?_));refine zR fun _ kr26 => ?_;refine zm rfl ?_;refine WL.call hasF213 rfl rfl (Of_spec 1 _ (by decide)) fun v w9 h' => ?_;obtain ⟨hN49, hC49⟩ := h';have hch := hch.ta hC49;have hN46 := hN46.keep0 hC49;have hb := hb.keep0 hC49;have hN37 := hN37.keep0 hC49;refine WL.call hasF346 rfl rfl (Add_spec _ _ _ _ _ hN37 hN49) fun v w10 h' => ?_;obtain ⟨h', hC50⟩ := h';rw [val_wd, val_wd] at h';obtain ⟨_, _, _, r50, rfl, hN50⟩ := h'.resolve_right (fun q => q.1 ⟨wd_len_small (k := 84) (by omega) (by decide), wd_len_small (k := 84) (by decide) (by decide), wd_len_small (k := 84) (by omega) (by decide)⟩);have hch := hch.ta hC50;have hN46 := hN46.keep0 hC50;have hb := hb.keep0 hC50;refine zm rfl (zx rfl rfl (zx rfl rfl (za rfl ?_)));refine WL.nil (kr26 _ _ _ (kh13 ?_));refine zR fun _ kr27 => ?_;(first | refine zi rfl rfl ?_ | refine zo rfl rfl ?_);refine zm rfl ?_;refine WL.nil (kr27 _ _ _ ?_);refine ⟨rfl, (i + 1, size * 2 ^ 1 + 1, a * 2 ^ 1 - B, r50, v46), ?_, ?_, ?_⟩
     ·exact SLp
     ·exact ⟨hst.1 hge, by show i + 1 ≤ 82; omega, hN50, hN46, hb, hch⟩
     ·show 82 - (i + 1) < 82 - i; omega
    ·have hlt : a * 2 ^ 1 < B := Nat.lt_of_not_le fun hle => by unfold sgn at hc3; rw [if_neg (by omega)] at hc3; split at hc3 <;> omega
     have hst := hM.step (a' := a * 2 ^ 1) hA2 (by rw [if_pos hi0]);refine zkk ?_;refine kh13 ?_;refine zR fun _ kr28 => ?_;(first | refine zi rfl rfl ?_ | refine zo rfl rfl ?_);refine zm rfl ?_;refine WL.nil (kr28 _ _ _ ?_);refine ⟨rfl, (i + 1, size * 2 ^ 1, a * 2 ^ 1, r37, v34), ?_, ?_, ?_⟩
     ·exact SLp
     ·exact ⟨hst.2 hlt, by show i + 1 ≤ 82; omega, hN37, ha2, hb, hch⟩
     ·show 82 - (i + 1) < 82 - i; omega
   ·have hi0 : i = 0 := by omega
    refine zkk ?_;refine kh16 (Sr fun _ kh29 => zm rfl ?_);refine WL.call hasF172 rfl rfl (Shift_spec _ _ 1 _ hs (by omega)) fun v w11 h' => ?_;obtain ⟨h', hC37⟩ := h';rw [val_wd, show shiftN size 1 = size * 2 ^ 1 from shiftN_pos size 1] at h';obtain ⟨_, r37, rfl, hN37⟩ := h'.resolve_right (fun q => q.1 ⟨hl82, .inr (by omega)⟩);have hch := hch.ta hC37;have ha := ha.keep0 hC37;have hb := hb.keep0 hC37;refine zm rfl (zx rfl rfl (zx rfl rfl (za rfl (zz (kh29 (Sr fun _ kh31 => zm rfl (zm rfl ?_)))))));refine WL.call hasF344 rfl rfl (compared_spec _ _ (a) B _ ha hb) fun v w12 h' => ?_;obtain ⟨rfl, hC42⟩ := h';have hch := hch.ta hC42;have ha := ha.keep0 hC42;have hb := hb.keep0 hC42;have hN37 := hN37.keep0 hC42;refine WL.ev (Ev.geq rfl rfl) rfl ?_;refine zz (kh31 ?_);refine zy rfl ?_ ?_<;>intro hc4<;>try simp only [qs] at hc4
    ·have hge : B ≤ a := Nat.le_of_not_lt fun hlt => by unfold sgn at hc4; rw [if_pos hlt] at hc4; omega
     have hst := hM.step (a' := a) hA2 (by rw [if_neg (by omega)]);refine Sr fun _ kh33 => zm rfl (zm rfl ?_);refine WL.call hasF345 rfl rfl (rless_spec _ _ _ _ _ ha hb (by rw [val_wd, val_wd]; exact hge)) fun v46 w13 h' => ?_;obtain ⟨hN46, hC46⟩ := h';rw [val_wd, val_wd] at hN46;have hch := hch.ta hC46;have hb := hb.keep0 hC46;have hN37 := hN37.keep0 hC46;refine za rfl (zz (kh33 ?_));refine zR fun _ kr35 => ?_;refine zm rfl ?_;refine WL.call hasF213 rfl rfl (Of_spec 1 _ (by decide)) fun v w14 h' => ?_;obtain ⟨hN49, hC49⟩ := h';have hch := hch.ta hC49;have hN46 := hN46.keep0 hC49;have hb := hb.keep0 hC49;have hN37 := hN37.keep0 hC49;refine WL.call hasF346 rfl rfl (Add_spec _ _ _ _ _ hN37 hN49) fun v w15 h' => ?_;obtain ⟨h', hC50⟩ := h';rw [val_wd, val_wd] at h';obtain ⟨_, _, _, r50, rfl, hN50⟩ := h'.resolve_right (fun q => q.1 ⟨wd_len_small (k := 84) (by omega) (by decide), wd_len_small (k := 84) (by decide) (by decide), wd_len_small (k := 84) (by omega) (by decide)⟩);have hch := hch.ta hC50;have hN46 := hN46.keep0 hC50;have hb := hb.keep0 hC50;refine zm rfl (zx rfl rfl (zx rfl rfl (za rfl ?_)));refine WL.nil (kr35 _ _ _ (kh13 ?_));refine zR fun _ kr36 => ?_;(first | refine zi rfl rfl ?_ | refine zo rfl rfl ?_);refine zm rfl ?_;refine WL.nil (kr36 _ _ _ ?_);refine ⟨rfl, (i + 1, size * 2 ^ 1 + 1, a - B, r50, v46), ?_, ?_, ?_⟩
     ·exact SLp
     ·exact ⟨hst.1 hge, by show i + 1 ≤ 82; omega, hN50, hN46, hb, hch⟩
     ·show 82 - (i + 1) < 82 - i; omega
    ·have hlt : a < B := Nat.lt_of_not_le fun hle => by unfold sgn at hc4; rw [if_neg (by omega)] at hc4; split at hc4 <;> omega
     have hst := hM.step (a' := a) hA2 (by rw [if_neg (by omega)]);refine zkk ?_;refine kh13 ?_;refine zR fun _ kr37 => ?_;(first | refine zi rfl rfl ?_ | refine zo rfl rfl ?_);refine zm rfl ?_;refine WL.nil (kr37 _ _ _ ?_);refine ⟨rfl, (i + 1, size * 2 ^ 1, a, r37, va), ?_, ?_, ?_⟩
     ·exact SLp
     ·exact ⟨hst.2 hlt, by show i + 1 ≤ 82; omega, hN37, ha, hb, hch⟩
     ·show 82 - (i + 1) < 82 - i; omega
  ·have hi82e : i = 82 := by omega
   subst hi82e;refine CW.exit ?_;refine kh7 (Sr fun _ kh38 => zm rfl (zm rfl ?_));obtain ⟨aa, ca, rfl, hcapa, hra⟩ := ha.ex;have hla := wd_length_pos (n := a);refine zn rfl ?_;refine WL.ev (Ev.gtr rfl rfl) rfl ?_;rw [show decide ((0 : Int) < (((wd a).length : Nat) : Int)) = decide (a ≠ 0) from decide_eq_decide.2 (by omega)];refine zm rfl (zm rfl ?_);refine WL.ev (Ev.subIn rfl rfl (by omega)) rfl ?_;refine WL.ev (Ev.subIn rfl rfl (by omega)) rfl ?_;refine za rfl (za rfl (za rfl (zz (kh38 ?_))));refine zr ?_;refine bodyA.ret3 rfl rfl rfl rfl ?_;exact ⟨⟨_, size, a, rfl, hs, hM⟩, hch⟩

end

/- Package root: quotient. No condition. -/
section
open Go Sx Wd
set_option exponentiation.threshold 5000

theorem quotient_spec (nn nd : Bool) (vn vd : Value) (m q : Nat) (en ed : Int) (w : World) (hm : NU w vn (wd m)) (hq : NU w vd (wd q)) (hml : (wd m).length ≤ 8192) (hql : (wd q).length ≤ 8192) (hq0 : q ≠ 0) (hen : -1048576 ≤ en ∧ en ≤ 1048576) (hed : -1048576 ≤ ed ∧ ed ≤ 1048576) (hg : GW w) : Ret Tryz.prog 284 [.agg [.bool nn, vn, .int .i64 en, .bool nd, vd, .int .i64 ed].toArray] w fun u w' => (∃ size a, DY w' u (aboutD nn size (decide (a ≠ 0)) (((bl m : Int) - (bl q : Int)) - 81 + en - ed)) ∧ DigI (m * 2 ^ (max 0 (-((bl m : Int) - (bl q : Int)))).toNat) (q * 2 ^ (max 0 ((bl m : Int) - (bl q : Int))).toNat) 82 size a) ∧ Chg [] w w' := by
 have hch : Chg [] w w := Chg.refl _ _;have hom := hm.one;have hoq := hq.one;have hbm := bl_len hml;have hbq := bl_len hql;have hg0 := hg;refine zE1 Tryz.func284 rfl ?_;refine Sr fun _ kh1 => ?_;refine zBh rfl rfl rfl hch fun b1 wm1 hb1 hcm1 hge1 hgehch1 hch => ?_;have hm := hm.keep0 hcm1;have hq := hq.keep0 hcm1;refine zAh rfl rfl hch fun b2 wm2 hb2 hcm2 hge2 hgehch2 hch => ?_;have hm := hm.keep0 hcm2;have hq := hq.keep0 hcm2;have hneb12 := zdd hb1.lt hge2;have hb1 := hb1.k0 hcm2;refine zz (kh1 (zc fun _ kh3 => ?_));refine CW.regionHC 16 rfl hmix fun kR4 kr4 hS hdr => ?_;have hch := hch.ta hdr;have hb1 := hb1.k0 hdr;have hb2 := hb2.k0 hdr;have hm := hm.keep0 hdr;have hq := hq.keep0 hdr;have hb1_r := hb1;refine wh 0 rfl hS (fun _ _ => Ev.fieldAddr rfl) (wh 1 rfl hS (fun _ _ => Ev.fieldAddr rfl) (wh 2 rfl hS (fun _ hw' => Ev.load rfl rfl ((hb1_r.keep0 hw').at_ rfl)) (wh 4 rfl hS (fun _ _ => Ev.fieldAddr rfl) (wh 5 rfl hS (fun _ _ => Ev.fieldAddr rfl) (wh 6 rfl hS (fun _ hw' => Ev.load rfl rfl ((hb1_r.keep0 hw').at_ rfl)) ?_)))));refine WH.oneCall 3 rfl (by kernel_rfl) hasF318 rfl rfl (trimmed_spec _ _ _ hm) fun v10 w1 h' => ?_;obtain ⟨hN10, rfl⟩ := h';rw [val_wd] at hN10;refine ⟨hS, ?_⟩;refine WH.oneCall 7 rfl (by kernel_rfl) hasF318 rfl rfl (trimmed_spec _ _ _ hq) fun v14 w2 h' => ?_;obtain ⟨hN14, rfl⟩ := h';rw [val_wd] at hN14;refine ⟨hS, ?_⟩;refine WH.oneCall 8 rfl (by kernel_rfl) hasF319 rfl rfl (digits_spec _ _ m q _ hN10 hN14 hml hql hq0) fun v w3 h' => ?_;obtain ⟨⟨vs, size, a, rfl, hNs, hDg⟩, hC15⟩ := h';have hch := hch.ta hC15;have hb1 := hb1.k0 hC15;have hb2 := hb2.k0 hC15;have hS := hS.trans hC15;refine ⟨hS, ?_⟩;refine wh 9 rfl hS (fun _ _ => Ev.move rfl) (wh 10 rfl hS (fun _ _ => Ev.extract rfl rfl) (wh 11 rfl hS (fun _ _ => Ev.extract rfl rfl) (wh 12 rfl hS (fun _ _ => Ev.extract rfl rfl) (wh 13 rfl hS (fun _ _ => Ev.assign rfl) (wh 14 rfl hS (fun _ _ => Ev.assign rfl) (wh 15 rfl hS (fun _ _ => Ev.assign rfl) ?_))))));refine WH.done (by kernel_rfl) (kr4 _ _ _ ?_);refine kh3 (Sr fun _ kh5 => zf rfl (zf rfl (zl hb1 rfl rfl (zm rfl (zm rfl (zm rfl (zf rfl (zf rfl (zl hb1 rfl rfl ?_)))))))));refine WL.ev (Ev.addIn rfl rfl (by omega)) rfl ?_;refine zf rfl (zf rfl (zl hb1 rfl rfl ?_));refine WL.ev (Ev.subIn rfl rfl (by omega)) rfl ?_;refine WL.call hasF321 rfl rfl (about_spec nn _ size (decide (a ≠ 0)) (((bl m : Int) - (bl q : Int)) - 81 + en - ed) _ hNs (hg0.keep0 hch) hDg.w (by omega)) fun v w4 h' => ?_;obtain ⟨⟨rr, rfl, hNr⟩, hC33⟩ := h';have hch := hch.ta hC33
 have hb2 := hb2.k0 hC33;refine zss rfl rfl ao hb2 rfl fun ws1 hb2_ hcs1 => ?_;(try simp only [Sx.splice, qt] at hb2_);have hch := hch.s1 hcs1;have hNr := hNr.keepBK hb2 hcs1 an;have hb2 := hb2_;refine zz (kh5 ?_);refine zr (bodyA.retR1 rfl (RVal.cell rfl (hb2.varA rfl rfl)) ?_);exact ⟨⟨size, a, ⟨rr, rfl, hNr⟩, hDg⟩, hch⟩

end

/- Package root: forms. No condition. -/
section
open Go Sx Wd
set_option exponentiation.threshold 5000

/-- Cells from an address on. -/
def RC (w : World) (ad : Addr) (l : List Value) : Prop := ∀ j v, l[j]? = some v → w.cell? (ad.add j) = some v
theorem RC.keep0 {w w' : World} {ad : Addr} {l : List Value} (h : RC w ad l) (hc : Chg [] w w') : RC w' ad l := fun j v hv => hc.cell (h j v hv) (by simp)
theorem RC.lt {w : World} {g : Nat} {l : List Value} (h : RC w ⟨g, 0, none⟩ l) (hl : 0 < l.length) : g < w.heap.size := by
  have h0 := h 0 _ (List.getElem?_eq_getElem hl)
  rw [add_addr] at h0
  apply Nat.lt_of_not_le
  intro hle
  have : w.heap[g]? = none := Array.getElem?_eq_none hle
  simp [World.cell?, this] at h0
theorem RC.keepBK {w w' : World} {g b : Nat} {T : TypeId} {l cs : List Value} (h : RC w ⟨g, 0, none⟩ l) (hb : BK w b T cs) (hc : Chg [b] w w') (_ : ∀ c ∈ cs, isU32 c = false) (hne : g ≠ b := by omega) : RC w' ⟨g, 0, none⟩ l := fun j v hv => hc.cell (h j v hv) (by rw [add_addr]; simpa using hne)
theorem RC.of_BK {w : World} {b : Nat} {T : TypeId} {l : List Value} (h : BK w b T l) : RC w ⟨b, 0, none⟩ l := fun j v hv => by rw [add_addr, Nat.zero_add]; exact h.at_ hv
def ratC (dx dy : Dy) (rx ry : Value) : List Value := [.bool dx.neg, rx, .int .i64 dx.e, .bool dy.neg, ry, .int .i64 dy.e]
/-- What forms answers for one ratio. -/
def FmR (w : World) (u : Value) (x y : Option Dy) (sg : Int) : Prop :=
  (sg < 0 ∧ u = .tuple [.slice none 0 0, .int .i64 1].toArray) ∨
  (0 ≤ sg ∧ (x = none ∨ y = none) ∧ u = .tuple [.slice none 0 0, .int .i64 2].toArray) ∨
  (0 ≤ sg ∧ ∃ dx dy, x = some dx ∧ y = some dy ∧ dy.m = 0 ∧ u = .tuple [.slice none 0 0, .int .i64 21].toArray) ∨
  (0 ≤ sg ∧ ∃ dx dy, x = some dx ∧ y = some dy ∧ dy.m ≠ 0 ∧ ∃ g c rx ry, u = .tuple [.slice (some ⟨g, 0, none⟩) 1 c, .int .i64 0].toArray ∧ RC w ⟨g, 0, none⟩ (ratC dx dy rx ry) ∧ NU w rx (wd dx.m) ∧ NU w ry (wd dy.m))
structure KF1 (sg : Int) (w0 : World) (i : Nat) (w : World) : Prop where
  hi : i ≤ 1
  s : i = 1 → 0 ≤ sg
  ch : Chg [] w0 w
structure KF2 (x y : Option Dy) (w0 : World) (g : Nat × Value) (w : World) : Prop where
  hi : g.1 ≤ 1
  z : g.1 = 0 → g.2 = .slice none 0 0
  o : g.1 = 1 → ∃ dx dy ad c rx ry, x = some dx ∧ y = some dy ∧ g.2 = .slice (some ⟨ad, 0, none⟩) 1 c ∧ RC w ⟨ad, 0, none⟩ (ratC dx dy rx ry) ∧ NU w rx (wd dx.m) ∧ NU w ry (wd dy.m)
  ch : Chg [] w0 w
structure KF3 (dx dy : Dy) (rx ry : Value) (ad : Nat) (w0 : World) (i : Nat) (w : World) : Prop where
  hi : i ≤ 1
  z : i = 1 → dy.m ≠ 0
  rc : RC w ⟨ad, 0, none⟩ (ratC dx dy rx ry)
  hx : NU w rx (wd dx.m)
  hy : NU w ry (wd dy.m)
  ch : Chg [] w0 w
theorem sgD_zero {neg : Bool} {n : Nat} : sgD neg n = 0 ↔ n = 0 := by
  unfold sgD
  by_cases h : n = 0
  · rw [if_pos h]; simp [h]
  · rw [if_neg h]; cases neg <;> simp [h]

theorem forms_spec (b : Nat) (nn nd : Bool) (vn vd : Value) (ln ld : List Nat) (en ed : Int) (w : World) (hB : BK w b 208 [.bool nn, vn, .int .i64 en, .bool nd, vd, .int .i64 ed]) (hn : NU w vn ln) (hd : NU w vd ld) (hg : GW w) (hen : -9223372036854775808 ≤ en ∧ en ≤ 9223372036854775807) (hed : -9223372036854775808 ≤ ed ∧ ed ≤ 9223372036854775807) : Ret Tryz.prog 282 [.slice (some ⟨b, 0, none⟩) 1 1] w fun u w' => FmR w' u (formD nn (val ln) en) (formD nd (val ld) ed) (sgD nd (val ld)) ∧ Chg [] w w' := by
 have hch : Chg [] w w := Chg.refl _ _;have hB0 := hB;have hn0 := hn;have hd0 := hd;have hon := hn.one;have hod := hd.one;have hg0 := hg;refine zE1 Tryz.func282 rfl ?_;refine Sr fun _ kh1 => za rfl (za rfl (zz (kh1 (zc fun _ kh3 => Sr fun _ kh4 => zm rfl (zn rfl (zm rfl (zz (kh4 ?_))))))));refine CW.block ?_;refine CW.loop (S := fun i : Nat => [(0, .slice (some ⟨b, 0, none⟩) 1 1), (15, .slice (some ⟨b, 0, none⟩) 1 1), (16, .int .i64 1), (17, .int .i64 (i : Int))]) (Inv := KF1 (sgD nd (val ld)) w) (mu := fun i => 1 - i) (0) ?_ ?_ ?_
 ·exact ⟨by decide, fun h => (by cases h), hch⟩
 ·exact SLp
 ·rintro i wr ⟨hi1, hs1, hch⟩;have hB := hB0.keep0 hch;have hn := hn0.keep0 hch;have hd := hd0.keep0 hch;refine Sr fun _ kh6 => ?_;refine WL.ev (Ev.lss rfl rfl) rfl ?_;refine zz (kh6 (zc fun _ kh8 => ?_));refine zy rfl ?_ ?_<;>intro hc1<;>try simp only [qs] at hc1
  ·have hi0 : i = 0 := by omega
   subst hi0;refine zkk ?_;refine kh8 (zc fun _ kh9 => ?_);refine CW.block ?_;refine Sr fun _ kh10 => ?_;refine WL.ev (Ev.indexAddr rfl rfl (by omega) (by omega)) rfl ?_;rw [show 0 + ((0 : Nat) : Int).toNat * 6 = 0 from rfl];refine zg hB rfl ?_;refine WL.allocB (l := [.bool false, .slice none 0 0, .int .i64 0, .bool false, .slice none 0 0, .int .i64 0]) rfl rfl fun b5 wm5 hb5 hcm5 hge5 => ?_;have hgehch5 := Nat.le_trans hch.size hge5;have hch := hch.ta hcm5;have hd := hd.keep0 hcm5;have hneb5 : b ≠ b5 := by have := hB.lt; omega
   refine zss rfl rfl ao hb5 rfl fun ws2 hb5_ hcs2 => ?_;(try simp only [Sx.splice, qt] at hb5_);have hch := hch.s1 hcs2;have hd := hd.keepBK hb5 hcs2 an;have hb5 := hb5_;refine zz (kh10 (Sr fun _ kh12 => zf rfl ?_));refine WL.ev (Ev.loadB rfl rfl hb5 rfl rfl) rfl ?_;simp only [List.drop_succ_cons, List.drop_zero, List.take_succ_cons, List.take_zero];refine WL.call hasF93 rfl rfl (Sign_dspec nd vd ld ed _ hd) fun v w1 h' => ?_;obtain ⟨rfl, hC23⟩ := h';have hch := hch.ta hC23;refine WL.ev (Ev.lss rfl rfl) rfl ?_;refine zz (kh12 ?_);refine zy rfl ?_ ?_<;>intro hc2<;>try simp only [qs] at hc2
   ·have hs2 : sgD nd (val ld) < 0 := hc2
    refine Sr fun _ kh14 => za rfl (za rfl (zz (kh14 ?_)));refine zr (zr2 rfl rfl rfl ?_);exact ⟨.inl ⟨hs2, rfl⟩, hch⟩
   ·have hs2 : 0 ≤ sgD nd (val ld) := by have := hc2; omega
    refine zkk ?_;refine kh9 ?_;refine zR fun _ kr16 => ?_;(first | refine zi rfl rfl ?_ | refine zo rfl rfl ?_);refine zm rfl ?_;refine WL.nil (kr16 _ _ _ ?_);refine ⟨rfl, 1, ?_, ?_, ?_⟩
    ·exact SLp
    ·exact ⟨by decide, fun _ => hs2, hch⟩
    ·decide
  ·have hi0 : i = 1 := by omega
   subst hi0;have hs1 := hs1 rfl;refine CW.exit ?_;refine kh3 (Sr fun _ kh17 => za rfl (zz (kh17 (zc fun _ kh19 => Sr fun _ kh20 => zm rfl (zn rfl (zm rfl (zz (kh20 ?_))))))));refine CW.block ?_;refine CW.loop (S := fun g : Nat × Value => [(0, .slice (some ⟨b, 0, none⟩) 1 1), (6, g.2), (26, .slice (some ⟨b, 0, none⟩) 1 1), (27, .int .i64 1), (28, .int .i64 (g.1 : Int))]) (Inv := KF2 (formD nn (val ln) en) (formD nd (val ld) ed) w) (mu := fun g => 1 - g.1) ((0, .slice none 0 0)) ?_ ?_ ?_
   ·exact ⟨by decide, fun _ => rfl, fun h => (by cases h), hch⟩
   ·exact SLp
   ·rintro ⟨i, vo⟩ wr ⟨hi1, hz, ho, hch⟩;dsimp only at hi1 hz ho hch;dsimp only;have hB := hB0.keep0 hch;have hn := hn0.keep0 hch;have hd := hd0.keep0 hch;refine Sr fun _ kh22 => ?_;refine WL.ev (Ev.lss rfl rfl) rfl ?_;refine zz (kh22 (zc fun _ kh24 => ?_));refine zy rfl ?_ ?_<;>intro hc3<;>try simp only [qs] at hc3
    ·have hi0 : i = 0 := by omega
     subst hi0;obtain rfl := hz rfl;refine zkk ?_;refine kh24 (zc fun _ kh25 => ?_);refine CW.block ?_;refine Sr fun _ kh26 => ?_;refine WL.ev (Ev.indexAddr rfl rfl (by omega) (by omega)) rfl ?_;rw [show 0 + ((0 : Nat) : Int).toNat * 6 = 0 from rfl];refine zg hB rfl ?_;refine WL.allocB (l := [.bool false, .slice none 0 0, .int .i64 0, .bool false, .slice none 0 0, .int .i64 0]) rfl rfl fun b8 wm8 hb8 hcm8 hge8 => ?_;have hgehch8 := Nat.le_trans hch.size hge8;have hch := hch.ta hcm8;have hn := hn.keep0 hcm8;have hd := hd.keep0 hcm8;have hneb8 : b ≠ b8 := by have := hB.lt; omega
     have hB := hB.keep0 hcm8;refine zss rfl rfl ao hb8 rfl fun ws3 hb8_ hcs3 => ?_;(try simp only [Sx.splice, qt] at hb8_);have hch := hch.s1 hcs3;have hB := hB.kq hcs3;have hn := hn.keepBK hb8 hcs3 an;have hd := hd.keepBK hb8 hcs3 an;have hb8 := hb8_;refine zz (kh26 (Sr fun _ kh28 => zf rfl (zf rfl (zl hb8 rfl rfl (zf rfl (zf rfl (zl hb8 rfl rfl (zf rfl (zf rfl (zl hb8 rfl rfl ?_))))))))));refine WL.call hasF128 rfl rfl (Make_spec nn vn ln en _ hn (hg0.keep0 hch) hen) fun v w2 h' => ?_;obtain ⟨hD42, hC42⟩ := h';have hch := hch.ta hC42;have hB := hB.keep0 hC42;have hb8 := hb8.k0 hC42;have hd := hd.keep0 hC42;rcases hD42 with ⟨rx, dx, he42, rfl, hNx⟩ | ⟨he42, rfl⟩
     ·refine zm rfl (zx rfl rfl (zx rfl rfl ?_));refine zAh rfl rfl hch fun b9 wm9 hb9 hcm9 hge9 hgehch9 hch => ?_;have hd := hd.keep0 hcm9;have hNx := hNx.keep0 hcm9;have hneb9 : b ≠ b9 := by have := hB.lt; omega
      have hB := hB.keep0 hcm9;have hneb89 := zdd hb8.lt hge9;have hb8 := hb8.k0 hcm9;refine zss rfl rfl ao hb9 rfl fun ws4 hb9_ hcs4 => ?_;(try simp only [Sx.splice, qt] at hb9_);have hch := hch.s1 hcs4;have hB := hB.kq hcs4;have hb8 := hb8.kq hcs4;have hd := hd.keepBK hb9 hcs4 an;have hNx := hNx.keepBK hb9 hcs4 an;have hb9 := hb9_;refine za rfl (zz (kh28 (Sr fun _ kh30 => zf rfl (zf rfl (zl hb8 rfl rfl (zf rfl (zf rfl (zl hb8 rfl rfl (zf rfl (zf rfl (zl hb8 rfl rfl ?_)))))))))));refine WL.call hasF128 rfl rfl (Make_spec nd vd ld ed _ hd (hg0.keep0 hch) hed) fun v w3 h' => ?_;obtain ⟨hD55, hC55⟩ := h';have hch := hch.ta hC55;have hB := hB.keep0 hC55;have hb9 := hb9.k0 hC55;have hNx := hNx.keep0 hC55;rcases hD55 with ⟨ry, dy, he55, rfl, hNy⟩ | ⟨he55, rfl⟩
      ·refine zm rfl (zx rfl rfl (zx rfl rfl ?_));refine zAh rfl rfl hch fun b11 wm11 hb11 hcm11 hge11 hgehch11 hch => ?_;have hNx := hNx.keep0 hcm11;have hNy := hNy.keep0 hcm11;have hneb11 : b ≠ b11 := by have := hB.lt; omega
       have hneb911 := zdd hb9.lt hge11;have hb9 := hb9.k0 hcm11;refine zss rfl rfl ao hb11 rfl fun ws5 hb11_ hcs5 => ?_;(try simp only [Sx.splice, qt] at hb11_);have hch := hch.s1 hcs5;have hb9 := hb9.kq hcs5;have hNx := hNx.keepBK hb11 hcs5 an;have hNy := hNy.keepBK hb11 hcs5 an;have hb11 := hb11_;refine za rfl (zz (kh30 (zc fun _ kh32 => Sr fun _ kh33 => zm rfl ?_)));refine WL.ev (Ev.neq rfl rfl) rfl ?_;refine zm rfl (zw rfl (zm rfl (zw rfl ?_)));refine WL.ev (Ev.neq rfl rfl) rfl ?_;refine ze rfl rfl (zz (kh33 ?_));refine CW.condF rfl ?_;refine zkk ?_;refine kh32 ?_;refine zR fun _ kr35 => ?_;refine zm rfl (zg hb9 rfl (zg hb11 rfl ?_));refine WL.ev (Ev.build (vs := _) (cs := [_, _, _, _, _, _]) rfl rfl) rfl ?_;refine WL.buildSlice (m := 1) (cs := [.bool dx.neg, rx, .int .i64 dx.e, .bool dy.neg, ry, .int .i64 dy.e]) (by decide) (by decide) rfl (by kernel_rfl) rfl fun b68 w68 hn68 => ?_;have hcm68 := hn68.chg;have hb68 : BK w68 b68 _ [.bool dx.neg, rx, .int .i64 dx.e, .bool dy.neg, ry, .int .i64 dy.e] := hn68.at_;have hch := hch.trans hcm68;have hNx := hNx.keep0 hcm68;have hNy := hNy.keep0 hcm68;have hrc68 := RC.of_BK hb68;refine WL.append (news := [.bool dx.neg, rx, .int .i64 dx.e, .bool dy.neg, ry, .int .i64 dy.e]) (xs := []) (m := 0) (by rfl) (by decide) rfl rfl ⟨rfl, .inl ⟨rfl, rfl⟩⟩ rfl hrc68 (by intro v hv; simp only [List.mem_cons, List.not_mem_nil, or_false] at hv; rcases hv with rfl | rfl | rfl | rfl | rfl | rfl <;> first | rfl | exact NU.one (by assumption)) (by decide) (by decide) rfl fun v69 w69 ho69 hc69 hl69 => ?_;have hc69 : Chg [] w68 w69 := by simpa [Value.ownBlock] using hc69
       have hch := hch.trans hc69;have hNx := hNx.keep0 hc69;have hNy := hNy.keep0 hc69;rcases own_cases ho69 with ⟨_, h0, _⟩ | ⟨g69, cap69, rfl, _, _, hcells⟩
       · cases h0
       have hrc : RC w69 ⟨g69, 0, none⟩ (ratC dx dy rx ry) := fun j v hv => by rw [add_addr, Nat.zero_add]; exact hcells j v hv
       refine za rfl ?_;refine WL.nil (kr35 _ _ _ (kh25 ?_));refine zR fun _ kr36 => ?_;(first | refine zi rfl rfl ?_ | refine zo rfl rfl ?_);refine zm rfl ?_;refine WL.nil (kr36 _ _ _ ?_);refine ⟨rfl, (1, .slice (some ⟨g69, 0, none⟩) 1 cap69), ?_, ?_, ?_⟩
       ·exact SLp
       ·exact ⟨Nat.le_refl 1, fun h => (by cases h), fun _ => ⟨dx, dy, g69, cap69, rx, ry, he42, he55, rfl, hrc, hNx, hNy⟩, hch⟩
       ·show 1 - 1 < 1 - 0; decide
      ·refine zm rfl (zx rfl rfl (zx rfl rfl ?_));refine zAh rfl rfl hch fun b11 wm11 hb11 hcm11 hge11 hgehch11 hch => ?_;have hneb11 : b ≠ b11 := by have := hB.lt; omega
       refine zss rfl rfl ao hb11 rfl fun ws6 hb11_ hcs6 => ?_;have hch := hch.s1 hcs6;refine za rfl (zz (kh30 (zc fun _ kh37 => Sr fun _ kh38 => zm rfl ?_)));refine WL.ev (Ev.neq rfl rfl) rfl ?_;refine zm rfl (zw rfl (zm rfl (zw rfl ?_)));refine WL.ev (Ev.neq rfl rfl) rfl ?_;refine ze rfl rfl (zz (kh38 ?_));refine CW.condT rfl ?_;refine Sr fun _ kh40 => za rfl (za rfl (zz (kh40 ?_)));refine zr (zr2 rfl rfl rfl ?_);exact ⟨.inr (.inl ⟨hs1, by first | exact .inl he42 | exact .inr he55, rfl⟩), hch⟩
     ·refine zm rfl (zx rfl rfl (zx rfl rfl ?_));refine zAh rfl rfl hch fun b9 wm9 hb9 hcm9 hge9 hgehch9 hch => ?_;have hd := hd.keep0 hcm9;have hneb9 : b ≠ b9 := by have := hB.lt; omega
      have hB := hB.keep0 hcm9;have hneb89 := zdd hb8.lt hge9;have hb8 := hb8.k0 hcm9;refine zss rfl rfl ao hb9 rfl fun ws7 hb9_ hcs7 => ?_;have hch := hch.s1 hcs7;have hB := hB.kq hcs7;have hb8 := hb8.kq hcs7;have hd := hd.keepBK hb9 hcs7 an;refine za rfl (zz (kh28 (Sr fun _ kh42 => zf rfl (zf rfl (zl hb8 rfl rfl (zf rfl (zf rfl (zl hb8 rfl rfl (zf rfl (zf rfl (zl hb8 rfl rfl ?_)))))))))));refine WL.call hasF128 rfl rfl (Make_spec nd vd ld ed _ hd (hg0.keep0 hch) hed) fun v w4 h' => ?_;obtain ⟨hD55, hC55⟩ := h';have hch := hch.ta hC55;have hB := hB.keep0 hC55;rcases hD55 with ⟨ry, dy, he55, rfl, hNy⟩ | ⟨he55, rfl⟩
      ·refine zm rfl (zx rfl rfl (zx rfl rfl ?_));refine zAh rfl rfl hch fun b11 wm11 hb11 hcm11 hge11 hgehch11 hch => ?_;have hneb11 : b ≠ b11 := by have := hB.lt; omega
       refine zss rfl rfl ao hb11 rfl fun ws8 hb11_ hcs8 => ?_;have hch := hch.s1 hcs8;refine za rfl (zz (kh42 (zc fun _ kh44 => Sr fun _ kh45 => zm rfl ?_)));refine WL.ev (Ev.neq rfl rfl) rfl ?_;refine zm rfl (zv rfl (zv rfl (zt rfl rfl (zz (kh45 ?_)))));refine CW.condT rfl ?_;refine Sr fun _ kh47 => za rfl (za rfl (zz (kh47 ?_)));refine zr (zr2 rfl rfl rfl ?_);exact ⟨.inr (.inl ⟨hs1, by first | exact .inl he42 | exact .inr he55, rfl⟩), hch⟩
      ·refine zm rfl (zx rfl rfl (zx rfl rfl ?_));refine zAh rfl rfl hch fun b11 wm11 hb11 hcm11 hge11 hgehch11 hch => ?_;have hneb11 : b ≠ b11 := by have := hB.lt; omega
       refine zss rfl rfl ao hb11 rfl fun ws9 hb11_ hcs9 => ?_;have hch := hch.s1 hcs9;refine za rfl (zz (kh42 (zc fun _ kh49 => Sr fun _ kh50 => zm rfl ?_)));refine WL.ev (Ev.neq rfl rfl) rfl ?_;refine zm rfl (zv rfl (zv rfl (zt rfl rfl (zz (kh50 ?_)))));refine CW.condT rfl ?_;refine Sr fun _ kh52 => za rfl (za rfl (zz (kh52 ?_)));refine zr (zr2 rfl rfl rfl ?_);exact ⟨.inr (.inl ⟨hs1, by first | exact .inl he42 | exact .inr he55, rfl⟩), hch⟩
    ·have hi0 : i = 1 := by omega
     subst hi0;obtain ⟨dx, dy, ad, c, rx, ry, hex, hey, rfl, hrc, hNx, hNy⟩ := ho rfl;refine CW.exit ?_;refine kh19 (zc fun _ kh54 => Sr fun _ kh55 => zm rfl (zn rfl (zm rfl (zz (kh55 ?_)))));refine CW.block ?_;refine CW.loop (S := fun i : Nat => [(6, .slice (some ⟨ad, 0, none⟩) 1 c), (71, .slice (some ⟨ad, 0, none⟩) 1 c), (72, .int .i64 1), (73, .int .i64 (i : Int))]) (Inv := KF3 dx dy rx ry ad w) (mu := fun i => 1 - i) (0) ?_ ?_ ?_
     ·exact ⟨by decide, fun h => (by cases h), hrc, hNx, hNy, hch⟩
     ·exact SLp
     ·rintro i wr ⟨hi1, hz3, hrc, hNx, hNy, hch⟩;have hrl := hrc.lt (by simp [ratC]);refine Sr fun _ kh57 => ?_;refine WL.ev (Ev.lss rfl rfl) rfl ?_;refine zz (kh57 (zc fun _ kh59 => ?_));refine zy rfl ?_ ?_<;>intro hc4<;>try simp only [qs] at hc4
      ·have hi0 : i = 0 := by omega
       subst hi0;refine zkk ?_;refine kh59 (zc fun _ kh60 => ?_);refine CW.block ?_;refine Sr fun _ kh61 => ?_;refine WL.ev (Ev.indexAddr rfl rfl (by omega) (by omega)) rfl ?_;rw [show 0 + ((0 : Nat) : Int).toNat * 6 = 0 from rfl];refine WL.ev (Ev.loadAgg (cs := ratC dx dy rx ry) rfl rfl rfl hrc) rfl ?_;unfold ratC;refine WL.allocB (l := [.bool false, .slice none 0 0, .int .i64 0, .bool false, .slice none 0 0, .int .i64 0]) rfl rfl fun b14 wm14 hb14 hcm14 hge14 => ?_;have hgehch14 := Nat.le_trans hch.size hge14;have hch := hch.ta hcm14;have hrc := hrc.keep0 hcm14;have hNx := hNx.keep0 hcm14;have hNy := hNy.keep0 hcm14;refine zss rfl rfl ao hb14 rfl fun ws10 hb14_ hcs10 => ?_;(try simp only [Sx.splice, qt] at hb14_);have hch := hch.s1 hcs10;have hrc := hrc.keepBK hb14 hcs10 an;have hNx := hNx.keepBK hb14 hcs10 an;have hNy := hNy.keepBK hb14 hcs10 an;have hb14 := hb14_;refine zz (kh61 (Sr fun _ kh63 => zf rfl ?_));refine WL.ev (Ev.loadB rfl rfl hb14 rfl rfl) rfl ?_;simp only [List.drop_succ_cons, List.drop_zero, List.take_succ_cons, List.take_zero];refine WL.call hasF93 rfl rfl (Sign_dspec dy.neg ry (wd dy.m) dy.e _ hNy) fun v w5 h' => ?_;obtain ⟨rfl, hC79⟩ := h';rw [val_wd];have hch := hch.ta hC79;have hrc := hrc.keep0 hC79;have hNx := hNx.keep0 hC79;have hNy := hNy.keep0 hC79;refine zq rfl rfl (zz (kh63 ?_));refine zy rfl ?_ ?_<;>intro hc5<;>try simp only [qs] at hc5
       ·have hy0 : dy.m = 0 := sgD_zero.1 hc5
        refine Sr fun _ kh65 => za rfl (za rfl (zz (kh65 ?_)));refine zr (zr2 rfl rfl rfl ?_);exact ⟨.inr (.inr (.inl ⟨hs1, dx, dy, hex, hey, hy0, rfl⟩)), hch⟩
       ·have hy0 : dy.m ≠ 0 := fun e => hc5 (sgD_zero.2 e);refine zkk ?_
        refine kh60 ?_;refine zR fun _ kr67 => ?_;(first | refine zi rfl rfl ?_ | refine zo rfl rfl ?_);refine zm rfl ?_;refine WL.nil (kr67 _ _ _ ?_);refine ⟨rfl, 1, ?_, ?_, ?_⟩
        ·exact SLp
        ·exact ⟨by decide, fun _ => hy0, hrc, hNx, hNy, hch⟩
        ·decide
      ·have hi0 : i = 1 := by omega
       subst hi0;have hy0 := hz3 rfl;refine CW.exit ?_;refine kh54 (Sr fun _ kh68 => zm rfl (za rfl (za rfl (zz (kh68 ?_)))));refine zr (zr2 rfl rfl rfl ?_);exact ⟨.inr (.inr (.inr ⟨hs1, dx, dy, hex, hey, hy0, ad, c, rx, ry, rfl, hrc, hNx, hNy⟩)), hch⟩

end

/- Package root: rounded, Quot. No condition. -/
section
open Go Sx Wd
set_option exponentiation.threshold 5000

/-- A form's value is what it was made of. -/
theorem formD_val {neg : Bool} {n : Nat} {e : Int} {d : Dy} (h : formD neg n e = some d) (h0 : n ≠ 0) : ∃ t : Nat, n = d.m * 2 ^ t ∧ d.e = e + t ∧ d.neg = neg := by
  unfold formD at h
  rw [if_neg h0] at h
  split at h
  · cases h
  · cases h; exact ⟨tz n, (tz_spec h0).2, rfl, rfl⟩
theorem dy_congr {m : Nat} {e e' : Int} {t : Nat} (he : e' = e + t) : dyA m e' * dyB e = dyA (m * 2 ^ t) e * dyB e' := by
  unfold dyA dyB
  rw [Nat.mul_assoc, Nat.mul_assoc, Nat.mul_assoc, ← Nat.pow_add, ← Nat.pow_add, ← Nat.pow_add]
  congr 2
  omega
/-- A ratio of dyads, rounded (or what is wrong). -/
def QuotP (nn nd : Bool) (ln ld : Nat) (en ed mode : Int) (bits : Nat) (e : Int) : Prop :=
  (¬ (0 ≤ mode ∧ mode ≤ 4) ∧ bits = 0 ∧ e = 1) ∨ ((0 ≤ mode ∧ mode ≤ 4) ∧
    ((sgD nd ld < 0 ∧ bits = 0 ∧ e = 1) ∨ (0 ≤ sgD nd ld ∧ (formD nn ln en = none ∨ formD nd ld ed = none) ∧ bits = 0 ∧ e = 2) ∨
     (0 ≤ sgD nd ld ∧ ∃ x y, formD nn ln en = some x ∧ formD nd ld ed = some y ∧ ((y.m = 0 ∧ bits = 0 ∧ e = 21) ∨
       (y.m ≠ 0 ∧ ∃ r, IsNear (dyA x.m (x.e - y.e)) (y.m * dyB (x.e - y.e)) x.neg mode r ∧ r ≤ 9218868437227405312 ∧ bits = (if x.neg then r + 9223372036854775808 else r) ∧ e = 0)))))
theorem aboutD_ok {neg : Bool} {m : Nat} {cut : Bool} {e : Int} (h : m < 2 ^ 82) : (aboutD neg m cut e).ok := by
  obtain ⟨d, hd⟩ := about_form (neg := neg) (cut := cut) (e := e) h
  have : aboutD neg m cut e = d := by unfold aboutD; rw [hd]; rfl
  rw [this]; exact formD_ok hd
/-- What quotient and Round come to. -/
theorem quot_round {x y : Dy} (hx : x.ok) (hy : y.ok) (hy0 : y.m ≠ 0) {size a : Nat} {mode : Int} {bits : Nat} {e : Int} (hm : 0 ≤ mode ∧ mode ≤ 4)
    (hD : DigI (x.m * 2 ^ (max 0 (-((bl x.m : Int) - (bl y.m : Int)))).toNat) (y.m * 2 ^ (max 0 ((bl x.m : Int) - (bl y.m : Int))).toNat) 82 size a)
    (hR : RoundR (formD (aboutD x.neg size (decide (a ≠ 0)) ((bl x.m : Int) - (bl y.m : Int) - 81 + x.e - y.e)).neg (aboutD x.neg size (decide (a ≠ 0)) ((bl x.m : Int) - (bl y.m : Int) - 81 + x.e - y.e)).m (aboutD x.neg size (decide (a ≠ 0)) ((bl x.m : Int) - (bl y.m : Int) - 81 + x.e - y.e)).e) mode bits e) :
    ∃ r, IsNear (dyA x.m (x.e - y.e)) (y.m * dyB (x.e - y.e)) x.neg mode r ∧ r ≤ 9218868437227405312 ∧ bits = (if x.neg then r + 9223372036854775808 else r) ∧ e = 0 := by
  obtain ⟨d, hd⟩ := about_form (neg := x.neg) (cut := decide (a ≠ 0)) (e := (bl x.m : Int) - (bl y.m : Int) - 81 + x.e - y.e) hD.w
  have hdd : aboutD x.neg size (decide (a ≠ 0)) ((bl x.m : Int) - (bl y.m : Int) - 81 + x.e - y.e) = d := by unfold aboutD; rw [hd]; rfl
  rw [hdd, formD_self (formD_ok hd)] at hR
  rcases hR with ⟨h, _⟩ | ⟨_, ⟨h, _⟩ | ⟨d2, r, h, hN, hr, hb, he⟩⟩
  · exact absurd hm h
  · cases h
  cases h
  by_cases h0 : x.m = 0
  · -- nought
    have hz := hx.z h0
    have hs : size = 0 ∧ a = 0 := by
      obtain ⟨h3, _⟩ := hD.s (by decide)
      rw [h0, Nat.zero_mul, Nat.zero_mul] at h3
      have hB : 0 < y.m * 2 ^ (max 0 ((bl 0 : Int) - (bl y.m : Int))).toNat := Nat.mul_pos (by omega) (Nat.two_pow_pos _)
      have h4 : size * (y.m * 2 ^ (max 0 ((bl 0 : Int) - (bl y.m : Int))).toNat) = 0 := by omega
      rcases Nat.mul_eq_zero.1 h4 with q | q
      · exact ⟨q, by omega⟩
      · omega
    have hm0 : aboutM size (decide (a ≠ 0)) = 0 := by unfold aboutM; rw [hs.1, hs.2]; rfl
    rw [hm0, formD_zero] at hd
    cases hd
    have e1 : dyA Dy.zero.m Dy.zero.e = 0 := by unfold dyA Dy.zero; simp
    rw [e1] at hN
    have hr0 := hN.unique (dyB_pos _) (near_zero (dyB_pos _) _ _)
    subst hr0
    have hxn : x.neg = false := by rw [hz]; rfl
    refine ⟨0, ?_, by decide, ?_, he⟩
    · rw [h0, show dyA 0 (x.e - y.e) = 0 by unfold dyA; simp]
      exact near_zero (Nat.mul_pos (by omega) (dyB_pos _)) _ _
    · rw [hb, hxn]; rfl
  · have hM0 : aboutM size (decide (a ≠ 0)) ≠ 0 := by
      have hl := (digits_low h0 hy0 rfl).2
      have := dig_size hD (by decide) hl
      unfold aboutM
      omega
    obtain ⟨t, h1, h2, h3⟩ := formD_val hd hM0
    rw [h3] at hN hb
    have hN2 := hN.congr (B' := dyB (aboutE ((bl x.m : Int) - (bl y.m : Int) - 81 + x.e - y.e))) (dyB_pos _) (dyB_pos _) (dy_congr h2)
    rw [← h1] at hN2
    refine ⟨r, near_quot (a := a) h0 hy0 rfl hm hD (e := aboutE ((bl x.m : Int) - (bl y.m : Int) - 81 + x.e - y.e)) (by unfold aboutE; congr 2; omega) ?_, hr, hb, he⟩
    have e5 : aboutM size (decide (a ≠ 0)) = 2 * size + if a = 0 then 0 else 1 := by
      unfold aboutM
      by_cases q : a = 0
      · simp [q]
      · simp [q]
    rw [e5] at hN2
    exact hN2

theorem rounded_spec (nn nd : Bool) (vn vd : Value) (ln ld : List Nat) (en ed mode : Int) (w : World) (hn : NU w vn ln) (hd : NU w vd ld) (hg : GW w) (hen : -9223372036854775808 ≤ en ∧ en ≤ 9223372036854775807) (hed : -9223372036854775808 ≤ ed ∧ ed ≤ 9223372036854775807) : Ret Tryz.prog 200 [.agg [.bool nn, vn, .int .i64 en, .bool nd, vd, .int .i64 ed].toArray, .int .i64 mode, .bool false, .func (.func 95) #[] #[]] w fun u w' => (∃ bits e, u = .tuple [.float .f64 bits, .int .i64 e].toArray ∧ QuotP nn nd (val ln) (val ld) en ed mode bits e) ∧ Chg [] w w' := by
 have hch : Chg [] w w := Chg.refl _ _;have hon := hn.one;have hod := hd.one;have hg0 := hg;refine zE4 Tryz.func200 rfl ?_;refine Sr fun _ kh1 => ?_;refine zBh rfl rfl rfl hch fun b4 wm4 hb4 hcm4 hge4 hgehch4 hch => ?_;have hn := hn.keep0 hcm4;have hd := hd.keep0 hcm4;refine za rfl (za rfl (zz (kh1 (zc fun _ kh3 => ?_))));refine CW.seqM 17 (decide (¬ (0 ≤ mode ∧ mode ≤ 4))) ?_ ?_
 ·refine zR fun _ kr4 => ?_;refine zm rfl ?_;refine WL.ev (Ev.lss rfl rfl) rfl ?_;refine zm rfl ?_;refine zb ?_ ?_<;>intro hg1<;>try simp only [qs] at hg1
  ·refine zv rfl (zv rfl (zt rfl rfl ?_));refine WL.nil (kr4 _ _ _ ?_);refine ⟨rfl, rfl, Subs.consB rfl ?_ ?_⟩
   ·first | (simp; omega) | (refine decide_eq_decide.2 ?_; omega)
   ·exact SMg
  ·refine zw rfl (zm rfl (zw rfl ?_));refine WL.ev (Ev.gtr rfl rfl) rfl ?_
   refine ze rfl rfl ?_;refine WL.nil (kr4 _ _ _ ?_);refine ⟨rfl, rfl, Subs.consB rfl ?_ ?_⟩
   ·first | (simp; omega) | (refine decide_eq_decide.2 ?_; omega)
   ·exact SMg
 ·refine zy rfl ?_ ?_<;>intro hc2<;>try simp only [qs] at hc2
  ·have hmode : ¬ (0 ≤ mode ∧ mode ≤ 4) := hc2
   refine Sr fun _ kh5 => za rfl (za rfl (zz (kh5 ?_)));refine zr (zr2 rfl rfl rfl ?_);refine ⟨⟨_, _, rfl, .inl ⟨hmode, rfl, rfl⟩⟩, hch⟩
  ·have hmode : 0 ≤ mode ∧ mode ≤ 4 := by have := hc2; omega
   refine zkk ?_;refine kh3 (Sr fun _ kh7 => zg hb4 rfl ?_);refine WL.buildSlice (m := 1) (cs := [.bool nn, vn, .int .i64 en, .bool nd, vd, .int .i64 ed]) (by decide) (by decide) rfl (by kernel_rfl) rfl fun b20 w20 hn20 => ?_;have hcm20 := hn20.chg;have hb20 : BK w20 b20 208 [.bool nn, vn, .int .i64 en, .bool nd, vd, .int .i64 ed] := hn20.at_;have hch := hch.trans hcm20;have hn := hn.keep0 hcm20;have hd := hd.keep0 hcm20;refine WL.call hasF282 rfl rfl (forms_spec b20 nn nd vn vd ln ld en ed _ hb20 hn hd (hg0.keep0 hch) hen hed) fun v w1 h' => ?_;obtain ⟨hF, hC21⟩ := h';have hch := hch.ta hC21;rcases hF with ⟨hsg, rfl⟩ | ⟨hsg, hno, rfl⟩ | ⟨hsg, dx, dy, hex, hey, hy0, rfl⟩ | ⟨hsg, dx, dy, hex, hey, hy0, gg, cc, rx, ry, rfl, hrc, hNx, hNy⟩
   ·refine zm rfl (zx rfl rfl (zx rfl rfl (za rfl (za rfl (zz (kh7 (zc fun _ kh9 => ?_)))))));refine CW.block ?_;refine Sr fun _ kh10 => zm rfl ?_;refine WL.ev (Ev.neq rfl rfl) rfl ?_;refine za rfl (zz (kh10 ?_));refine CW.condT rfl ?_;refine Sr fun _ kh12 => zm rfl (za rfl (za rfl (zz (kh12 ?_))));refine zr (zr2 rfl rfl rfl ?_);refine ⟨⟨_, _, rfl, .inr ⟨hmode, .inl ⟨hsg, rfl, rfl⟩⟩⟩, hch⟩
   ·refine zm rfl (zx rfl rfl (zx rfl rfl (za rfl (za rfl (zz (kh7 (zc fun _ kh14 => ?_)))))));refine CW.block ?_;refine Sr fun _ kh15 => zm rfl ?_;refine WL.ev (Ev.neq rfl rfl) rfl ?_;refine za rfl (zz (kh15 ?_));refine CW.condT rfl ?_;refine Sr fun _ kh17 => zm rfl (za rfl (za rfl (zz (kh17 ?_))));refine zr (zr2 rfl rfl rfl ?_);refine ⟨⟨_, _, rfl, .inr ⟨hmode, .inr (.inl ⟨hsg, hno, rfl, rfl⟩)⟩⟩, hch⟩
   ·refine zm rfl (zx rfl rfl (zx rfl rfl (za rfl (za rfl (zz (kh7 (zc fun _ kh19 => ?_)))))));refine CW.block ?_;refine Sr fun _ kh20 => zm rfl ?_;refine WL.ev (Ev.neq rfl rfl) rfl ?_;refine za rfl (zz (kh20 ?_));refine CW.condT rfl ?_;refine Sr fun _ kh22 => zm rfl (za rfl (za rfl (zz (kh22 ?_))));refine zr (zr2 rfl rfl rfl ?_);refine ⟨⟨_, _, rfl, .inr ⟨hmode, .inr (.inr ⟨hsg, dx, dy, hex, hey, .inl ⟨hy0, rfl, rfl⟩⟩)⟩⟩, hch⟩
   ·have hokx := formD_ok hex;have hoky := formD_ok hey;refine zm rfl (zx rfl rfl (zx rfl rfl (za rfl (za rfl (zz (kh7 (zc fun _ kh24 => ?_)))))));refine CW.block ?_;refine Sr fun _ kh25 => zm rfl ?_;refine WL.ev (Ev.neq rfl rfl) rfl ?_;refine za rfl (zz (kh25 ?_));refine CW.condF rfl ?_;refine Sr fun _ kh27 => zm rfl (zm rfl (zv rfl (zv rfl (zv rfl (zv rfl (zv rfl (ze rfl rfl (za rfl (zz (kh27 ?_))))))))));refine CW.condF rfl ?_;refine Sr fun _ kh29 => zm rfl (za rfl (zz (kh29 ?_)));refine CW.condF rfl ?_;refine zkk ?_;refine kh24 (Sr fun _ kh31 => zm rfl (zm rfl ?_));refine WL.ev (Ev.indexAddr rfl rfl (by omega) (by omega)) rfl ?_;rw [show 0 + (0 : Int).toNat * 6 = 0 from rfl];refine WL.ev (Ev.loadAgg (cs := ratC dx dy rx ry) rfl rfl rfl hrc) rfl ?_;unfold ratC;refine WL.call hasF284 rfl rfl (quotient_spec dx.neg dy.neg rx ry dx.m dy.m dx.e dy.e _ hNx hNy hokx.len hoky.len hy0 hokx.e hoky.e (hg0.keep0 hch)) fun v w2 h' => ?_;obtain ⟨⟨size, a, ⟨rq, rfl, hNq⟩, hDg⟩, hC52⟩ := h';have hch := hch.ta hC52;refine zm rfl ?_;refine WL.callV (cap := []) hasF95 rfl rfl rfl (by rw [List.append_nil]; exact Round_dspec _ _ _ _ mode _ hNq (hg0.keep0 hch) (by have := (aboutD_ok (neg := dx.neg) (cut := decide (a ≠ 0)) (e := (bl dx.m : Int) - (bl dy.m : Int) - 81 + dx.e - dy.e) hDg.w).e; omega)) fun v54 w54 h54 => ?_;obtain ⟨⟨bits, ee, rfl, hRR⟩, hC54⟩ := h54;have hch := hch.trans hC54;rw [val_wd] at hRR;refine zx rfl rfl (zx rfl rfl (za rfl (za rfl (zz (kh31 ?_)))));refine zr (zr2 rfl rfl rfl ?_);obtain ⟨r, q1, q2, q3, q4⟩ := quot_round hokx hoky hy0 hmode hDg hRR;refine ⟨⟨_, _, rfl, .inr ⟨hmode, .inr (.inr ⟨hsg, dx, dy, hex, hey, .inr ⟨hy0, r, q1, q2, q3, q4⟩⟩)⟩⟩, hch⟩

theorem Quot_spec (nn nd : Bool) (vn vd : Value) (ln ld : List Nat) (en ed mode : Int) (w : World) (hn : NU w vn ln) (hd : NU w vd ld) (hg : GW w) (hen : -9223372036854775808 ≤ en ∧ en ≤ 9223372036854775807) (hed : -9223372036854775808 ≤ ed ∧ ed ≤ 9223372036854775807) : Ret Tryz.prog 110 [.agg [.bool nn, vn, .int .i64 en, .bool nd, vd, .int .i64 ed].toArray, .int .i64 mode] w fun u w' => (∃ bits e, u = .tuple [.float .f64 bits, .int .i64 e].toArray ∧ QuotP nn nd (val ln) (val ld) en ed mode bits e) ∧ Chg [] w w' := by
 have hch : Chg [] w w := Chg.refl _ _;have hon := hn.one;have hod := hd.one;have hg0 := hg;refine zE2 Tryz.func110 rfl ?_;refine Sr fun _ kh1 => ?_;refine zBh rfl rfl rfl hch fun b2 wm2 hb2 hcm2 hge2 hgehch2 hch => ?_;have hn := hn.keep0 hcm2;have hd := hd.keep0 hcm2;refine za rfl (za rfl (zz (kh1 (Sr fun _ kh3 => zg hb2 rfl (zm rfl ?_)))));refine WL.call hasF200 rfl rfl (rounded_spec nn nd vn vd ln ld en ed mode _ hn hd (hg0.keep0 hch) hen hed) fun v w1 h' => ?_;obtain ⟨⟨bits, e, rfl, hQ⟩, hC8⟩ := h';have hch := hch.ta hC8;refine zx rfl rfl (zx rfl rfl (za rfl (za rfl (zz (kh3 ?_)))));refine zr (zr2 rfl rfl rfl ?_);exact ⟨⟨_, _, rfl, hQ⟩, hch⟩

end

/- What numbers are, as whole numbers of 2^-2148, and their sums. No condition. -/
section
open Go Sx Wd
set_option exponentiation.threshold 9000

/-- A number's size in units of 2^-2148 (nought, if it is none or not finite). -/
def fvN (x : Nat) : Nat := if (splitP x).cls = 1 ∨ (splitP x).cls = 2 then (splitP x).frac * 2 ^ ((splitP x).exp + 2148).toNat else 0
def fvI (x : Nat) : Int := if (splitP x).neg = true then -(fvN x : Int) else (fvN x : Int)
theorem b64 (e : Nat) : 18446744073709551616 ^ (e / 64) * 2 ^ (e % 64) = 2 ^ e := by
  rw [show (18446744073709551616 : Nat) = 2 ^ 64 from rfl, ← Nat.pow_mul, ← Nat.pow_add]
  congr 1; omega
theorem thv_one (x : Nat) : thv (oneP x) = fvI x := by
  unfold thv oneP fvI fvN
  by_cases h : (splitP x).cls = 1 ∨ (splitP x).cls = 2
  · obtain ⟨h1, h2, h3, h4⟩ := splitP_fin h
    rw [if_pos h, if_pos h]
    dsimp only
    rw [if_pos h, laidW_val (by omega) (by omega)]
    have e : (0 * 18446744073709551616 + (splitP x).frac) * 2 ^ (((splitP x).exp + 2148).toNat % 64) * 18446744073709551616 ^ (((splitP x).exp + 2148).toNat / 64) = (splitP x).frac * 2 ^ ((splitP x).exp + 2148).toNat := by
      rw [← b64 ((splitP x).exp + 2148).toNat, Nat.zero_mul, Nat.zero_add]; ac_rfl
    rw [e]
  · simp [h]
theorem fvN_lt (x : Nat) : fvN x < 2 ^ 3172 := by
  unfold fvN
  split
  · rename_i h
    obtain ⟨h1, h2, h3, h4⟩ := splitP_fin h
    have h5 : 2 ^ ((splitP x).exp + 2148).toNat ≤ 2 ^ 3119 := Nat.pow_le_pow_right (by decide) (by omega)
    have h6 : (splitP x).frac * 2 ^ ((splitP x).exp + 2148).toNat < 9007199254740992 * 2 ^ 3119 := Nat.lt_of_lt_of_le (Nat.mul_lt_mul_of_pos_right h4 (Nat.two_pow_pos _)) (Nat.mul_le_mul_left _ h5)
    rw [show (9007199254740992 : Nat) = 2 ^ 53 from rfl, ← Nat.pow_add] at h6
    exact h6
  · exact Nat.two_pow_pos _
/-- A list's sum. -/
def sumI (l : List Nat) : Int := (l.map fvI).sum
theorem sum_snoc (l : List Int) (x : Int) : (l ++ [x]).sum = l.sum + x := by
  induction l with
  | nil => simp
  | cons a l ih => simp only [List.cons_append, List.sum_cons, ih]; omega
theorem sumI_step {l : List Nat} {i : Nat} (h : i < l.length) : sumI (l.take (i + 1)) = sumI (l.take i) + fvI (l.getD i 0) := by
  unfold sumI
  rw [take_step h, List.map_append, List.map_cons, List.map_nil, sum_snoc]
theorem fvI_abs (x : Nat) : (fvI x).natAbs = fvN x := by unfold fvI; split <;> simp
theorem sumI_le : ∀ (l : List Nat), (sumI l).natAbs ≤ l.length * 2 ^ 3172
  | [] => by simp [sumI]
  | x :: l => by
    have h1 := sumI_le l
    have h2 := fvN_lt x
    have h3 := fvI_abs x
    have e : sumI (x :: l) = fvI x + sumI l := by simp [sumI]
    rw [e, List.length_cons, Nat.add_mul, Nat.one_mul]
    generalize 2 ^ 3172 = B at *
    generalize l.length * B = C at *
    omega
theorem BB_pow : 16384 * BB = 2 ^ 4238 := by
  unfold BB
  rw [show (18446744073709551616 : Nat) = 2 ^ 64 from rfl, ← Nat.pow_mul, show (16384 : Nat) = 2 ^ 14 from rfl, ← Nat.pow_add]
theorem sumI_in {l : List Nat} (h : l.length ≤ 1099511627776) : -((16384 * BB : Nat) : Int) < sumI l ∧ sumI l < (16384 * BB : Nat) := by
  have h1 := sumI_le l
  have h2 : l.length * 2 ^ 3172 < 2 ^ 41 * 2 ^ 3172 := Nat.mul_lt_mul_of_pos_right (by omega) (Nat.two_pow_pos _)
  rw [← Nat.pow_add] at h2
  have h3 : 2 ^ (41 + 3172) ≤ 16384 * BB := by rw [BB_pow]; exact Nat.pow_le_pow_right (by decide) (by decide)
  generalize 16384 * BB = M at *
  generalize 2 ^ (41 + 3172) = M2 at *
  omega
theorem cnt1_le {s : SP} {n : Nat} (h : s.le n) (c : Nat) (neg : Bool) : (cnt1 s c neg).le (n + 1) := by
  obtain ⟨a, b, c2, d, e, f⟩ := h
  unfold cnt1
  repeat' split
  all_goals (refine ⟨?_, ?_, ?_, ?_, ?_, ?_⟩ <;> dsimp only <;> omega)
end

/- Package mean: clean, right, told, all. No condition. -/
section
open Go Sx Wd
set_option exponentiation.threshold 5000

theorem clean_spec (b6 b7 x : Nat) (e : Int) (w : World) (h6 : BK w b6 31 [.float .f64 x]) (h7 : BK w b7 47 [.int .i64 e]) (hne : b6 ≠ b7) : RetD Tryz.prog 103 [.pointer (some ⟨b6, 0, none⟩), .pointer (some ⟨b7, 0, none⟩)] w fun u w' => BK w' b6 31 [.float .f64 (if e = 0 then x else 0)] ∧ BK w' b7 47 [.int .i64 e] ∧ Chg [b6] w w' := by
  have hch : Chg [b6] w w := Chg.refl _ _
  refine RetD.enter Tryz.func103 rfl rfl ?_
  simp only [args0, Nat.zero_add, Nat.reduceAdd]
  refine Sq fun _ kh1 _ kr2 => ?_
  refine Mv rfl rfl ?_
  refine WL.ev (Ev.nilPtr rfl) rfl ?_
  refine WL.ev (Ev.load rfl rfl (h7.at_ rfl)) rfl ?_
  refine WL.ev (Ev.neq rfl rfl) rfl ?_
  refine WL.nil (kr2 _ _ _ (kh1 _ _ _ ?_))
  refine zy rfl (fun hc1 => ?_) fun hc1 => ?_
  ·
    (try simp only [qs] at hc1)
    have he0 : e ≠ 0 := hc1
    refine zR fun _ kr3 => ?_
    refine Mv rfl rfl ?_
    refine WL.ev (Ev.nilPtr rfl) rfl ?_
    refine WL.storeC rfl rfl o1 h6 (by simp) rfl fun ws1 h6_ hcs1 => ?_
    (try simp only [Sx.splice, qt] at h6_)
    have hch := hch.s1 hcs1
    have h7 := h7.kq hcs1
    have h6 := h6_
    refine WL.nil (kr3 _ _ _ ?_)
    refine bodyA.norm0 rfl ?_
    refine ⟨?_, h7, hch⟩
    rw [if_neg he0]; exact h6
  ·
    (try simp only [qs] at hc1)
    have he0 : e = 0 := by have := hc1; omega
    refine zkk ?_
    refine bodyA.norm0 rfl ?_
    refine ⟨?_, h7, hch⟩
    rw [if_pos he0]; exact h6

/-- The door of a function that defers clean. -/
theorem clean_door {fn : Func} {n : Nat} {s : Sl} {w : World} {R : Value → World → Prop} {t6 t7 b6 b7 x : Nat} {e : Int} (hr : fn.results = #[.cell t6 31, .cell t7 47]) (l6 : Sx.look s t6 = some (.pointer (some ⟨b6, 0, none⟩))) (l7 : Sx.look s t7 = some (.pointer (some ⟨b7, 0, none⟩)))
    (h6 : BK w b6 31 [.float .f64 x]) (h7 : BK w b7 47 [.int .i64 e]) (hne : b6 ≠ b7) (h : ∀ w', Chg [b6] w w' → R (.tuple [.float .f64 (if e = 0 then x else 0), .int .i64 e].toArray) w') :
    bodyD Tryz.prog fn n 103 R .ret [⟨.fn (.func 103) #[], [.pointer (some ⟨b6, 0, none⟩), .pointer (some ⟨b7, 0, none⟩)].toArray⟩] s w :=
  bodyD.retR2 hr rfl ((clean_spec b6 b7 x e w h6 h7 hne).mono fun _ w' ⟨q6, q7, hc⟩ => ⟨_, _, RVal.cell l6 (q6.var1 rfl rfl), RVal.cell l7 (q7.var1 rfl rfl), h w' hc⟩)

theorem right_spec (mode : Int) (w : World) : Ret Tryz.prog 104 [.int .i64 mode] w fun u w' => u = .bool (decide (0 ≤ mode ∧ mode ≤ 4)) ∧ w = w' := by
 refine zE1 Tryz.func104 rfl ?_;refine Sr fun _ kh1 => za rfl (zz (kh1 (Sr fun _ kh3 => zm rfl ?_)));refine WL.ev (Ev.geq rfl rfl) rfl ?_;refine zm rfl ?_;refine zb ?_ ?_<;>intro hg1<;>try simp only [qs] at hg1
 ·have h1 : 0 ≤ mode := hg1
  refine zw rfl (zm rfl (zw rfl ?_));refine WL.ev (Ev.leq rfl rfl) rfl ?_;refine zt rfl rfl (za rfl (zz (kh3 ?_)));refine zr (zr1 rfl rfl ?_);refine ⟨congrArg Value.bool (decide_eq_decide.2 (by omega)), rfl⟩
 ·have h1 : ¬ 0 ≤ mode := by have := hg1; omega
  refine zv rfl (zv rfl (ze rfl rfl (za rfl (zz (kh3 ?_)))));refine zr (zr1 rfl rfl ?_);refine ⟨?_, rfl⟩;rw [decide_eq_false (by omega)]

/-- What told answers. -/
def toldR (d : Dy) (n : Nat) (s : SP) (mode : Int) (bits : Nat) (e : Int) : Prop :=
  (d.m = 0 ∧ bits = noughtP s mode ∧ e = 0) ∨ (d.m ≠ 0 ∧ QuotP d.neg (intD n).neg d.m (intD n).m d.e (intD n).e mode bits e)
theorem intD_ok {n : Int} (h : n.natAbs < 18446744073709551616) : (intD n).ok := formD_ok (intD_eq h)
theorem ok_e {d : Dy} (h : d.ok) : -9223372036854775808 ≤ d.e ∧ d.e ≤ 9223372036854775807 := by have := h.e; omega

theorem told_spec (d : Dy) (r : Value) (n : Nat) (s : SP) (mode : Int) (w : World) (hr : NU w r (wd d.m)) (hok : d.ok) (hn : n ≤ 1099511627776) (hs : s.le 1000000000000000) (hg : GW w) : Ret Tryz.prog 106 [.agg [.bool d.neg, r, .int .i64 d.e].toArray, .int .i64 (n : Int), .agg [.int .i64 (s.na : Int), .int .i64 (s.up : Int), .int .i64 (s.dn : Int), .int .i64 (s.mi : Int), .int .i64 (s.pl : Int), .int .i64 (s.al : Int)].toArray, .int .i64 mode] w fun u w' => (∃ bits e, u = .tuple [.float .f64 bits, .int .i64 e].toArray ∧ toldR d n s mode bits e) ∧ Chg [] w w' := by
 have hch : Chg [] w w := Chg.refl _ _;have hor := hr.one;have hg0 := hg;refine zE4 Tryz.func106 rfl ?_;refine Sr fun _ kh1 => ?_;refine zBh rfl rfl rfl hch fun b4 wm4 hb4 hcm4 hge4 hgehch4 hch => ?_;have hr := hr.keep0 hcm4;refine zBh rfl rfl rfl hch fun b6 wm6 hb6 hcm6 hge6 hgehch6 hch => ?_;have hr := hr.keep0 hcm6;have hneb46 := zdd hb4.lt hge6;have hb4 := hb4.k0 hcm6;refine za rfl (za rfl (zz (kh1 (zc fun _ kh3 => Sr fun _ kh4 => zg hb4 rfl ?_))));refine WL.call hasF93 rfl rfl (Sign_dspec d.neg r (wd d.m) d.e _ hr) fun v w1 h' => ?_;obtain ⟨rfl, hC11⟩ := h';rw [val_wd];have hch := hch.ta hC11;have hb4 := hb4.k0 hC11;have hb6 := hb6.k0 hC11;have hr := hr.keep0 hC11;refine zq rfl rfl (zz (kh4 ?_));refine zy rfl ?_ ?_<;>intro hc1<;>try simp only [qs] at hc1
 ·have h0 : d.m = 0 := sgD_zero.1 hc1
  refine Sr fun _ kh6 => zg hb6 rfl (zm rfl ?_);refine WL.call hasF94 rfl rfl (Nought_spec s mode _ hs) fun v w2 h' => ?_;obtain ⟨rfl, hC15⟩ := h';have hch := hch.ta hC15;refine za rfl (za rfl (zz (kh6 ?_)));refine zr (zr2 rfl rfl rfl ?_);exact ⟨⟨_, _, rfl, .inl ⟨h0, rfl, rfl⟩⟩, hch⟩
 ·have h0 : d.m ≠ 0 := fun e => hc1 (sgD_zero.2 e);refine zkk ?_
  refine kh3 (zc fun _ kh8 => ?_);refine CW.regionHC 10 rfl hmix fun kR9 kr9 hS hdr => ?_;have hch := hch.ta hdr;have hb4 := hb4.k0 hdr;have hr := hr.keep0 hdr;have hb4_r := hb4;refine wh 0 rfl hS (fun _ hw' => Ev.loadA rfl rfl (hb4_r.keep0 hw') rfl) (wh 1 rfl hS (fun _ _ => Ev.move rfl) (wh 4 rfl hS (fun _ _ => Ev.move rfl) ?_));refine WH.oneCall 2 rfl (by kernel_rfl) hasF179 rfl rfl (Int_spec (n : Int) _ (hg0.keep0 hch) (by omega)) fun v w3 h' => ?_;obtain ⟨⟨rn, rfl, hN18⟩, hC18⟩ := h';have hch := hch.ta hC18;have hr := hr.keep0 hC18;have hS := hS.trans hC18;refine ⟨hS, ?_⟩;refine wh 3 rfl hS (fun _ _ => Ev.build (vs := _) (cs := [_, _, _, _, _, _]) rfl rfl) ?_;refine WH.oneCall 5 rfl (by kernel_rfl) hasF110 rfl rfl (Quot_spec d.neg (intD n).neg r rn (wd d.m) (wd (intD n).m) d.e (intD n).e mode _ hr hN18 (hg0.keep0 hch) (ok_e hok) (ok_e (intD_ok (by omega)))) fun v w4 h' => ?_;obtain ⟨⟨bits, e, rfl, hQ⟩, hC21⟩ := h';rw [val_wd, val_wd] at hQ;have hch := hch.ta hC21;have hS := hS.trans hC21;refine ⟨hS, ?_⟩;refine wh 6 rfl hS (fun _ _ => Ev.extract rfl rfl) (wh 7 rfl hS (fun _ _ => Ev.extract rfl rfl) (wh 8 rfl hS (fun _ _ => Ev.assign rfl) (wh 9 rfl hS (fun _ _ => Ev.assign rfl) ?_)));refine WH.done (by kernel_rfl) (kr9 _ _ _ ?_);refine kh8 ?_;refine zr (zr2 rfl rfl rfl ?_);exact ⟨⟨_, _, rfl, .inr ⟨h0, hQ⟩⟩, hch⟩

structure KAll (l : List Nat) (b : Nat) (w0 : World) (g : Nat × List Nat × SP) (w : World) : Prop where
  hi : g.1 ≤ l.length
  hB : TB w b 251 g.2.1 g.2.2.cells
  hr : Rep g.2.1 (sumI (l.take g.1))
  hs : g.2.2.le g.1
  ch : Chg [] w0 w

theorem all_spec (v : Value) (l : List Nat) (w : World) (hv : NF w v l) (hl : l.length ≤ 65536) : Ret Tryz.prog 107 [v] w fun u w' => (∃ b C, ∃ s : SP, u = .pointer (some ⟨b, 0, none⟩) ∧ TB w' b 251 C s.cells ∧ Rep C (sumI l) ∧ s.le 65536) ∧ Chg [] w w' := by
 obtain ⟨⟨al, cl, rfl, hcap, hrl⟩, hWl, hll⟩ := hv;have hch : Chg [] w w := Chg.refl _ _;refine zE1 Tryz.func107 rfl ?_;refine Sr fun _ kh1 => za rfl (zz (kh1 (Sr fun _ kh3 => ?_)));refine WL.call hasF100 rfl rfl (New_spec _) fun v w1 h' => ?_;obtain ⟨b, rfl, hB6, hge6, hC6⟩ := h';have hch := hch.trans hC6;have hbge : w.heap.size ≤ b := hge6;refine za rfl (zz (kh3 (zc fun _ kh5 => Sr fun _ kh6 => zm rfl (zn rfl (zm rfl (zz (kh6 ?_)))))));refine CW.block ?_;refine CW.loop (S := fun g : Nat × List Nat × SP => [(3, .pointer (some ⟨b, 0, none⟩)), (7, .slice al l.length cl), (8, .int .i64 (l.length : Int)), (9, .int .i64 (g.1 : Int))]) (Inv := KAll l b w) (mu := fun g => l.length - g.1) ((0, List.replicate 67 0, SP.zero)) ?_ ?_ ?_
 ·exact ⟨Nat.zero_le _, hB6, by rw [List.take_zero]; exact Rep.zero, ⟨by decide, by decide, by decide, by decide, by decide, by decide⟩, hch⟩
 ·exact SLp
 ·rintro ⟨i, C, s⟩ wr ⟨hi, hB, hr, hs, hch⟩;dsimp only at hi hB hr hs hch;dsimp only;have hx := D_getD hWl i;refine Sr fun _ kh8 => ?_;refine WL.ev (Ev.lss rfl rfl) rfl ?_;refine zz (kh8 (zc fun _ kh10 => ?_));refine zy rfl ?_ ?_<;>intro hc1<;>try simp only [qs] at hc1
  ·have hst := sumI_step (l := l) (i := i) (by omega);have hin := sumI_in (l := l.take (i + 1)) (by rw [List.length_take]; omega);rw [hst, ← thv_one] at hin
   refine zkk ?_;refine kh10 (zc fun _ kh11 => ?_);refine CW.block ?_;refine Sr fun _ kh12 => ?_;refine WL.ev (Ev.ixR (i) rfl rfl (hrl.keep0 hch) (by omega) (by omega) (by simp; omega)) rfl ?_;refine WL.ev (Ev.load rfl rfl ((hrl.keep0 hch).f64 (by first | omega | (simp; omega)))) rfl ?_;refine za rfl (zz (kh12 ?_));refine zR fun _ kr14 => ?_;refine zm rfl (zm rfl ?_);refine WL.call hasF101 rfl rfl (acAdd_spec b C (l.getD i 0) s (sumI (l.take i)) _ hB hr hx (hs.mono (by omega)) hin.1 hin.2) fun v w2 h' => ?_;obtain ⟨rfl, C2, hB2, hr2, hC15⟩ := h';rw [thv_one, ← hst] at hr2;have hch := hch.step hC15 (fun y hy => by simp only [List.mem_singleton] at hy; subst hy; exact .inr hbge);refine WL.nil (kr14 _ _ _ (kh11 ?_));refine zR fun _ kr15 => ?_;(first | refine zi rfl rfl ?_ | refine zo rfl rfl ?_);refine zm rfl ?_;refine WL.nil (kr15 _ _ _ ?_);refine ⟨rfl, (i + 1, C2, cnt1 s (splitP (l.getD i 0)).cls (splitP (l.getD i 0)).neg), ?_, ?_, ?_⟩
   ·exact SLp
   ·exact ⟨by show i + 1 ≤ l.length; omega, hB2, hr2, cnt1_le hs _ _, hch⟩
   ·show l.length - (i + 1) < l.length - i; omega
  ·have hiX : i = l.length := by omega
   subst hiX;rw [List.take_length] at hr;refine CW.exit ?_;refine kh5 (Sr fun _ kh16 => zm rfl (za rfl (zz (kh16 ?_))));refine zr (zr1 rfl rfl ?_);exact ⟨⟨b, C, s, rfl, hB, hr, hs.mono hl⟩, hch⟩

end

/- Package mean: Mean. No condition. -/
section
open Go Sx Wd
set_option exponentiation.threshold 5000

def isF64 : Value → Bool
  | .float .f64 _ => true
  | _ => false
theorem NF.one {w : World} {v : Value} {l : List Nat} (h : NF w v l) : v.oneCell' = true := by
  obtain ⟨⟨a, c, rfl, _⟩, _⟩ := h; rfl
/-- A list stays where a block turns that holds no numbers. -/
theorem NF.keepBK {w w' : World} {v : Value} {l : List Nat} {b : Nat} {T : TypeId} {cs : List Value} (h : NF w v l) (hb : BK w b T cs) (hc : Chg [b] w w') (hn : ∀ c ∈ cs, isF64 c = false) : NF w' v l := by
  obtain ⟨⟨a, c, h1, h2, h3⟩, h4, h5⟩ := h
  refine ⟨⟨a, c, h1, h2, fun i u hu => ?_⟩, h4, h5⟩
  obtain ⟨ad, e, hcell⟩ := h3 i u hu
  refine ⟨ad, e, hc.cell hcell fun hm => ?_⟩
  simp only [List.mem_singleton] at hm
  have hx : isF64 u = true := by
    rw [List.getElem?_map] at hu
    cases hq : l[i]? with
    | none => rw [hq] at hu; cases hu
    | some y => rw [hq] at hu; cases hu; rfl
  have hlk := hcell
  cases had : ad.add i with
  | mk b' o' sp =>
    rw [had] at hlk hm
    simp only at hm
    subst hm
    cases sp with
    | none =>
      rw [cell_at hb] at hlk
      have := hn u (List.mem_of_getElem? hlk)
      rw [hx] at this; cases this
    | some q =>
      have : w.cell? ⟨b', o', some q⟩ = none := by simp [World.cell?, show w.heap[b']? = _ from hb]
      rw [this] at hlk; cases hlk
theorem QuotP.err {nn nd : Bool} {ln ld : Nat} {en ed mode : Int} {bits : Nat} {e : Int} (h : QuotP nn nd ln ld en ed mode bits e) : (if e = 0 then bits else 0) = bits := by
  rcases h with ⟨_, rfl, rfl⟩ | ⟨_, ⟨_, rfl, rfl⟩ | ⟨_, _, rfl, rfl⟩ | ⟨_, x, y, _, _, ⟨_, rfl, rfl⟩ | ⟨_, r, _, _, _, rfl⟩⟩⟩ <;> simp
theorem toldR.err {d : Dy} {n : Nat} {s : SP} {mode : Int} {bits : Nat} {e : Int} (h : toldR d n s mode bits e) : (if e = 0 then bits else 0) = bits := by
  rcases h with ⟨_, _, rfl⟩ | ⟨_, h⟩
  · simp
  · exact h.err
/-- What Mean answers. -/
def meanR (l : List Nat) (mode pn pi : Int) (bits : Nat) (e : Int) : Prop :=
  (¬ (0 ≤ mode ∧ mode ≤ 4) ∧ bits = 0 ∧ e = 1) ∨ ((0 ≤ mode ∧ mode ≤ 4) ∧
    ((siftE l pn pi ≠ 0 ∧ bits = 0 ∧ e = siftE l pn pi) ∨ (siftE l pn pi = 0 ∧
      ((verdP (cntP l) pn pi = some bits ∧ e = 0) ∨ (verdP (cntP l) pn pi = none ∧
        ((filP l = [] ∧ bits = 0 ∧ e = 3) ∨ (filP l ≠ [] ∧ toldR (sumD (sumI (filP l))) (filP l).length (cntP l) mode bits e)))))))
theorem filP_le (l : List Nat) : (filP l).length ≤ l.length := List.length_filter_le _ _
theorem siftE_len {l : List Nat} {pn pi : Int} (h : siftE l pn pi = 0) : l.length ≤ 65536 ∧ mayQ pn pi := by
  unfold siftE at h
  split at h
  · cases h
  · split at h
    · cases h
    · rename_i h1 h2; exact ⟨by omega, Classical.not_not.1 h1⟩
theorem sumD_ok {S : Int} (h1 : -((16384 * BB : Nat) : Int) < S) (h2 : S < (16384 * BB : Nat)) : (sumD S).ok := by
  have := sumD_eq h1 h2 (decide (S < 0))
  unfold sumD; rw [this]; exact formD_ok this

theorem Mean_spec (v : Value) (l : List Nat) (mode pn pi : Int) (w : World) (hv : NF w v l) (hg : GW w) : Ret Tryz.prog 31 [v, .int .i64 mode, .agg [.int .i64 pn, .int .i64 pi].toArray] w fun u w' => (∃ bits e, u = .tuple [.float .f64 bits, .int .i64 e].toArray ∧ meanR l mode pn pi bits e) ∧ Chg [] w w' := by
 have hch : Chg [] w w := Chg.refl _ _;have hv0 := hv;have hg0 := hg;have hov := hv.one;refine Ret.enterD 103 hasF103 Tryz.func31 rfl rfl ?_;simp only [args0, Nat.zero_add, Nat.reduceAdd];refine Sr fun _ kh1 => ?_;refine zBh rfl rfl rfl hch fun b5 wm5 hb5 hcm5 hge5 hgehch5 hch => ?_;refine WL.allocB (l := [.float .f64 0]) rfl rfl fun b6 wm6 hb6 hcm6 hge6 => ?_;have hgehch6 := Nat.le_trans hch.size hge6;have hch := hch.ta hcm6;have hneb56 := zdd hb5.lt hge6;have hb5 := hb5.k0 hcm6;refine WL.allocB (l := [.int .i64 0]) rfl rfl fun b7 wm7 hb7 hcm7 hge7 => ?_;have hgehch7 := Nat.le_trans hch.size hge7;have hch := hch.ta hcm7;have hneb57 := zdd hb5.lt hge7;have hb5 := hb5.k0 hcm7;have hneb67 := zdd hb6.lt hge7;have hb6 := hb6.k0 hcm7;refine zz (kh1 (Sr fun _ kh3 => ?_));refine WL.defer rfl ?_;refine zz (kh3 (zc fun _ kh5 => Sr fun _ kh6 => zm rfl ?_));refine WL.call hasF104 rfl rfl (right_spec mode _) fun v w1 h' => ?_;obtain ⟨rfl, rfl⟩ := h';refine WL.ev (Ev.not rfl) rfl ?_;refine zz (kh6 ?_);refine zy rfl ?_ ?_<;>intro hc1<;>try simp only [qs] at hc1
 ·have hmode : ¬ (0 ≤ mode ∧ mode ≤ 4) := by simpa using hc1
  refine Sr fun _ kh8 => ?_;refine WL.storeC rfl rfl o1 hb6 (by simp) rfl fun ws2 hb6_ hcs2 => ?_;(try simp only [Sx.splice, qt] at hb6_);have hch := hch.s1 hcs2;have hb7 := hb7.kq hcs2;have hb6 := hb6_;refine WL.storeC rfl rfl o1 hb7 (by simp) rfl fun ws3 hb7_ hcs3 => ?_;(try simp only [Sx.splice, qt] at hb7_);have hch := hch.s1 hcs3;have hb6 := hb6.kq hcs3;have hb7 := hb7_;refine zz (kh8 ?_);refine zr ?_;refine clean_door rfl rfl rfl hb6 hb7 hneb67 fun w9 hc9 => ?_;have hch := hch.step hc9 (fun y hy => by simp only [List.mem_singleton] at hy; subst hy; exact .inr (by omega));exact ⟨⟨_, _, rfl, .inl ⟨hmode, rfl, rfl⟩⟩, hch⟩
 ·have hmode : 0 ≤ mode ∧ mode ≤ 4 := by simpa using hc1
  refine zkk ?_;refine kh5 (Sr fun _ kh10 => zm rfl (zg hb5 rfl ?_));refine WL.call hasF105 rfl rfl (Sift_spec v l pn pi _ (hv0.keep0 hch)) fun v w2 h' => ?_;have hsz18 := hch.size;rcases h' with ⟨hse, rfl, hC18⟩ | ⟨hse, v2, hNf, rfl, hC18⟩
  ·have hch := hch.trans hC18;have hb6 := hb6.k0 hC18;have hb7 := hb7.k0 hC18;unfold SP.cells;refine zm rfl (zx rfl rfl (zx rfl rfl (zx rfl rfl ?_)));refine WL.allocB (l := [.int .i64 0, .int .i64 0, .int .i64 0, .int .i64 0, .int .i64 0, .int .i64 0]) rfl rfl fun b9 wm9 hb9 hcm9 hge9 => ?_;have hgehch9 := Nat.le_trans hch.size hge9;have hch := hch.ta hcm9;have hneb69 := zdd hb6.lt hge9;have hb6 := hb6.k0 hcm9;have hneb79 := zdd hb7.lt hge9;have hb7 := hb7.k0 hcm9;refine za rfl ?_;refine zss rfl rfl ao hb9 rfl fun ws4 hb9_ hcs4 => ?_;have hch := hch.s1 hcs4;have hb6 := hb6.kq hcs4;have hb7 := hb7.kq hcs4;refine WL.storeC rfl rfl o1 hb7 (by simp) rfl fun ws5 hb7_ hcs5 => ?_;(try simp only [Sx.splice, qt] at hb7_);have hch := hch.s1 hcs5;have hb6 := hb6.kq hcs5;have hb7 := hb7_;refine zz (kh10 (zc fun _ kh12 => Sr fun _ kh13 => zl hb7 rfl rfl ?_));refine WL.ev (Ev.neq rfl rfl) rfl ?_;refine zz (kh13 ?_);refine zy rfl ?_ ?_<;>intro hc2<;>try simp only [qs] at hc2
   ·refine Sr fun _ kh15 => zl hb7 rfl rfl ?_
    refine WL.storeC rfl rfl o1 hb6 (by simp) rfl fun ws6 hb6_ hcs6 => ?_;(try simp only [Sx.splice, qt] at hb6_);have hch := hch.s1 hcs6;have hb7 := hb7.kq hcs6;have hb6 := hb6_;refine WL.storeC rfl rfl o1 hb7 (by simp) rfl fun ws7 hb7_ hcs7 => ?_;(try simp only [Sx.splice, qt] at hb7_);have hch := hch.s1 hcs7;have hb6 := hb6.kq hcs7;have hb7 := hb7_;refine zz (kh15 ?_);refine zr ?_;refine clean_door rfl rfl rfl hb6 hb7 hneb67 fun w9 hc9 => ?_;have hch := hch.step hc9 (fun y hy => by simp only [List.mem_singleton] at hy; subst hy; exact .inr (by omega));refine ⟨⟨_, _, rfl, .inr ⟨hmode, .inl ⟨hse, ?_, rfl⟩⟩⟩, hch⟩;simp
   ·exact absurd hc2 hse
  ·have hch := hch.trans hC18;have hb5 := hb5.k0 hC18;have hb6 := hb6.k0 hC18;have hb7 := hb7.k0 hC18;unfold SP.cells;obtain ⟨hl65, hmay⟩ := siftE_len hse;have hfl := filP_le l;have hof := hNf.one;refine zm rfl (zx rfl rfl (zx rfl rfl (zx rfl rfl ?_)));refine WL.allocB (l := [.int .i64 0, .int .i64 0, .int .i64 0, .int .i64 0, .int .i64 0, .int .i64 0]) rfl rfl fun b9 wm9 hb9 hcm9 hge9 => ?_;have hgehch9 := Nat.le_trans hch.size hge9;have hch := hch.ta hcm9;have hNf := hNf.keep0 hcm9;have hneb59 := zdd hb5.lt hge9;have hb5 := hb5.k0 hcm9;have hneb69 := zdd hb6.lt hge9;have hb6 := hb6.k0 hcm9;have hneb79 := zdd hb7.lt hge9;have hb7 := hb7.k0 hcm9;refine za rfl ?_;refine zss rfl rfl ao hb9 rfl fun ws8 hb9_ hcs8 => ?_;(try simp only [Sx.splice, qt] at hb9_);have hch := hch.s1 hcs8;have hb5 := hb5.kq hcs8;have hb6 := hb6.kq hcs8;have hb7 := hb7.kq hcs8;have hNf := hNf.keepBK hb9 hcs8 an;have hb9 := hb9_;refine WL.storeC rfl rfl o1 hb7 (by simp) rfl fun ws9 hb7_ hcs9 => ?_;(try simp only [Sx.splice, qt] at hb7_);have hch := hch.s1 hcs9;have hb5 := hb5.kq hcs9;have hb6 := hb6.kq hcs9;have hb9 := hb9.kq hcs9;have hNf := hNf.keepBK hb7 hcs9 an;have hb7 := hb7_;refine zz (kh10 (zc fun _ kh17 => Sr fun _ kh18 => zl hb7 rfl rfl ?_));refine WL.ev (Ev.neq rfl rfl) rfl ?_;refine zz (kh18 ?_);refine CW.condF rfl ?_;refine zkk ?_;refine kh17 (zc fun _ kh20 => Sr fun _ kh21 => zg hb9 rfl (zg hb5 rfl ?_));refine WL.call hasF92 rfl rfl (Verdict_spec (cntP l) pn pi _ ((cnt_le l).mono (by omega))) fun v w3 h' => ?_;obtain ⟨rfl, hC28⟩ := h';have hch := hch.ta hC28;have hb6 := hb6.k0 hC28;have hb7 := hb7.k0 hC28;have hb9 := hb9.k0 hC28;have hNf := hNf.keep0 hC28;refine zm rfl (zx rfl rfl (zx rfl rfl (za rfl (za rfl (zz (kh21 (Sr fun _ kh23 => zm rfl (zz (kh23 ?_)))))))));refine zy rfl ?_ ?_<;>intro hc3<;>try simp only [qs] at hc3
   ·obtain ⟨vb, hvb⟩ := Option.isSome_iff_exists.1 hc3
    refine Sr fun _ kh25 => zm rfl ?_;refine WL.storeC rfl rfl o1 hb6 (by simp) rfl fun ws10 hb6_ hcs10 => ?_;(try simp only [Sx.splice, qt] at hb6_);have hch := hch.s1 hcs10;have hb7 := hb7.kq hcs10;have hb6 := hb6_;refine WL.storeC rfl rfl o1 hb7 (by simp) rfl fun ws11 hb7_ hcs11 => ?_;(try simp only [Sx.splice, qt] at hb7_);have hch := hch.s1 hcs11;have hb6 := hb6.kq hcs11;have hb7 := hb7_;refine zz (kh25 ?_);refine zr ?_;refine clean_door rfl rfl rfl hb6 hb7 hneb67 fun w9 hc9 => ?_;have hch := hch.step hc9 (fun y hy => by simp only [List.mem_singleton] at hy; subst hy; exact .inr (by omega));refine ⟨⟨_, _, rfl, .inr ⟨hmode, .inr ⟨hse, .inl ⟨?_, rfl⟩⟩⟩⟩, hch⟩;rw [hvb]; rfl
   ·have hvn : verdP (cntP l) pn pi = none := by cases q : verdP (cntP l) pn pi with | none => rfl | some z => rw [q] at hc3; cases hc3
    refine zkk ?_;refine kh20 (zc fun _ kh27 => Sr fun _ kh28 => zm rfl ?_);obtain ⟨ap, cp, rfl, hcapp, hrp⟩ := hNf.ex;refine zn rfl (zq rfl rfl (zz (kh28 ?_)));refine zy rfl ?_ ?_<;>intro hc4<;>try simp only [qs] at hc4
    ·have hnil : filP l = [] := List.length_eq_zero_iff.1 (by omega);refine Sr fun _ kh30 => ?_
     refine WL.storeC rfl rfl o1 hb6 (by simp) rfl fun ws12 hb6_ hcs12 => ?_;(try simp only [Sx.splice, qt] at hb6_);have hch := hch.s1 hcs12;have hb7 := hb7.kq hcs12;have hb6 := hb6_;refine WL.storeC rfl rfl o1 hb7 (by simp) rfl fun ws13 hb7_ hcs13 => ?_;(try simp only [Sx.splice, qt] at hb7_);have hch := hch.s1 hcs13;have hb6 := hb6.kq hcs13;have hb7 := hb7_;refine zz (kh30 ?_);refine zr ?_;refine clean_door rfl rfl rfl hb6 hb7 hneb67 fun w9 hc9 => ?_;have hch := hch.step hc9 (fun y hy => by simp only [List.mem_singleton] at hy; subst hy; exact .inr (by omega));exact ⟨⟨_, _, rfl, .inr ⟨hmode, .inr ⟨hse, .inr ⟨hvn, .inl ⟨hnil, rfl, rfl⟩⟩⟩⟩⟩, hch⟩
    ·have hnn : filP l ≠ [] := fun e => by rw [e] at hc4; exact hc4 rfl
     have hin := sumI_in (l := filP l) (by omega);have hok := sumD_ok hin.1 hin.2;refine zkk ?_;refine kh27 (zc fun _ kh32 => ?_);refine CW.regionKC 10 12 rfl hmix fun kR33 kr33 hS hdr => ?_;have hch := hch.ta hdr;have hb6 := hb6.k0 hdr;have hb7 := hb7.k0 hdr;have hb9 := hb9.k0 hdr;have hNf := hNf.keep0 hdr;have hb9_r := hb9;refine wk 0 rfl hS (fun _ _ => Ev.move rfl) (wk 3 rfl hS (fun _ _ => Ev.move rfl) (wk 4 rfl hS (fun _ _ => Ev.len rfl) (wk 5 rfl hS (fun _ hw' => Ev.loadA rfl rfl (hb9_r.keep0 hw') rfl) (wk 6 rfl hS (fun _ _ => Ev.move rfl) ?_))));refine WK.oneCall 1 rfl (by kernel_rfl) hasF107 rfl rfl (all_spec _ (filP l) _ hNf (by omega)) fun v w4 h' => ?_;obtain ⟨⟨ba, C, sa, rfl, hBa, hRa, hsa⟩, hC37⟩ := h';have hch := hch.ta hC37;have hb6 := hb6.k0 hC37;have hb7 := hb7.k0 hC37;have hS := hS.trans hC37;refine ⟨hS, ?_⟩;refine WK.oneCall 2 rfl (by kernel_rfl) hasF108 rfl rfl (Exact_spec ba C (sumI (filP l)) _ hBa hRa (hg0.keep0 hch) hin.1 hin.2) fun v w5 h' => ?_;obtain ⟨⟨rx, rfl, hNx⟩, hC38⟩ := h';have hch := hch.ta hC38;have hb6 := hb6.k0 hC38;have hb7 := hb7.k0 hC38;have hS := hS.trans hC38;refine ⟨hS, ?_⟩;refine WK.oneCall 7 rfl (by kernel_rfl) hasF106 rfl rfl (told_spec (sumD (sumI (filP l))) rx (filP l).length (cntP l) mode _ hNx hok (by omega) ((cnt_le l).mono (by omega)) (hg0.keep0 hch)) fun v w6 h' => ?_;obtain ⟨⟨bits, e, rfl, hT⟩, hC43⟩ := h';have hch := hch.ta hC43;have hb6 := hb6.k0 hC43;have hb7 := hb7.k0 hC43;have hS := hS.trans hC43;refine ⟨hS, ?_⟩;refine wk 8 rfl hS (fun _ _ => Ev.extract rfl rfl) (wk 9 rfl hS (fun _ _ => Ev.extract rfl rfl) ?_);refine WK.storeC 10 rfl (by kernel_rfl) (by kernel_rfl) rfl rfl o1 hb6 (by simp) rfl fun ws14 hb6_ hcs14 => ?_;(try simp only [Sx.splice, qt] at hb6_);have hch := hch.s1 hcs14;have hb7 := hb7.kq hcs14;have hb6 := hb6_;refine WK.storeC 11 rfl (by kernel_rfl) (by kernel_rfl) rfl rfl o1 hb7 (by simp) rfl fun ws15 hb7_ hcs15 => ?_;(try simp only [Sx.splice, qt] at hb7_);have hch := hch.s1 hcs15;have hb6 := hb6.kq hcs15;have hb7 := hb7_;refine WK.done (by kernel_rfl) (kr33 _ _ _ ?_);refine kh32 ?_;refine zr ?_;refine clean_door rfl rfl rfl hb6 hb7 hneb67 fun w9 hc9 => ?_;have hch := hch.step hc9 (fun y hy => by simp only [List.mem_singleton] at hy; subst hy; exact .inr (by omega));refine ⟨⟨_, _, rfl, .inr ⟨hmode, .inr ⟨hse, .inr ⟨hvn, .inr ⟨hnn, ?_⟩⟩⟩⟩⟩, hch⟩;rw [hT.err]; exact hT

end

/- Reference of layer 6. No condition. -/
section
open Go Sx Wd

theorem kindP_bits {x : Nat} (hx : x < 18446744073709551616) : kindP x = if 9218868437227405312 < x % 9223372036854775808 then 5 else if x % 9223372036854775808 = 9218868437227405312 ∧ x / 9223372036854775808 = 1 then 4 else if x % 9223372036854775808 = 9218868437227405312 then 3 else if x % 9223372036854775808 = 0 ∧ x / 9223372036854775808 = 1 then 1 else if x % 9223372036854775808 = 0 then 2 else 0 := by
  have e1 : x / 4503599627370496 % 2048 = 2047 ↔ 9218868437227405312 ≤ x % 9223372036854775808 := by omega
  have e2 : (x / 4503599627370496 % 2048 = 2047 ∧ x % 4503599627370496 ≠ 0) ↔ 9218868437227405312 < x % 9223372036854775808 := by omega
  have e3 : x / 9223372036854775808 % 2 = 1 ↔ x / 9223372036854775808 = 1 := by omega
  have e4 : (¬ 0 < x / 4503599627370496 % 2048 ∧ ¬ 0 < x % 4503599627370496) ↔ x % 9223372036854775808 = 0 := by omega
  by_cases h1 : 9218868437227405312 < x % 9223372036854775808
  · have L : kindP x = 5 := by unfold kindP splitP; rw [if_pos (e2.2 h1)]; rfl
    rw [L, if_pos h1]
  · have n1 : ¬ (x / 4503599627370496 % 2048 = 2047 ∧ x % 4503599627370496 ≠ 0) := fun q => h1 (e2.1 q)
    by_cases h2 : x % 9223372036854775808 = 9218868437227405312
    · have p2 := e1.2 (by omega)
      by_cases h3 : x / 9223372036854775808 = 1
      · have L : kindP x = 4 := by
          unfold kindP splitP; rw [if_neg n1, if_pos p2]; simp [e3.2 h3]
        rw [L, if_neg h1, if_pos ⟨h2, h3⟩]
      · have L : kindP x = 3 := by
          have h5 : ¬ x / 9223372036854775808 % 2 = 1 := fun q => h3 (e3.1 q)
          unfold kindP splitP; rw [if_neg n1, if_pos p2]; simp [h5]
        rw [L, if_neg h1, if_neg (fun q => h3 q.2), if_pos h2]
    · have n2 : ¬ x / 4503599627370496 % 2048 = 2047 := fun q => h2 (by have := e1.1 q; omega)
      by_cases h4 : x % 9223372036854775808 = 0
      · have h5 := e4.2 h4
        by_cases h3 : x / 9223372036854775808 = 1
        · have L : kindP x = 1 := by
            unfold kindP splitP; rw [if_neg n1, if_neg n2, if_neg h5.1, if_neg h5.2]; simp [e3.2 h3]
          rw [L, if_neg h1, if_neg (fun q => h2 q.1), if_neg h2, if_pos ⟨h4, h3⟩]
        · have L : kindP x = 2 := by
            have h6 : ¬ x / 9223372036854775808 % 2 = 1 := fun q => h3 (e3.1 q)
            unfold kindP splitP; rw [if_neg n1, if_neg n2, if_neg h5.1, if_neg h5.2]; simp [h6]
          rw [L, if_neg h1, if_neg (fun q => h2 q.1), if_neg h2, if_neg (fun q => h3 q.2), if_pos h4]
      · have L : kindP x = 0 := by
          unfold kindP splitP; rw [if_neg n1, if_neg n2]
          by_cases h6 : 0 < x / 4503599627370496 % 2048
          · rw [if_pos h6]; rfl
          · rw [if_neg h6, if_pos (Classical.byContradiction fun q => h4 (e4.1 ⟨h6, q⟩))]; rfl
        rw [L, if_neg h1, if_neg (fun q => h2 q.1), if_neg h2, if_neg (fun q => h4 q.1), if_neg h4]

end

/- Drawn regions with two operations that may come up in either order. No condition. -/
namespace Sx
open Go

/-- Operation i comes up next. -/
def WHat (P : Program) (ops : Array Oper) (K : KK) (S : World → Prop) (fuel : Nat) (listed : Array Bool) (n : Nat) (D : List Deferred) (s : Sl) (w : World) (i : Nat) : Prop :=
  ∀ a, Fr n D s a → wpOp P ops (post n K) i (fun a' w' => S w' ∧ wpAnyH P .any ops (post n K) S fuel (listed.setIfInBounds i true) a' w') a w
section
variable {P : Program} {A : AQ} {n : Nat} {D : List Deferred} {s : Sl} {w : World} {ops : Array Oper} {K : KK} {S : World → Prop} {fuel : Nat} {listed : Array Bool}
variable {op : Op} {ty : TypeId} {pos : String} {af : Array Edge} {d : Nat} {v : Value}
end
end Sx

/- What the reference of layer 2 computes, in plain numbers. No condition. -/
section
open Go Sx Wd

structure PlusI (la lb : List Nat) (i : Nat) (L : List Nat) (c : Nat) : Prop where
  le : i ≤ max la.length lb.length ∨ i = max la.length lb.length + 1 ∧ c = 0
  len : L.length = i
  w : W L
  c1 : c ≤ 1
  v : val L + 2 ^ (32 * i) * c = val (la.take i) + val (lb.take i)
structure MinusI (la lb : List Nat) (i : Nat) (L : List Nat) (c : Nat) : Prop where
  le : i ≤ la.length
  len : L.length = i
  w : W L
  c1 : c ≤ 1
  v : val L + val (lb.take i) = val (la.take i) + 2 ^ (32 * i) * c
/-- Digit by digit, from above. -/
structure PartI (la : List Nat) (b k : Nat) (Q : List Nat) (r : Nat) : Prop where
  le : k ≤ la.length
  len : Q.length = la.length
  w : W Q
  z : ∀ j, j < k → Q.getD j 0 = 0
  rl : r < b
  v : val (la.drop k) = val (Q.drop k) * b + r
/-- v's memory is newer than w0. -/
def Fh (w0 : World) (v : Value) : Prop := ∀ ad m c, v = .slice (some ad) m c → w0.heap.size ≤ ad.block
/-- v lies in no word of block b. -/
def Av (b : Nat) (v : Value) : Prop := ∀ ad m c, v = .slice (some ad) m c → ad.block ≠ b
end

/- Reference of layer 2: size, Norm, Of, at, Bit, Len, Low. No condition. -/
section
open Go Sx Wd

end

/- Reference of layer 2: Cmp, Plus, Minus, Times. No condition. -/
section
open Go Sx Wd

end

/- Reference of layer 2: digit, Parts, Moved. No condition. -/
section
open Go Sx Wd

end

/- Reference of layer 3: forms. No condition. -/
section
open Go Sx Wd

end

/- Reference of layer 3: Number, Bits, Of, Int, Neg, Sign. No condition. -/
section
open Go Sx Wd

end

/- Reference of layer 3: Add, Mul, Against. No condition. -/
section
open Go Sx Wd

theorem mulD_form {x y : Dy} (hx : x.ok) (hy : y.ok) : formD (x.neg != y.neg) (x.m * y.m) (x.e + y.e) = mulD x y := by
  unfold mulD
  split
  · rename_i h
    have h0 : x.m * y.m ≠ 0 := fun e => by rw [e, wd_zero] at h; simp at h
    have h1 : x.m ≠ 0 := fun e => h0 (by rw [e, Nat.zero_mul])
    have h2 : y.m ≠ 0 := fun e => h0 (by rw [e, Nat.mul_zero])
    have ho : x.m * y.m % 2 = 1 := by rw [Nat.mul_mod, hx.odd h1, hy.odd h2]
    have ht := tz_odd ho
    exact formD_none h0 (by rw [ht, Nat.pow_zero, Nat.div_one]; omega)
  · rfl
end

/- Reference of layer 3: Against. No condition. -/
section
open Go Sx Wd

end

/- Sums of forms as whole numbers of the lowest unit. No condition. -/
section
open Go Sx Wd

theorem tz_scale {m : Nat} (h : m ≠ 0) (k : Nat) : tz (m * 2 ^ k) = tz m + k := by
  obtain ⟨h1, h2⟩ := tz_spec h
  refine tz_unique (m := m / 2 ^ tz m) ?_ h1
  rw [Nat.pow_add, ← Nat.mul_assoc, ← h2]
theorem formD_scale {neg : Bool} {m k : Nat} {e f : Int} (he : f = e - (k : Int)) : formD neg (m * 2 ^ k) f = formD neg m e := by
  by_cases h0 : m = 0
  · subst h0; rw [Nat.zero_mul, formD_zero, formD_zero]
  · have hk := Nat.two_pow_pos k
    have hn : m * 2 ^ k ≠ 0 := Nat.mul_ne_zero h0 (by omega)
    have ht := tz_scale h0 k
    have hd : m * 2 ^ k / 2 ^ tz (m * 2 ^ k) = m / 2 ^ tz m := by
      rw [ht, Nat.pow_add, Nat.mul_comm (2 ^ tz m), ← Nat.div_div_eq_div_mul, Nat.mul_div_cancel _ hk]
    unfold formD
    rw [if_neg hn, if_neg h0, hd, ht, he]
    have e1 : (1048576 - ((tz m + k : Nat) : Int) < e - (k : Int) ∨ e - (k : Int) < -1048576 - ((tz m + k : Nat) : Int) ∨ 8192 < (wd (m / 2 ^ tz m)).length) ↔ (1048576 - (tz m : Int) < e ∨ e < -1048576 - (tz m : Int) ∨ 8192 < (wd (m / 2 ^ tz m)).length) := by omega
    by_cases h : 1048576 - (tz m : Int) < e ∨ e < -1048576 - (tz m : Int) ∨ 8192 < (wd (m / 2 ^ tz m)).length
    · rw [if_pos (e1.2 h), if_pos h]
    · rw [if_neg (fun q => h (e1.1 q)), if_neg h, show e - (k : Int) + ((tz m + k : Nat) : Int) = e + (tz m : Int) by omega]
/-- Sums that an accumulator may have. -/
def InB (S : Int) : Prop := -((16384 * BB : Nat) : Int) < S ∧ S < (16384 * BB : Nat)
theorem InB.lt {S : Int} (h : InB S) : S.natAbs < 2 ^ 4238 := by
  obtain ⟨h1, h2⟩ := h
  rw [← BB_pow]; omega
theorem sumD_some {S : Int} (h : InB S) {neg : Bool} (hn : S ≠ 0 → neg = decide (S < 0)) : formD neg S.natAbs (-2148) = some (sumD S) := by
  obtain ⟨h1, h2⟩ := h
  have e := sumD_eq h1 h2 (decide (S < 0))
  unfold sumD
  rw [e, sumD_eq h1 h2 neg, Option.getD_some]
  by_cases h0 : S = 0
  · rw [if_pos h0, if_pos h0]
  · rw [if_neg h0, if_neg h0, hn h0]
theorem rsumD_zero : sumD 0 = Dy.zero := rfl
theorem sumD_val {S : Int} (h : InB S) (h0 : S ≠ 0) : sumD S = ⟨decide (S < 0), S.natAbs / 2 ^ tz S.natAbs, -2148 + tz S.natAbs⟩ := by
  obtain ⟨h1, h2⟩ := h
  unfold sumD
  rw [sumD_eq h1 h2, if_neg h0, Option.getD_some]
theorem rsumD_ok {S : Int} (h : InB S) : (sumD S).ok := formD_ok (sumD_some h (neg := decide (S < 0)) (fun _ => rfl))
theorem rsumD_m0 {S : Int} (h : InB S) : (sumD S).m = 0 ↔ S = 0 := by
  constructor
  · intro hm
    apply Classical.byContradiction
    intro h0
    rw [sumD_val h h0] at hm
    have := (tz_spec (n := S.natAbs) (by omega)).1
    dsimp only at hm
    rw [hm] at this; simp at this
  · intro h0; rw [h0]; rfl
theorem scaled_len {p c n : Nat} (h : n = p * 2 ^ c) (hn : n < 2 ^ 4238) : (wd p).length ≤ 8192 := by
  have h1 : p ≤ n := by rw [h]; exact Nat.le_mul_of_pos_right _ (Nat.two_pow_pos _)
  exact wd_len_gen (Nat.lt_of_le_of_lt h1 hn) (by decide)
theorem addD_sum {S T : Int} (hS : InB S) (hT : InB T) (hST : InB (S + T)) : addD (sumD S) (sumD T) = some (sumD (S + T)) := by
  by_cases h0 : S = 0
  · subst h0
    rw [rsumD_zero, Int.zero_add]
    unfold addD; rw [if_pos (show Dy.zero.m = 0 from rfl)]
  by_cases h1 : T = 0
  · subst h1
    rw [rsumD_zero, Int.add_zero]
    unfold addD; rw [if_neg (fun q => h0 ((rsumD_m0 hS).1 q)), if_pos (show Dy.zero.m = 0 from rfl)]
  obtain ⟨-, ha⟩ := tz_spec (n := S.natAbs) (by omega)
  obtain ⟨-, hb⟩ := tz_spec (n := T.natAbs) (by omega)
  have hx := sumD_val hS h0
  have hy := sumD_val hT h1
  have hxm : (sumD S).m ≠ 0 := fun q => h0 ((rsumD_m0 hS).1 q)
  have hym : (sumD T).m ≠ 0 := fun q => h1 ((rsumD_m0 hT).1 q)
  have hsl := hS.lt
  have htl := hT.lt
  generalize tz S.natAbs = a at *
  generalize tz T.natAbs = b at *
  generalize hX : S.natAbs / 2 ^ a = X at *
  generalize hY : T.natAbs / 2 ^ b = Y at *
  obtain ⟨c, hc⟩ : ∃ c, c = min a b := ⟨_, rfl⟩
  have he : min (sumD S).e (sumD T).e = -2148 + (c : Int) := by rw [hx, hy]; dsimp only; omega
  have hpe : ((sumD S).e - (-2148 + (c : Int))).toNat = a - c := by rw [hx]; dsimp only; omega
  have hqe : ((sumD T).e - (-2148 + (c : Int))).toNat = b - c := by rw [hy]; dsimp only; omega
  have hp : S.natAbs = X * 2 ^ (a - c) * 2 ^ c := by rw [Nat.mul_assoc, ← Nat.pow_add, show a - c + c = a by omega]; exact ha
  have hq : T.natAbs = Y * 2 ^ (b - c) * 2 ^ c := by rw [Nat.mul_assoc, ← Nat.pow_add, show b - c + c = b by omega]; exact hb
  rw [addD_eq hxm hym rfl rfl, he, hpe, hqe]
  rw [show (sumD S).m = X by rw [hx], show (sumD T).m = Y by rw [hy], show (sumD S).neg = decide (S < 0) by rw [hx], show (sumD T).neg = decide (T < 0) by rw [hy]]
  generalize X * 2 ^ (a - c) = p at *
  generalize Y * 2 ^ (b - c) = q at *
  have lp := scaled_len hp hsl
  have lq := scaled_len hq htl
  rw [if_neg (by omega)]
  have hc2 := Nat.two_pow_pos c
  by_cases hs : decide (S < 0) = decide (T < 0)
  · rw [if_pos hs, ← formD_scale (k := c) (f := -2148) (by omega), Nat.add_mul, ← hp, ← hq]
    have hiff : S < 0 ↔ T < 0 := by simpa using hs
    have e : S.natAbs + T.natAbs = (S + T).natAbs := by omega
    rw [e]
    exact sumD_some hST fun _ => decide_eq_decide.2 (by omega)
  · have hiff : ¬ (S < 0 ↔ T < 0) := fun q => hs (decide_eq_decide.2 q)
    rw [if_neg hs]
    by_cases hlt : p < q
    · have hl2 : S.natAbs < T.natAbs := by rw [hp, hq]; exact Nat.mul_lt_mul_of_pos_right hlt hc2
      rw [if_pos hlt, ← formD_scale (k := c) (f := -2148) (by omega), Nat.sub_mul, ← hp, ← hq, show T.natAbs - S.natAbs = (S + T).natAbs by omega]
      exact sumD_some hST fun _ => decide_eq_decide.2 (by omega)
    · have hl2 : T.natAbs ≤ S.natAbs := by rw [hp, hq]; exact Nat.mul_le_mul_right _ (by omega)
      rw [if_neg hlt, ← formD_scale (k := c) (f := -2148) (by omega), Nat.sub_mul, ← hp, ← hq, show S.natAbs - T.natAbs = (S + T).natAbs by omega]
      exact sumD_some hST fun hne => decide_eq_decide.2 (by omega)
theorem fvI_in (x : Nat) : InB (fvI x) := by
  have h := sumI_in (l := [x]) (by simp)
  have : sumI [x] = fvI x := by simp [sumI]
  rw [this] at h; exact h
theorem rfvI_abs (x : Nat) : (fvI x).natAbs = fvN x := by unfold fvI; split <;> omega
theorem fvI_zero {x : Nat} (h : ¬ ((splitP x).cls = 1 ∨ (splitP x).cls = 2)) : fvI x = 0 := by
  unfold fvI fvN; rw [if_neg h]; split <;> rfl
end

/- Numbers as the machine's: a number less itself; which are finite. No condition. -/
section
open Go Sx Wd

theorem cls_le2 (x : Nat) : (splitP x).cls ≤ 2 ↔ x % 9223372036854775808 < 9218868437227405312 := by
  have e : x % 9223372036854775808 < 9218868437227405312 ↔ x / 4503599627370496 % 2048 ≠ 2047 := by omega
  rw [e]
  unfold splitP
  split
  · rename_i h; simp; exact h.1
  · split
    · rename_i h1 h; simp; exact h
    · split
      · rename_i h2 h1 h; simp; exact h1
      · split
        · rename_i h2 h1 h; simp; exact h2
        · rename_i h2 h1 h; simp; exact h2
theorem signed_opp (s : Bool) (m k : Nat) : Ieee.signed s m k + Ieee.signed (!s) m k = 0 := by
  unfold Ieee.signed
  cases s <;> simp <;> omega
theorem sub_self_fin {b : Nat} (h : b % 9223372036854775808 < 9218868437227405312) : Ieee.double.sub b b = some 0 := by
  unfold Ieee.Format.sub Ieee.Format.read
  simp only [Fl.double_sign, Fl.double_inf, Fl.double_bin]
  have key : ∀ (s : Bool) (m : Nat) (i : Int), Option.map Ieee.double.write ((Ieee.Datum.number s m i).sum (Ieee.Datum.number s m i).opposite) = some 0 := by
    intro s m i
    unfold Ieee.Datum.opposite Ieee.Datum.sum
    simp only [Int.min_self, Int.sub_self, Int.toNat_zero, signed_opp, if_true, Int.natAbs_zero, Option.map_some]
    cases s <;> rfl
  split
  · exact key ..
  · exact key ..
theorem sub_self_not {b : Nat} (h : ¬ b % 9223372036854775808 < 9218868437227405312) : Ieee.double.sub b b = none := by
  unfold Ieee.Format.sub Ieee.Format.read
  simp only [Fl.double_sign, Fl.double_inf, Fl.double_bin]
  rw [if_neg (by omega), if_neg h]
  split
  · unfold Ieee.Datum.opposite Ieee.Datum.sum
    generalize (b / 9223372036854775808 % 2 == 1) = s
    cases s <;> rfl
  · rfl
/-- The bits that are drawn for a NaN are a NaN's. -/
theorem nan_form (x y t : Nat) : ∃ p q, p ≤ 1 ∧ q < 4503599627370495 ∧ (Question.nanBits .f64 x y).cut t = p * 9223372036854775808 + 9218868437227405312 + 1 + q :=
  ⟨t % 2, t / 2 % 4503599627370495, by omega, Nat.mod_lt _ (by decide), rfl⟩
theorem nan_cut (x y t : Nat) : Fl.isNaN ((Question.nanBits .f64 x y).cut t) = true := by
  obtain ⟨p, q, h1, h2, e⟩ := nan_form x y t
  rw [e]
  unfold Fl.isNaN
  simp only [decide_eq_true_eq]
  omega
theorem nan_lt (x y t : Nat) : (Question.nanBits .f64 x y).cut t < 18446744073709551616 := by
  obtain ⟨p, q, h1, h2, e⟩ := nan_form x y t
  rw [e]; omega
theorem order_nan {b : Nat} (h : Fl.isNaN b = true) : (FloatKind.f64.format.order b 0 == some .eq) = false := by
  rw [Fl.order_zero]
  unfold Fl.isNaN at h
  simp only [decide_eq_true_eq] at h
  simp; omega
section
variable {P : Program} {n : Nat} {D : List Deferred} {s : Sl} {w : World} {ops : Array Oper} {K : KK} {rest : List Oper} {ty : TypeId} {pos : String} {af : Array Edge} {d : Nat} {x y : Operand}
theorem ev_fsubSelf {t t' : TypeId} {b : Nat} (hx : opnd s x = some (.float .f64 b)) (hy : opnd s y = some (.float .f64 b)) :
    ∃ r w', Ev P s (.binOp .sub t x y t') ty w (.float .f64 r) w' ∧ Chg [] w w' ∧ r < 18446744073709551616 ∧ (FloatKind.f64.format.order r 0 == some .eq) = decide ((splitP b).cls ≤ 2) := by
  by_cases h : b % 9223372036854775808 < 9218868437227405312
  · refine ⟨0, w, run_bin hx hy (fun x y => eqGuard_float ..) ?_, Chg.refl _ _, by decide, ?_⟩
    · simp [binOp, Op.floatArith, show FloatKind.f64.format.sub b b = some 0 from sub_self_fin h]
    · rw [decide_eq_true ((cls_le2 b).2 h), Fl.order_zero]; decide
  · refine ⟨(Question.nanBits .f64 b b).cut (w.tape w.drawn (.nanBits .f64 b b)), w.drew, fun ρ d' pos af g hρ => ?_, Chg.drew _ _, nan_lt _ _ _, ?_⟩
    · have e1 := hρ x _ hx
      have e2 := hρ y _ hy
      simp [execOp, e1, e2, eqGuard_float, binOp, Op.floatArith, show FloatKind.f64.format.sub b b = none from sub_self_not h, Question.forced]
      try rfl
    · rw [order_nan (nan_cut _ _ _), decide_eq_false (fun hh => h ((cls_le2 b).1 hh))]
theorem WL.fsubSelf {t t' : TypeId} {b : Nat} (hx : opnd s x = some (.float .f64 b)) (hy : opnd s y = some (.float .f64 b)) (hd : Nat.blt d n = true)
    (k : ∀ r w', Chg [] w w' → r < 18446744073709551616 → (FloatKind.f64.format.order r 0 == some .eq) = decide ((splitP b).cls ≤ 2) → WL P ops K rest n D ((d, .float .f64 r) :: s) w') : WL P ops K (⟨some d, .binOp .sub t x y t', ty, pos, af, none⟩ :: rest) n D s w := by
  obtain ⟨r, w', he, hc, h1, h2⟩ := ev_fsubSelf (P := P) (ty := ty) (w := w) (t := t) (t' := t') hx hy
  exact WL.ev he hd (k r w' hc h1 h2)
end
end

/- Package mean: finite. No condition. -/
section
open Go Sx Wd
set_option exponentiation.threshold 5000

def finL (l : List Nat) : Prop := ∀ x ∈ l, (splitP x).cls ≤ 2
instance (l : List Nat) : Decidable (finL l) := by unfold finL; exact inferInstance
theorem finL_step {l : List Nat} {i : Nat} (h : i < l.length) : finL (l.take (i + 1)) ↔ finL (l.take i) ∧ (splitP (l.getD i 0)).cls ≤ 2 := by
  rw [take_step h]
  unfold finL
  constructor
  · intro hh; exact ⟨fun x hx => hh x (List.mem_append_left _ hx), hh _ (by simp)⟩
  · rintro ⟨h1, h2⟩ x hx
    rcases List.mem_append.1 hx with q | q
    · exact h1 x q
    · simp at q; rw [q]; exact h2
end

/- Package mean: Weighted. No condition. -/
section
open Go Sx Wd
set_option exponentiation.threshold 5000

theorem sumD_zero : sumD 0 = Dy.zero := rfl
theorem sumD_form {S : Int} (h1 : -((16384 * BB : Nat) : Int) < S) (h2 : S < (16384 * BB : Nat)) (h0 : S ≠ 0) : sumD S = ⟨decide (S < 0), S.natAbs / 2 ^ tz S.natAbs, -2148 + tz S.natAbs⟩ := by
  unfold sumD
  rw [sumD_eq h1 h2, if_neg h0]; rfl
theorem sumD_m0 {S : Int} (h1 : -((16384 * BB : Nat) : Int) < S) (h2 : S < (16384 * BB : Nat)) : (sumD S).m = 0 ↔ S = 0 := by
  constructor
  · intro h
    apply Classical.byContradiction
    intro h0
    rw [sumD_form h1 h2 h0] at h
    have := (tz_spec (n := S.natAbs) (by omega)).1
    simp only at h
    rw [h] at this; cases this
  · intro h; rw [h]; rfl
end

/- Products and signs of forms, as whole numbers of the lowest unit. No condition. -/
section
open Go Sx Wd
set_option exponentiation.threshold 5000

theorem sumD_up {S : Int} (h : InB S) (h0 : S ≠ 0) : ∃ a : Nat, S.natAbs = (sumD S).m * 2 ^ a ∧ (sumD S).e = -2148 + (a : Int) ∧ (sumD S).neg = decide (S < 0) := by
  obtain ⟨-, ha⟩ := tz_spec (n := S.natAbs) (by omega)
  have hx := sumD_val h h0
  exact ⟨tz S.natAbs, by rw [hx]; exact ha, by rw [hx], by rw [hx]⟩
end

/- Package mean: Middle, Of. No condition. -/
section
open Go Sx Wd
set_option exponentiation.threshold 5000

theorem NF.of_row {w : World} {a : Option Addr} {l : List Nat} {k c : Nat} (h : RW w a (l.map f64v)) (hw : ∀ x ∈ l, x < 18446744073709551616) (hl : l.length ≤ 70368744177664) (hk : k = l.length) (hc : k ≤ c) : NF w (.slice a k c) l := by
  subst hk
  exact ⟨⟨a, c, rfl, hc, h⟩, hw, hl⟩
theorem meanR.err {l : List Nat} {mode pn pi : Int} {bits : Nat} {e : Int} (h : meanR l mode pn pi bits e) : (if e = 0 then bits else 0) = bits := by
  rcases h with ⟨_, rfl, rfl⟩ | ⟨_, ⟨_, rfl, rfl⟩ | ⟨_, ⟨_, rfl⟩ | ⟨_, ⟨_, rfl, rfl⟩ | ⟨_, h⟩⟩⟩⟩
  · simp
  · simp
  · simp
  · simp
  · exact h.err
/-- What Middle answers. -/
def midR (x y : Nat) (mode : Int) (bits : Nat) (e : Int) : Prop :=
  (¬ (0 ≤ mode ∧ mode ≤ 4) ∧ bits = 0 ∧ e = 1) ∨ ((0 ≤ mode ∧ mode ≤ 4) ∧
    ((¬ ((splitP x).cls ≤ 2 ∧ (splitP y).cls ≤ 2) ∧ bits = 0 ∧ e = 30) ∨ (((splitP x).cls ≤ 2 ∧ (splitP y).cls ≤ 2) ∧ meanR [x, y] mode 0 0 bits e)))
theorem Middle_spec (x y : Nat) (mode : Int) (w : World) (hx : x < 18446744073709551616) (hy : y < 18446744073709551616) (hg : GW w) : Ret Tryz.prog 206 [.float .f64 x, .float .f64 y, .int .i64 mode] w fun u w' => (∃ bits e, u = .tuple [.float .f64 bits, .int .i64 e].toArray ∧ midR x y mode bits e) ∧ Chg [] w w' := by
 have hch : Chg [] w w := Chg.refl _ _;have hg0 := hg;refine Ret.enterD 103 hasF103 Tryz.func206 rfl rfl ?_;simp only [args0, Nat.zero_add, Nat.reduceAdd];refine Sr fun _ kh1 => ?_;refine WL.allocB (l := [.float .f64 0]) rfl rfl fun b6 wm6 hb6 hcm6 hge6 => ?_;have hgehch6 := Nat.le_trans hch.size hge6;have hch := hch.ta hcm6;refine WL.allocB (l := [.int .i64 0]) rfl rfl fun b7 wm7 hb7 hcm7 hge7 => ?_;have hgehch7 := Nat.le_trans hch.size hge7;have hch := hch.ta hcm7;have hneb67 := zdd hb6.lt hge7;have hb6 := hb6.k0 hcm7;refine zz (kh1 (Sr fun _ kh3 => ?_));refine WL.defer rfl ?_;refine zz (kh3 (zc fun _ kh5 => Sr fun _ kh6 => zm rfl ?_));refine WL.call hasF104 rfl rfl (right_spec mode _) fun v w1 h' => ?_;obtain ⟨rfl, rfl⟩ := h';refine WL.ev (Ev.not rfl) rfl ?_;refine zz (kh6 ?_);refine zy rfl ?_ ?_<;>intro hc1<;>try simp only [qs] at hc1
 ·have hmode : ¬ (0 ≤ mode ∧ mode ≤ 4) := by simpa using hc1
  refine Sr fun _ kh8 => ?_;refine WL.storeC rfl rfl o1 hb6 (by simp) rfl fun ws35 hb6_ hcs35 => ?_;(try simp only [Sx.splice, qt] at hb6_);have hch := hch.s1 hcs35;have hb7 := hb7.kq hcs35;have hb6 := hb6_;refine WL.storeC rfl rfl o1 hb7 (by simp) rfl fun ws36 hb7_ hcs36 => ?_;(try simp only [Sx.splice, qt] at hb7_);have hch := hch.s1 hcs36;have hb6 := hb6.kq hcs36;have hb7 := hb7_;refine zz (kh8 ?_);refine zr ?_;refine clean_door rfl rfl rfl hb6 hb7 hneb67 fun w9 hc9 => ?_;have hch := hch.step hc9 (fun y hy => by simp only [List.mem_singleton] at hy; subst hy; exact .inr (by omega));exact ⟨⟨_, _, rfl, .inl ⟨hmode, rfl, rfl⟩⟩, hch⟩
 ·have hmode : 0 ≤ mode ∧ mode ≤ 4 := by simpa using hc1
  refine zkk ?_;refine kh5 (zc fun _ kh10 => Sr fun _ kh11 => zm rfl ?_);refine WL.call hasF205 rfl rfl (Class_spec x _ hx) fun v w2 h' => ?_;obtain ⟨rfl, hC12⟩ := h';have hch := hch.ta hC12;have hb6 := hb6.k0 hC12;have hb7 := hb7.k0 hC12;refine WL.ev (Ev.gtr rfl rfl) rfl ?_;refine zm rfl ?_;refine zb ?_ ?_<;>intro hg2<;>try simp only [qs] at hg2
  ·have h1 : 2 < (splitP x).cls := by have := hg2; omega
   refine zv rfl (zv rfl (zv rfl (zt rfl rfl (zz (kh11 ?_)))));refine CW.condT rfl ?_;refine Sr fun _ kh13 => ?_;refine WL.storeC rfl rfl o1 hb6 (by simp) rfl fun ws37 hb6_ hcs37 => ?_;(try simp only [Sx.splice, qt] at hb6_);have hch := hch.s1 hcs37;have hb7 := hb7.kq hcs37;have hb6 := hb6_;refine WL.storeC rfl rfl o1 hb7 (by simp) rfl fun ws38 hb7_ hcs38 => ?_;(try simp only [Sx.splice, qt] at hb7_);have hch := hch.s1 hcs38;have hb6 := hb6.kq hcs38;have hb7 := hb7_;refine zz (kh13 ?_);refine zr ?_;refine clean_door rfl rfl rfl hb6 hb7 hneb67 fun w9 hc9 => ?_;have hch := hch.step hc9 (fun y hy => by simp only [List.mem_singleton] at hy; subst hy; exact .inr (by omega));exact ⟨⟨_, _, rfl, .inr ⟨hmode, .inl ⟨fun h => by have := h.1; omega, rfl, rfl⟩⟩⟩, hch⟩
  ·have h1 : (splitP x).cls ≤ 2 := by have := hg2; omega
   refine zw rfl (zm rfl (zw rfl ?_));refine WL.call hasF205 rfl rfl (Class_spec y _ hy) fun v w3 h' => ?_;obtain ⟨rfl, hC16⟩ := h';have hch := hch.ta hC16;have hb6 := hb6.k0 hC16;have hb7 := hb7.k0 hC16;refine zw rfl ?_;refine WL.ev (Ev.gtr rfl rfl) rfl ?_;refine ze rfl rfl (zz (kh11 ?_));refine zy rfl ?_ ?_<;>intro hc3<;>try simp only [qs] at hc3
   ·have h2 : 2 < (splitP y).cls := by have := hc3; omega
    refine Sr fun _ kh15 => ?_;refine WL.storeC rfl rfl o1 hb6 (by simp) rfl fun ws39 hb6_ hcs39 => ?_;(try simp only [Sx.splice, qt] at hb6_);have hch := hch.s1 hcs39;have hb7 := hb7.kq hcs39;have hb6 := hb6_;refine WL.storeC rfl rfl o1 hb7 (by simp) rfl fun ws40 hb7_ hcs40 => ?_;(try simp only [Sx.splice, qt] at hb7_);have hch := hch.s1 hcs40;have hb6 := hb6.kq hcs40;have hb7 := hb7_;refine zz (kh15 ?_);refine zr ?_;refine clean_door rfl rfl rfl hb6 hb7 hneb67 fun w9 hc9 => ?_;have hch := hch.step hc9 (fun y hy => by simp only [List.mem_singleton] at hy; subst hy; exact .inr (by omega));exact ⟨⟨_, _, rfl, .inr ⟨hmode, .inl ⟨fun h => by have := h.2; omega, rfl, rfl⟩⟩⟩, hch⟩
   ·have h2 : (splitP y).cls ≤ 2 := by have := hc3; omega
    refine zkk ?_;refine kh10 (Sr fun _ kh17 => zm rfl (zm rfl ?_));refine WL.buildSlice (m := 2) (cs := [f64v (x), f64v (y)]) (by decide) (by decide) rfl (by kernel_rfl) rfl fun b21 w21 hn21 => ?_;have hcm21 := hn21.chg;have hge21 := hn21.ge;have hb21 : FB w21 b21 _ [x, y] := hn21.at_;have hgehch21 := Nat.le_trans hch.size hge21;have hch := hch.ta hcm21;have hneb621 := zdd hb6.lt hge21;have hb6 := hb6.k0 hcm21;have hneb721 := zdd hb7.lt hge21;have hb7 := hb7.k0 hcm21;refine zm rfl ?_;refine WL.call hasF131 rfl rfl (Plain_spec _) fun v w4 h' => ?_;obtain ⟨rfl, hC23⟩ := h';have hch := hch.ta hC23;have hb6 := hb6.k0 hC23;have hb7 := hb7.k0 hC23;have hb21 := hb21.k0 hC23;refine WL.call hasF31 rfl rfl (Mean_spec _ [x, y] mode 0 0 _ (NF.of_row hb21.row (by intro z hz; simp at hz; rcases hz with rfl | rfl <;> assumption) (by simp) rfl (by simp)) (hg0.keep0 hch)) fun v w5 h' => ?_;obtain ⟨⟨bits, e, rfl, hM⟩, hC24⟩ := h';have hch := hch.ta hC24;have hb6 := hb6.k0 hC24;have hb7 := hb7.k0 hC24;refine zx rfl rfl (zx rfl rfl ?_);refine WL.storeC rfl rfl o1 hb6 (by simp) rfl fun ws41 hb6_ hcs41 => ?_;(try simp only [Sx.splice, qt] at hb6_);have hch := hch.s1 hcs41;have hb7 := hb7.kq hcs41;have hb6 := hb6_;refine WL.storeC rfl rfl o1 hb7 (by simp) rfl fun ws42 hb7_ hcs42 => ?_;(try simp only [Sx.splice, qt] at hb7_);have hch := hch.s1 hcs42;have hb6 := hb6.kq hcs42;have hb7 := hb7_;refine zz (kh17 ?_);refine zr ?_;refine clean_door rfl rfl rfl hb6 hb7 hneb67 fun w9 hc9 => ?_;have hch := hch.step hc9 (fun y hy => by simp only [List.mem_singleton] at hy; subst hy; exact .inr (by omega));refine ⟨⟨_, _, rfl, .inr ⟨hmode, .inr ⟨⟨h1, h2⟩, ?_⟩⟩⟩, hch⟩;rw [hM.err]; exact hM

end

/- Means as plain numbers: what told and Weighted come to; the values that the statements ask. No condition. -/
section
open Go Sx Wd
set_option exponentiation.threshold 9000

theorem sgD_one (n : Nat) (neg : Bool) (h : n ≠ 0) (hn : neg = false) : sgD neg n = 1 := by unfold sgD; rw [if_neg h, hn]; rfl
theorem intD_form {n : Nat} (h0 : n ≠ 0) (hn : n < 18446744073709551616) : ∃ t : Nat, n = (intD (n : Int)).m * 2 ^ t ∧ (intD (n : Int)).e = t ∧ (intD (n : Int)).neg = false := by
  have h := intD_eq (n := (n : Int)) (by omega)
  rw [show decide ((n : Int) < 0) = false from decide_eq_false (by omega), Int.natAbs_natCast] at h
  obtain ⟨t, h1, h2, h3⟩ := formD_val h h0
  exact ⟨t, h1, by omega, h3⟩
/-- The exact sum S (in units of 2^-2148) through n, rounded. -/
def MeanQ (S : Int) (n : Nat) (mode : Int) (bits : Nat) : Prop :=
  ∃ r, IsNear S.natAbs (n * 2 ^ 1073) (decide (S < 0)) mode r ∧ r ≤ 9218868437227405312 ∧ bits = (if S < 0 then r + 9223372036854775808 else r)
/-- A ratio of forms by what they were made of. -/
theorem near_forms {x y : Nat} {ex ey : Int} {s t : Nat} {A B : Nat} {neg : Bool} {mode : Int} {r : Nat} {u v : Nat} (hy : y ≠ 0) (hA : A = x * 2 ^ s * 2 ^ u) (hB : B = y * 2 ^ t * 2 ^ v) (he : ex - ey + 1075 + (t : Int) + (v : Int) = (s : Int) + (u : Int)) :
    IsNear (dyA x (ex - ey)) (y * dyB (ex - ey)) neg mode r ↔ IsNear A B neg mode r := by
  have hB0 : 0 < B := by rw [hB]; exact Nat.mul_pos (Nat.mul_pos (by omega) (Nat.two_pow_pos _)) (Nat.two_pow_pos _)
  have hD0 : 0 < y * dyB (ex - ey) := Nat.mul_pos (by omega) (dyB_pos _)
  have hv : dyA x (ex - ey) * B = A * (y * dyB (ex - ey)) := by
    rw [hA, hB]
    unfold dyA dyB
    have e : (ex - ey + 1075).toNat + t + v = s + u + (-(ex - ey + 1075)).toNat := by omega
    calc x * 2 ^ (ex - ey + 1075).toNat * (y * 2 ^ t * 2 ^ v) = x * y * (2 ^ (ex - ey + 1075).toNat * 2 ^ t * 2 ^ v) := by ac_rfl
      _ = x * y * (2 ^ s * 2 ^ u * 2 ^ (-(ex - ey + 1075)).toNat) := by rw [← Nat.pow_add, ← Nat.pow_add, e, Nat.pow_add, Nat.pow_add]
      _ = _ := by ac_rfl
  exact ⟨fun h => h.congr hD0 hB0 hv, fun h => h.congr hB0 hD0 hv.symm⟩
theorem quot_sum {S : Int} {n : Nat} {mode : Int} {bits : Nat} {e : Int} (h1 : -((16384 * BB : Nat) : Int) < S) (h2 : S < (16384 * BB : Nat)) (hS : S ≠ 0) (hn : n ≠ 0) (hn2 : n ≤ 1099511627776) (hm : 0 ≤ mode ∧ mode ≤ 4)
    (h : QuotP (sumD S).neg (intD n).neg (sumD S).m (intD n).m (sumD S).e (intD n).e mode bits e) : e = 0 ∧ MeanQ S n mode bits := by
  have hokS := sumD_ok h1 h2
  have hokN := intD_ok (n := (n : Int)) (by omega)
  obtain ⟨t, q1, q2, q3⟩ := intD_form hn (by omega)
  have hm0 : (intD (n : Int)).m ≠ 0 := fun e => by rw [e, Nat.zero_mul] at q1; exact hn q1
  have hsg := sgD_one (intD (n : Int)).m (intD (n : Int)).neg hm0 q3
  have hf1 := formD_self hokS
  have hf2 := formD_self hokN
  have hform := sumD_form h1 h2 hS
  have htz := (tz_spec (n := S.natAbs) (by omega)).2
  rcases h with ⟨hh, _⟩ | ⟨_, ⟨hh, _⟩ | ⟨_, hh, _⟩ | ⟨_, x, y, hx, hy, ⟨hh, _⟩ | ⟨hy0, r, hN, hr, hb, he⟩⟩⟩
  · exact absurd hm hh
  · rw [hsg] at hh; exact absurd hh (by decide)
  · rw [hf1, hf2] at hh; rcases hh with hh | hh <;> cases hh
  · rw [hf2] at hy; cases hy; exact absurd hh hm0
  · rw [hf1] at hx; cases hx
    rw [hf2] at hy; cases hy
    have hneg : (sumD S).neg = decide (S < 0) := by rw [hform]
    have hmS : S.natAbs = (sumD S).m * 2 ^ tz S.natAbs := by rw [hform]; exact htz
    have heS : (sumD S).e = -2148 + tz S.natAbs := by rw [hform]
    rw [hneg] at hN hb
    refine ⟨he, r, (near_forms (s := tz S.natAbs) (t := t) (u := 0) (v := 1073) hy0 (A := S.natAbs) (B := n * 2 ^ 1073) (by rw [Nat.pow_zero, Nat.mul_one]; exact hmS) (by rw [← q1]) (by omega)).1 hN, hr, ?_⟩
    rw [hb]
    by_cases q : S < 0
    · simp [q]
    · simp [q]
/-- What told answers of a sum. -/
theorem told_sum {S : Int} {n : Nat} {s : SP} {mode : Int} {bits : Nat} {e : Int} (h1 : -((16384 * BB : Nat) : Int) < S) (h2 : S < (16384 * BB : Nat)) (hn : n ≠ 0) (hn2 : n ≤ 1099511627776) (hm : 0 ≤ mode ∧ mode ≤ 4)
    (h : toldR (sumD S) n s mode bits e) : e = 0 ∧ ((S = 0 ∧ bits = noughtP s mode) ∨ (S ≠ 0 ∧ MeanQ S n mode bits)) := by
  rcases h with ⟨hz, hb, he⟩ | ⟨hz, hq⟩
  · exact ⟨he, .inl ⟨(sumD_m0 h1 h2).1 hz, hb⟩⟩
  · have hS : S ≠ 0 := fun e => hz ((sumD_m0 h1 h2).2 e)
    obtain ⟨he, hM⟩ := quot_sum h1 h2 hS hn hn2 hm hq
    exact ⟨he, .inr ⟨hS, hM⟩⟩
theorem MeanQ.unique {S : Int} {n : Nat} {mode : Int} {b b' : Nat} (hn : n ≠ 0) (h : MeanQ S n mode b) (h' : MeanQ S n mode b') : b = b' := by
  obtain ⟨r, h1, _, rfl⟩ := h
  obtain ⟨r', h2, _, rfl⟩ := h'
  rw [h1.unique (Nat.mul_pos (by omega) (Nat.two_pow_pos _)) h2]
/-- Mean of a list of finite numbers. -/
theorem mean_fin {l : List Nat} {mode pn pi : Int} {bits : Nat} {e : Int} (h : meanR l mode pn pi bits e) (hm : 0 ≤ mode ∧ mode ≤ 4) (hs : siftE l pn pi = 0) (hv : verdP (cntP l) pn pi = none) (hf : filP l ≠ []) :
    e = 0 ∧ ((sumI (filP l) = 0 ∧ bits = noughtP (cntP l) mode) ∨ (sumI (filP l) ≠ 0 ∧ MeanQ (sumI (filP l)) (filP l).length mode bits)) := by
  have hl := (siftE_len hs).1
  have hfl := filP_le l
  have hin := sumI_in (l := filP l) (by omega)
  rcases h with ⟨hh, _⟩ | ⟨_, ⟨hh, _⟩ | ⟨_, ⟨hh, _⟩ | ⟨_, ⟨hh, _⟩ | ⟨_, hT⟩⟩⟩⟩
  · exact absurd hm hh
  · exact absurd hs hh
  · rw [hv] at hh; cases hh
  · exact absurd hh hf
  · exact told_sum hin.1 hin.2 (fun e => hf (List.length_eq_zero_iff.1 e)) (by omega) hm hT
/-- A value that is the number r. -/
theorem near_is {A B : Nat} {neg : Bool} {mode : Int} {r : Nat} (hr : r < 9218868437227405312) (hB : 0 < B) (h : 2 * nz r * B = A) : IsNear A B neg mode r :=
  ⟨r, hr, Nat.le_of_eq h, .inl (by have := nz_lt_succ r; rw [← h]; exact Nat.mul_lt_mul_of_pos_right (by omega) hB), by rw [if_pos h]⟩
end

/- The order of finite numbers, by their values; the least and the greatest of two. No condition. -/
section
open Go Sx Wd
set_option exponentiation.threshold 9000
set_option maxRecDepth 4000

theorem signed_val (s : Bool) (m k : Nat) : Ieee.signed s m k = if s then -((m * 2 ^ k : Nat) : Int) else ((m * 2 ^ k : Nat) : Int) := by
  unfold Ieee.signed
  rw [Nat.shiftLeft_eq]
theorem splitP_small {x : Nat} (h1 : x % 9223372036854775808 < 4503599627370496) : splitP x = if 0 < x % 4503599627370496 then ⟨decide (x / 9223372036854775808 % 2 = 1), 1, -1074, x % 4503599627370496⟩ else ⟨decide (x / 9223372036854775808 % 2 = 1), 0, -1074, 0⟩ := by
  have e : x / 4503599627370496 % 2048 = 0 := by omega
  unfold splitP
  rw [e, if_neg (fun hh => absurd hh.1 (by decide)), if_neg (by decide), if_neg (by decide)]
theorem splitP_norm {x : Nat} (h1 : ¬ x % 9223372036854775808 < 4503599627370496) (h2 : x % 9223372036854775808 < 9218868437227405312) : splitP x = ⟨decide (x / 9223372036854775808 % 2 = 1), 2, -1074 + ((x / 4503599627370496 % 2048 : Nat) : Int) - 1, x % 4503599627370496 + 4503599627370496⟩ := by
  have e : x / 4503599627370496 % 2048 ≠ 2047 := by omega
  have e2 : 0 < x / 4503599627370496 % 2048 := by omega
  unfold splitP
  rw [if_neg (fun hh => e hh.1), if_neg e, if_pos e2]
theorem read_fin {x : Nat} (h : (splitP x).cls ≤ 2) : ∃ (m p : Nat), Ieee.double.read x = .number (x / 9223372036854775808 % 2 == 1) m ((p : Int) - 1074) ∧ fvN x = m * 2 ^ (p + 1074) ∧ nz (x % 9223372036854775808) = m * 2 ^ p ∧ (splitP x).neg = decide (x / 9223372036854775808 % 2 = 1) := by
  have hr := (cls_le2 x).1 h
  have hlp : Ieee.double.leastPlace = -1074 := by decide
  unfold Ieee.Format.read
  simp only [Fl.double_sign, Fl.double_inf, Fl.double_bin, hlp]
  by_cases h1 : x % 9223372036854775808 < 4503599627370496
  · rw [if_pos h1]
    have hs := splitP_small h1
    refine ⟨x % 9223372036854775808, 0, rfl, ?_, ?_, ?_⟩
    · unfold fvN
      rw [hs]
      by_cases h2 : 0 < x % 4503599627370496
      · rw [if_pos h2]
        dsimp only
        rw [if_pos (.inl rfl), show x % 9223372036854775808 = x % 4503599627370496 by omega]
        rfl
      · rw [if_neg h2]
        dsimp only
        rw [if_neg (by decide), show x % 9223372036854775808 = 0 by omega, Nat.zero_mul]
    · unfold nz; rw [if_pos h1]; simp
    · rw [hs]; split <;> rfl
  · rw [if_neg h1, if_pos hr]
    have hs := splitP_norm h1 hr
    refine ⟨4503599627370496 + x % 9223372036854775808 % 4503599627370496, x % 9223372036854775808 / 4503599627370496 - 1, ?_, ?_, ?_, ?_⟩
    · rw [show (-1074 : Int) + ((x % 9223372036854775808 / 4503599627370496 - 1 : Nat) : Int) = ((x % 9223372036854775808 / 4503599627370496 - 1 : Nat) : Int) - 1074 by omega]
    · unfold fvN
      rw [hs]
      dsimp only
      rw [if_pos (.inr rfl), show x % 4503599627370496 + 4503599627370496 = 4503599627370496 + x % 9223372036854775808 % 4503599627370496 by omega, show (-1074 + ((x / 4503599627370496 % 2048 : Nat) : Int) - 1 + 2148).toNat = x % 9223372036854775808 / 4503599627370496 - 1 + 1074 by omega]
    · unfold nz; rw [if_neg h1]
    · rw [hs]
theorem fvN_nz {x : Nat} (h : (splitP x).cls ≤ 2) : fvN x = nz (x % 9223372036854775808) * 2 ^ 1074 := by
  obtain ⟨m, p, _, h2, h3, _⟩ := read_fin h
  rw [h2, h3, Nat.pow_add, Nat.mul_assoc]
theorem fvI_nz {x : Nat} (h : (splitP x).cls ≤ 2) (hx : x < 18446744073709551616) : fvI x = if 9223372036854775808 ≤ x then -((nz (x % 9223372036854775808) * 2 ^ 1074 : Nat) : Int) else ((nz (x % 9223372036854775808) * 2 ^ 1074 : Nat) : Int) := by
  obtain ⟨m, p, _, _, _, h4⟩ := read_fin h
  unfold fvI
  rw [h4, fvN_nz h]
  by_cases q : 9223372036854775808 ≤ x
  · rw [if_pos (by simp; omega), if_pos q]
  · rw [if_neg (by simp; omega), if_neg q]
theorem cmp_scale {a b c : Int} (hc : 0 < c) : compare (a * c) (b * c) = compare a b := by
  show compareOfLessAndEq (a * c) (b * c) = compareOfLessAndEq a b
  unfold compareOfLessAndEq
  have h1 : a * c < b * c ↔ a < b := Int.mul_lt_mul_right hc
  have h2 : a * c = b * c ↔ a = b := ⟨fun h => Int.eq_of_mul_eq_mul_right (by omega) h, fun h => by rw [h]⟩
  by_cases q : a < b
  · rw [if_pos q, if_pos (h1.2 q)]
  · rw [if_neg q, if_neg (fun hh => q (h1.1 hh))]
    by_cases q2 : a = b
    · rw [if_pos q2, if_pos (h2.2 q2)]
    · rw [if_neg q2, if_neg (fun hh => q2 (h2.1 hh))]
theorem order_fin {x y : Nat} (hx : (splitP x).cls ≤ 2) (hy : (splitP y).cls ≤ 2) : FloatKind.f64.format.order x y = some (compare (fvI x) (fvI y)) := by
  obtain ⟨m, p, h1, h2, _, h4⟩ := read_fin hx
  obtain ⟨n, q, k1, k2, _, k4⟩ := read_fin hy
  show (Ieee.double.read x).order (Ieee.double.read y) = _
  rw [h1, k1]
  unfold Ieee.Datum.order
  dsimp only
  obtain ⟨b, hb⟩ : ∃ b : Nat, b = min p q := ⟨_, rfl⟩
  have e1 : ((p : Int) - 1074 - min ((p : Int) - 1074) ((q : Int) - 1074)).toNat = p - b := by omega
  have e2 : ((q : Int) - 1074 - min ((p : Int) - 1074) ((q : Int) - 1074)).toNat = q - b := by omega
  rw [e1, e2]
  have hc : (0 : Int) < ((2 ^ (b + 1074) : Nat) : Int) := by have := Nat.two_pow_pos (b + 1074); omega
  rw [← cmp_scale (a := Ieee.signed _ m _) (b := Ieee.signed _ n _) hc]
  have key : ∀ (s : Bool) (m p : Nat), b ≤ p → Ieee.signed s m (p - b) * ((2 ^ (b + 1074) : Nat) : Int) = if s = true then -((m * 2 ^ (p + 1074) : Nat) : Int) else ((m * 2 ^ (p + 1074) : Nat) : Int) := by
    intro s m p hbp
    have e : m * 2 ^ (p + 1074) = m * 2 ^ (p - b) * 2 ^ (b + 1074) := by
      rw [Nat.mul_assoc, ← Nat.pow_add]; congr 2; omega
    rw [signed_val, e]
    cases s
    · simp only [Bool.false_eq_true, if_false]; rw [← Int.natCast_mul]
    · simp only [if_true]; rw [Int.neg_mul, ← Int.natCast_mul]
  rw [key _ _ _ (by omega), key _ _ _ (by omega)]
  unfold fvI
  rw [h2, k2, h4, k4]
  have e5 : ∀ z : Nat, ((z / 9223372036854775808 % 2 == 1) = true) ↔ (decide (z / 9223372036854775808 % 2 = 1) = true) := fun z => by simp
  simp only [e5]
theorem icmp (a b : Int) : compare a b = if a < b then .lt else if a = b then .eq else .gt := rfl
theorem icmp_lt (a b : Int) : compare a b = .lt ↔ a < b := by
  rw [icmp]
  by_cases q : a < b
  · simp [q]
  · by_cases q2 : a = b <;> simp [q, q2]
theorem icmp_gt (a b : Int) : compare a b = .gt ↔ b < a := by
  rw [icmp]
  by_cases q : a < b
  · rw [if_pos q]; constructor
    · intro h; cases h
    · intro h; omega
  · rw [if_neg q]
    by_cases q2 : a = b
    · rw [if_pos q2]; constructor
      · intro h; cases h
      · intro h; omega
    · rw [if_neg q2]; constructor
      · intro h; omega
      · intro h; rfl
theorem fcmp_lt (a b : Int) : (some (compare a b) == some Ordering.lt) = decide (a < b) := by
  rw [Bool.eq_iff_iff]; simp [icmp_lt]
theorem fcmp_gt (a b : Int) : (some (compare a b) == some Ordering.gt) = decide (b < a) := by
  rw [Bool.eq_iff_iff]; simp [icmp_gt]
theorem fcmp_le (a b : Int) : (some (compare a b) == some Ordering.lt || some (compare a b) == some Ordering.eq) = decide (a ≤ b) := by
  rw [fcmp_lt, Fl.cmp_eq, Bool.eq_iff_iff]; simp; omega
section
variable {P : Program} {s : Sl} {w : World} {ty : TypeId} {x y : Operand} {t t' : TypeId} {a b : Nat}
theorem Ev.fleq (hx : opnd s x = some (.float .f64 a)) (hy : opnd s y = some (.float .f64 b)) : Ev P s (.binOp .leq t x y t') ty w (.bool (FloatKind.f64.format.order a b == some .lt || FloatKind.f64.format.order a b == some .eq)) w :=
  run_bin hx hy (fun _ _ => eqGuard_float _ _ _ _ _ _ _ _) (by simp [binOp, Op.floatCmp])
end
end

/- Means of finite numbers: from the least to the greatest; of like numbers; signs turned. No condition. -/
section
open Go Sx Wd
set_option exponentiation.threshold 9000

theorem kind_fin (x : Nat) : kindP x ≤ 2 ↔ (splitP x).cls ≤ 2 := by
  have := splitP_cls x
  unfold kindP
  split
  · omega
  · split
    · omega
    · split
      · omega
      · split
        · omega
        · split <;> omega
theorem cnt_fin : ∀ (l : List Nat) (s : SP), finL l → (l.foldl (fun s x => countP s (kindP x)) s).na = s.na ∧ (l.foldl (fun s x => countP s (kindP x)) s).up = s.up ∧ (l.foldl (fun s x => countP s (kindP x)) s).dn = s.dn
  | [], s, _ => ⟨rfl, rfl, rfl⟩
  | x :: l, s, h => by
    have h1 := cnt_fin l (countP s (kindP x)) (fun z hz => h z (List.mem_cons_of_mem _ hz))
    have h2 := (kind_fin x).2 (h x (List.mem_cons_self ..))
    simp only [List.foldl_cons]
    obtain ⟨a, b, c⟩ := h1
    rw [a, b, c]
    unfold countP
    refine ⟨?_, ?_, ?_⟩ <;> dsimp only <;> rw [if_neg (by omega)] <;> rfl
theorem fil_fin {l : List Nat} (h : finL l) : filP l = l := by
  unfold filP
  rw [List.filter_eq_self]
  intro x hx
  unfold finP
  simpa using (kind_fin x).2 (h x hx)
theorem sift_fin {l : List Nat} {pn pi : Int} (h : finL l) (hl : l.length ≤ 65536) (hm : mayQ pn pi) : siftE l pn pi = 0 ∧ verdP (cntP l) pn pi = none := by
  obtain ⟨a, b, c⟩ := cnt_fin l SP.zero h
  have a' : (cntP l).na = 0 := a
  have b' : (cntP l).up = 0 := b
  have c' : (cntP l).dn = 0 := c
  constructor
  · unfold siftE
    rw [if_neg (fun q => q hm), if_neg (by omega), a', b', c', if_neg (by omega), if_neg (by omega)]
  · unfold verdP
    rw [a', b', c']
    split
    · rfl
    · rw [if_neg (by omega), if_neg (by omega), if_neg (by omega)]
/-- Mean of finite numbers. -/
theorem mean_fin2 {l : List Nat} {mode pn pi : Int} {bits : Nat} {e : Int} (h : meanR l mode pn pi bits e) (hf : finL l) (hl : l.length ≤ 65536) (hne : l ≠ []) (hm : 0 ≤ mode ∧ mode ≤ 4) (hp : mayQ pn pi) :
    e = 0 ∧ ((sumI l = 0 ∧ bits = noughtP (cntP l) mode) ∨ (sumI l ≠ 0 ∧ MeanQ (sumI l) l.length mode bits)) := by
  obtain ⟨h1, h2⟩ := sift_fin hf hl hp
  have := mean_fin h hm h1 h2 (by rw [fil_fin hf]; exact hne)
  rwa [fil_fin hf] at this
theorem nought_two (s : SP) (mode : Int) : noughtP s mode = 0 ∨ noughtP s mode = 9223372036854775808 := by
  unfold noughtP
  split
  · exact .inr rfl
  · exact .inl rfl
theorem fin_mod {x : Nat} (h : (splitP x).cls ≤ 2) : x % 9223372036854775808 < 9218868437227405312 := (cls_le2 x).1 h
theorem fin_of {r : Nat} (h : r < 9218868437227405312) : (splitP r).cls ≤ 2 ∧ (splitP (r + 9223372036854775808)).cls ≤ 2 := ⟨(cls_le2 r).2 (by omega), (cls_le2 _).2 (by omega)⟩
theorem fv_pos {r : Nat} (h : r < 9218868437227405312) : fvI r = (nz r * 2 ^ 1074 : Nat) := by
  rw [fvI_nz (fin_of h).1 (by omega), if_neg (by omega), Nat.mod_eq_of_lt (by omega)]
theorem unit2 (k n : Nat) : 2 * nz k * (n * 2 ^ 1073) = n * (nz k * 2 ^ 1074) := by
  rw [show (2 : Nat) ^ 1074 = 2 * 2 ^ 1073 by rw [← Nat.pow_succ']]; ac_rfl
theorem sum_like (n v : Nat) : sumI (List.replicate n v) = (n : Int) * fvI v := by
  induction n with
  | zero => simp [sumI]
  | succ n ih =>
    have e : sumI (v :: List.replicate n v) = fvI v + sumI (List.replicate n v) := by simp [sumI]
    rw [List.replicate_succ, e, ih, Int.natCast_add, Int.add_mul]
    simp; omega
theorem nz_zero {k : Nat} : nz k = 0 ↔ k = 0 := by
  constructor
  · intro h
    apply Classical.byContradiction
    intro h0
    have := nz_mono (show 0 < k by omega)
    omega
  · intro h; rw [h]; decide
theorem cnt_like (k : Nat) (v : Nat) (hk : kindP v = k) : ∀ (n : Nat) (s : SP), (List.replicate n v).foldl (fun s x => countP s (kindP x)) s = ⟨s.na + (if k = 5 then n else 0), s.up + (if k = 3 then n else 0), s.dn + (if k = 4 then n else 0), s.mi + (if k = 1 then n else 0), s.pl + (if k = 2 then n else 0), s.al + n⟩
  | 0, s => by simp
  | n + 1, s => by
    rw [List.replicate_succ, List.foldl_cons, cnt_like k v hk n, hk]
    unfold countP
    congr 1
    · dsimp only; split <;> omega
    · dsimp only; split <;> omega
    · dsimp only; split <;> omega
    · dsimp only; split <;> omega
    · dsimp only; split <;> omega
    · dsimp only; omega
theorem kind_zero : kindP 0 = 2 ∧ kindP 9223372036854775808 = 1 := by decide +kernel
/-- The mean of like numbers is the number. -/
theorem mean_like {n v : Nat} {mode : Int} {bits : Nat} {e : Int} (h : meanR (List.replicate n v) mode 0 0 bits e) (hv : (splitP v).cls ≤ 2) (hv64 : v < 18446744073709551616) (hn : n ≠ 0) (hn2 : n ≤ 65536) (hm : 0 ≤ mode ∧ mode ≤ 4) : e = 0 ∧ bits = v := by
  have hf : finL (List.replicate n v) := fun x hx => by rw [List.eq_of_mem_replicate hx]; exact hv
  obtain ⟨he, hh⟩ := mean_fin2 h hf (by simpa using hn2) (fun q => by rw [List.replicate_eq_nil_iff] at q; exact hn q) hm ⟨by decide, by decide⟩
  refine ⟨he, ?_⟩
  have ev := fvI_nz hv hv64
  have mv := fin_mod hv
  have hp := Nat.two_pow_pos 1074
  rw [sum_like, List.length_replicate] at hh
  rcases hh with ⟨hz, hb⟩ | ⟨hz, hM⟩
  · have hv0 : fvI v = 0 := by
      rcases Int.mul_eq_zero.1 hz with q | q
      · omega
      · exact q
    have hk0 : v % 9223372036854775808 = 0 := by
      rw [← nz_zero]
      have : nz (v % 9223372036854775808) * 2 ^ 1074 = 0 := by
        split at ev <;> omega
      rcases Nat.mul_eq_zero.1 this with q | q
      · exact q
      · omega
    rw [hb]
    have hc : cntP (List.replicate n v) = _ := cnt_like (kindP v) v rfl n SP.zero
    rw [hc]
    rcases (show v = 0 ∨ v = 9223372036854775808 by omega) with q | q
    · subst q
      rw [kind_zero.1]
      unfold noughtP mayBeP SP.zero
      simp
      omega
    · subst q
      rw [kind_zero.2]
      unfold noughtP mayBeP SP.zero
      simp
      omega
  · obtain ⟨r, hN, hr, hb⟩ := hM
    have hB : 0 < n * 2 ^ 1073 := Nat.mul_pos (by omega) (Nat.two_pow_pos _)
    have hr2 : r = v % 9223372036854775808 := by
      refine hN.unique hB (near_is mv hB ?_)
      rw [unit2, Int.natAbs_mul, Int.natAbs_natCast, fvI_abs, fvN_nz hv]
    rw [hb]
    by_cases q : 9223372036854775808 ≤ v
    · rw [if_pos q] at ev
      have hpos : 0 < nz (v % 9223372036854775808) * 2 ^ 1074 := by
        apply Nat.pos_of_ne_zero; intro hq
        rw [hq] at ev; rw [ev] at hz; simp at hz
      have : (n : Int) * fvI v < 0 := Int.mul_neg_of_pos_of_neg (by omega) (by omega)
      rw [if_pos this]; omega
    · rw [if_neg q] at ev
      have : ¬ (n : Int) * fvI v < 0 := by
        have : 0 ≤ (n : Int) * fvI v := Int.mul_nonneg (by omega) (by omega)
        omega
      rw [if_neg this]; omega
end

/- The nearest number to a value; forms of sums, put against one another. No condition. -/
section
open Go Sx Wd
set_option exponentiation.threshold 9000

/-! ### Forms of sums -/
theorem formD_sumD {S : Int} (h : InB S) : formD (sumD S).neg (sumD S).m (sumD S).e = some (sumD S) := formD_self (rsumD_ok h)
theorem mulD_int {S : Int} {n : Nat} (h : InB S) (hn : n ≠ 0) (hn2 : n < 18446744073709551616) (hP : InB (S * (n : Int))) : mulD (sumD S) (intD (n : Int)) = some (sumD (S * (n : Int))) := by
  have hok := rsumD_ok h
  have hok2 := intD_ok (n := (n : Int)) (by omega)
  rw [← mulD_form hok hok2]
  obtain ⟨t, q1, q2, q3⟩ := intD_form hn hn2
  by_cases h0 : S = 0
  · subst h0
    rw [show (sumD 0).m = 0 from rfl, Nat.zero_mul, formD_zero, Int.zero_mul]; rfl
  · obtain ⟨a, h1, h2, h3⟩ := sumD_up h h0
    have hS : S * (n : Int) ≠ 0 := by
      intro q
      rcases Int.mul_eq_zero.1 q with q | q
      · exact h0 q
      · omega
    have hv : (S * (n : Int)).natAbs = (sumD S).m * (intD (n : Int)).m * 2 ^ (a + t) := by
      rw [Int.natAbs_mul, Int.natAbs_natCast, h1, Nat.pow_add]
      calc (sumD S).m * 2 ^ a * n = (sumD S).m * 2 ^ a * ((intD (n : Int)).m * 2 ^ t) := by rw [← q1]
        _ = _ := by simp only [Nat.mul_comm, Nat.mul_left_comm, Nat.mul_assoc]
    rw [← formD_scale (k := a + t) (f := -2148) (by omega), ← hv, h3, q3]
    refine sumD_some hP fun _ => ?_
    have : (S * (n : Int) < 0) ↔ S < 0 := by
      constructor
      · intro q
        apply Int.lt_of_not_ge; intro q2
        have := Int.mul_nonneg q2 (show (0 : Int) ≤ n by omega)
        omega
      · intro q; exact Int.mul_neg_of_neg_of_pos q (by omega)
    rw [Bool.bne_false]
    exact decide_eq_decide.2 this.symm
theorem splitP_exp {x : Nat} (h : (splitP x).cls = 1 ∨ (splitP x).cls = 2) : -1074 ≤ (splitP x).exp := by
  unfold splitP at h ⊢
  by_cases a : x / 4503599627370496 % 2048 = 2047 ∧ x % 4503599627370496 ≠ 0
  · rw [if_pos a] at h; simp at h
  · rw [if_neg a] at h ⊢
    by_cases b : x / 4503599627370496 % 2048 = 2047
    · rw [if_pos b] at h; simp at h
    · rw [if_neg b] at h ⊢
      by_cases d : 0 < x / 4503599627370496 % 2048
      · rw [if_pos d] at h ⊢; dsimp only; omega
      · rw [if_neg d] at h ⊢
        by_cases f : 0 < x % 4503599627370496
        · rw [if_pos f]; simp
        · rw [if_neg f]; simp
theorem fin_form {x : Nat} (h : (splitP x).cls = 1 ∨ (splitP x).cls = 2) : formD (splitP x).neg (splitP x).frac (splitP x).exp = some (sumD (fvI x)) := by
  have he := splitP_exp h
  rw [← formD_scale (k := ((splitP x).exp + 2148).toNat) (f := -2148) (by omega)]
  have e1 : fvN x = (splitP x).frac * 2 ^ ((splitP x).exp + 2148).toNat := by unfold fvN; rw [if_pos h]
  rw [← e1, ← rfvI_abs]
  refine sumD_some (fvI_in x) fun hn => ?_
  unfold fvI at hn ⊢
  cases hg : (splitP x).neg
  · rw [if_neg (by decide)]; exact (decide_eq_false (by omega)).symm
  · rw [hg, if_pos rfl] at hn
    rw [if_pos rfl]; exact (decide_eq_true (by omega)).symm
/-- Two forms' order. -/
def cmpV (m : Nat) (e : Int) (n : Nat) (f : Int) : Int := sgn (m * 2 ^ (e - min e f).toNat) (n * 2 ^ (f - min e f).toNat)
def cmpD (na : Bool) (m : Nat) (e : Int) (nb : Bool) (n : Nat) (f : Int) : Int :=
  if sgD na m < sgD nb n then -1 else if sgD nb n < sgD na m then 1 else if sgD na m = 0 then 0 else sgD na m * cmpV m e n f
theorem fv_small (x : Nat) {n : Nat} (hn : n ≤ 1099511627776) : InB (fvI x * (n : Int)) := by
  have h := sumI_in (l := List.replicate n x) (by simpa using hn)
  rw [sum_like, Int.mul_comm] at h
  exact h
theorem InB.bound {S : Int} (h : S.natAbs < 2 ^ 4230) : InB S := by
  have h2 : 2 ^ 4230 < 16384 * BB := by rw [BB_pow]; exact Nat.pow_lt_pow_right (by decide) (by decide)
  unfold InB
  generalize 16384 * BB = M at *
  generalize 2 ^ 4230 = N at *
  omega
end

/- Package dyad: size, Cmp. No condition. -/
section
open Go Sx Wd Fl

end

/- Maps keyed by whole numbers, in the engine. No condition. -/
namespace Sx
open Go

structure ME where
  key : Int
  val : Value
  born : Nat
def meV (kk : IntKind) (e : ME) : MapEntry := ⟨.int kk e.key, e.val, e.born⟩
def mapO (kk : IntKind) (es : List ME) (c : Nat) : Obj := .map (es.map (meV kk)).toArray c
section
variable {P : Program} {t key elem : TypeId} {kk : IntKind} {w : World} {sk bk : Nat} {zk : Value}
end

section
variable {P : Program} {n : Nat} {D : List Deferred} {s : Sl} {w : World} {ty : TypeId} {x y z : Operand} {ops : Array Oper} {K : KK} {rest : List Oper} {pos : String} {af : Array Edge} {d : Nat}
variable {t key elem : TypeId} {kk : IntKind} {sz by_ sk bk se be : Nat} {zt zk ze : Value} {de : TypeDesc} {r c : Nat} {es : List ME} {k : Int}
/-! A range over a map -/
end
end Sx

/- The walks of the small functions on numbers' bits. No condition. -/
section
open Go Sx Fl

theorem andNot_top (b : Nat) (h : 9223372036854775808 ≤ b) (hb : b < 18446744073709551616) : bits2 .andNot .u64 (b : Int) 9223372036854775808 = (b : Int) - 9223372036854775808 := by
  have e : (BitVec.ofInt 64 (b : Int) &&& ~~~BitVec.ofInt 64 9223372036854775808).toNat = b - 9223372036854775808 := by
    rw [BitVec.toNat_and, BitVec.toNat_not]
    have h1 : (BitVec.ofInt 64 (b : Int)).toNat = b := by simp [BitVec.toNat_ofInt]; omega
    have h2 : (BitVec.ofInt 64 9223372036854775808).toNat = 9223372036854775808 := by decide
    rw [h1, h2]
    have h3 : b &&& (2 ^ 64 - 1 - 9223372036854775808) = b % 2 ^ 63 := by
      rw [← Nat.and_two_pow_sub_one_eq_mod]
    rw [h3]
    omega
  show IntKind.u64.wrap ((BitVec.ofInt 64 (b : Int) &&& ~~~BitVec.ofInt 64 9223372036854775808).toNat : Int) = _
  rw [e, IntWalk.u64_in _ (by omega)]
  omega
theorem compl_i64 (n : Int) (h0 : 0 ≤ n) (h1 : n ≤ 9223372036854775807) : bits2 .xor .i64 (-1) n = -1 - n := by
  have e : (BitVec.ofInt 64 (-1) ^^^ BitVec.ofInt 64 n).toNat = 18446744073709551615 - n.toNat := by
    have ha : BitVec.ofInt 64 (-1) = BitVec.allOnes 64 := by decide
    rw [ha, BitVec.allOnes_xor, BitVec.toNat_not]
    have h2 : (BitVec.ofInt 64 n).toNat = n.toNat := by simp [BitVec.toNat_ofInt]; omega
    rw [h2]
  show IntKind.i64.wrap ((BitVec.ofInt 64 (-1) ^^^ BitVec.ofInt 64 n).toNat : Int) = _
  rw [e, IntKind.wrap_i64]
  omega
theorem shr63 (b : Nat) (hb : b < 18446744073709551616) : (b : Int).fdiv (2 ^ (min (63 : Int).toNat IntKind.u64.bits)) = if 9223372036854775808 ≤ b then 1 else 0 := by
  show (b : Int).fdiv 9223372036854775808 = _
  rw [Int.fdiv_eq_ediv_of_nonneg _ (by omega)]
  split <;> omega
theorem key_neg (b : Nat) (hb : b < 18446744073709551616) (h1 : isNaN b = false) (h2 : (b : Int).fdiv (2 ^ (min (63 : Int).toNat IntKind.u64.bits)) = 1) :
    bits2 .xor .i64 (if IntKind.i64.signed then -1 else IntKind.i64.max) (IntKind.i64.wrap (bits2 .andNot .u64 (b : Int) 9223372036854775808)) = key b := by
  rw [shr63 b hb] at h2
  have h3 : 9223372036854775808 ≤ b := by
    by_cases h : 9223372036854775808 ≤ b
    · exact h
    · rw [if_neg h] at h2; cases h2
  rw [key_neg_eq h1 h3, andNot_top b h3 hb, wrap_i64 (by omega)]
  exact compl_i64 _ (by omega) (by omega)
theorem key_pos (b : Nat) (hb : b < 18446744073709551616) (h1 : isNaN b = false) (h2 : ¬ (b : Int).fdiv (2 ^ (min (63 : Int).toNat IntKind.u64.bits)) = 1) : IntKind.i64.wrap (b : Int) = key b := by
  rw [shr63 b hb] at h2
  have h3 : b < 9223372036854775808 := by
    by_cases h : 9223372036854775808 ≤ b
    · rw [if_pos h] at h2; exact absurd rfl h2
    · omega
  rw [key_pos_eq h1 h3, wrap_i64 (by omega)]
theorem math_IsNaN_spec (b : Nat) (w : World) : Ret Tryz.prog 124 [.float .f64 b] w fun v w' => v = .bool (isNaN b) ∧ w = w' := by
 refine Ret.enter Tryz.func124 rfl rfl ?_;refine Sr fun _ kh1 => za rfl (zz (kh1 (Sr fun _ kh3 => zm rfl (zm rfl ?_))));refine WL.ev (Ev.fneq rfl rfl) rfl ?_;refine za rfl (zz (kh3 ?_));refine zr (zr1 rfl rfl ?_);exact ⟨by rw [order_self], rfl⟩

theorem bits_NaN_spec (w : World) : Ret Tryz.prog 97 [] w fun v w' => v = .float .f64 9221120237041090560 ∧ w = w' := by
 refine Ret.enter Tryz.func97 rfl rfl ?_;refine Sr fun _ kh1 => za rfl (zz (kh1 (Sr fun _ kh3 => ?_)));refine WL.ev (Ev.ext rfl (ext87 _ _)) rfl ?_;refine za rfl (zz (kh3 ?_));refine zr (zr1 rfl rfl ?_);exact ⟨rfl, rfl⟩

theorem bits_key_spec (b : Nat) (hb : b < 18446744073709551616) (w : World) : Ret Tryz.prog 170 [.float .f64 b] w fun v w' => v = .int .i64 (key b) ∧ w = w' := by
 refine Ret.enter Tryz.func170 rfl rfl ?_;refine Sr fun _ kh1 => za rfl (zz (kh1 (zc fun _ kh3 => Sr fun _ kh4 => zm rfl (zm rfl ?_))));refine WL.ev (Ev.fneq rfl rfl) rfl ?_;refine zz (kh4 ?_);refine zy rfl (fun hc1 => ?_) fun hc1 => ?_
 ·rw [order_self] at hc1;refine Sr fun _ kh6 => za rfl (zz (kh6 ?_));refine zr (zr1 rfl rfl ?_);exact ⟨by simp [key, hc1], rfl⟩
 ·rw [order_self] at hc1;refine zkk ?_;refine kh3 (Sr fun _ kh8 => zm rfl ?_);refine WL.ev (Ev.ext rfl (ext65 _ _)) rfl ?_;refine za rfl (zz (kh8 (zc fun _ kh10 => Sr fun _ kh11 => zm rfl ?_)));refine WL.ev (Ev.shr rfl rfl (by omega)) rfl ?_;refine zq rfl rfl (zz (kh11 ?_));refine zy rfl (fun hc2 => ?_) fun hc2 => ?_
  ·simp only [decide_eq_true_eq, decide_eq_false_iff_not] at hc2;refine Sr fun _ kh13 => zm rfl ?_;refine WL.ev (Ev.andNot rfl rfl) rfl ?_;refine WL.ev (Ev.conv rfl rfl) rfl ?_;refine WL.ev (Ev.compl rfl) rfl ?_;refine za rfl (zz (kh13 ?_));refine zr (zr1 rfl rfl ?_);exact ⟨by rw [key_neg b hb hc1 hc2], rfl⟩
  ·simp only [decide_eq_true_eq, decide_eq_false_iff_not] at hc2;refine zkk ?_;refine kh10 (Sr fun _ kh15 => zm rfl ?_);refine WL.ev (Ev.conv rfl rfl) rfl ?_;refine za rfl (zz (kh15 ?_));refine zr (zr1 rfl rfl ?_);exact ⟨by rw [key_pos b hb hc1 hc2], rfl⟩

theorem bits_Order_spec (a b : Nat) (ha : a < 18446744073709551616) (hb : b < 18446744073709551616) (w : World) : Ret Tryz.prog 82 [.float .f64 a, .float .f64 b] w fun v w' => v = .int .i64 (cmpI (key a) (key b)) ∧ w = w' := by
 refine Ret.enter Tryz.func82 rfl rfl ?_;refine Sr fun _ kh1 => za rfl (zz (kh1 (Sr fun _ kh3 => zm rfl ?_)));refine WL.call hasF170 rfl rfl (bits_key_spec _ ha _) fun v w1 h => ?_;obtain ⟨rfl, rfl⟩ := h;refine zm rfl ?_;refine WL.call hasF170 rfl rfl (bits_key_spec _ hb _) fun v w2 h => ?_;obtain ⟨rfl, rfl⟩ := h;refine za rfl (za rfl (zz (kh3 (zc fun _ kh5 => ?_))));refine CW.block ?_;refine Sr fun _ kh6 => zm rfl (zm rfl ?_);refine WL.ev (Ev.lss rfl rfl) rfl ?_;refine za rfl (zz (kh6 ?_));refine zy rfl (fun hc1 => ?_) fun hc1 => ?_
 ·simp only [decide_eq_true_eq, decide_eq_false_iff_not, Decidable.not_not, Bool.and_eq_true, Bool.or_eq_true, Bool.not_eq_true', ne_eq, Int.not_lt, Int.not_le] at hc1;refine Sr fun _ kh8 => za rfl (zz (kh8 ?_));refine zr (zr1 rfl rfl ?_);exact ⟨by rw [cmpI, if_pos hc1], rfl⟩
 ·simp only [decide_eq_true_eq, decide_eq_false_iff_not, Decidable.not_not, Bool.and_eq_true, Bool.or_eq_true, Bool.not_eq_true', ne_eq, Int.not_lt, Int.not_le] at hc1;refine Sr fun _ kh10 => zm rfl (zm rfl ?_);refine WL.ev (Ev.gtr rfl rfl) rfl ?_;refine za rfl (zz (kh10 ?_));refine zy rfl (fun hc2 => ?_) fun hc2 => ?_
  ·simp only [decide_eq_true_eq, decide_eq_false_iff_not, Decidable.not_not, Bool.and_eq_true, Bool.or_eq_true, Bool.not_eq_true', ne_eq, Int.not_lt, Int.not_le] at hc2;refine Sr fun _ kh12 => za rfl (zz (kh12 ?_));refine zr (zr1 rfl rfl ?_);exact ⟨by rw [cmpI, if_neg (by omega), if_pos hc2], rfl⟩
  ·simp only [decide_eq_true_eq, decide_eq_false_iff_not, Decidable.not_not, Bool.and_eq_true, Bool.or_eq_true, Bool.not_eq_true', ne_eq, Int.not_lt, Int.not_le] at hc2;refine zkk ?_;refine kh5 (Sr fun _ kh14 => za rfl (zz (kh14 ?_)));refine zr (zr1 rfl rfl ?_);exact ⟨by rw [cmpI, if_neg (by omega), if_neg (by omega)], rfl⟩

end

/- Shards in memory. No condition. -/
section
open Go Sx Wd Fl

/-- All that is kept of some numbers. -/
structure Sh where
  s : SP
  V : Dy
  Q : Dy
  lo : Nat
  hi : Nat
def Sh.zero : Sh := ⟨SP.zero, Dy.zero, Dy.zero, 0, 0⟩
/-- A shard in its block (the program's or the document's). -/
def ShM (T : TypeId) (w : World) (b : Nat) (S : Sh) : Prop := ∃ rv rq, BK w b T [.int .i64 (S.s.na : Int), .int .i64 (S.s.up : Int), .int .i64 (S.s.dn : Int), .int .i64 (S.s.mi : Int), .int .i64 (S.s.pl : Int), .int .i64 (S.s.al : Int), .bool S.V.neg, rv, .int .i64 S.V.e, .bool S.Q.neg, rq, .int .i64 S.Q.e, .float .f64 S.lo, .float .f64 S.hi] ∧ NU w rv (wd S.V.m) ∧ NU w rq (wd S.Q.m)
structure Sh.wf (S : Sh) : Prop where
  s : S.s.le 1099511627776
  V : S.V.ok
  Q : S.Q.ok
  lo : S.lo < 18446744073709551616
  hi : S.hi < 18446744073709551616
def Sh.some (S : Sh) : Prop := S.s.na < S.s.al
instance (S : Sh) : Decidable S.some := by unfold Sh.some; exact inferInstance
def SP.add (s t : SP) : SP := ⟨s.na + t.na, s.up + t.up, s.dn + t.dn, s.mi + t.mi, s.pl + t.pl, s.al + t.al⟩
/-- One shard with another. -/
def Sh.merge (S U : Sh) : Sh :=
  ⟨S.s.add U.s, (addD S.V U.V).getD Dy.zero, (addD S.Q U.Q).getD Dy.zero, if U.some ∧ (¬ S.some ∨ key U.lo < key S.lo) then U.lo else S.lo, if U.some ∧ (¬ S.some ∨ key S.hi < key U.hi) then U.hi else S.hi⟩
def Sh.fin (S : Sh) : Int := (S.s.al : Int) - S.s.na - S.s.up - S.s.dn
def Sh.pln (S : Sh) : Int := S.fin - S.s.mi - S.s.pl

end

/- A condition's region that may touch the world, and ends in one answer. No condition. -/
namespace Sx
open Go
section
variable {P : Program} {n : Nat} {D : List Deferred} {s : Sl} {w : World}
theorem CW.seqMC {A : AQ} {x y : Code} (c : Nat) (b : Bool) (hx : Chg [] w w → CW P x (thenK (fun D' s' w' => D' = D ∧ Chg [] w w' ∧ Subs ((c, .bool b) :: s) s') A) n D s w) (hy : ∀ w', Chg [] w w' → CW P y A n D ((c, .bool b) :: s) w') : CW P (.seq x y) A n D s w :=
  CW.seqJ _ (hx (Chg.refl _ _)) fun D' s' w' ⟨h1, h2, h3⟩ => by subst h1; exact (hy w' h2).sub h3
end
section
variable {P : Program} {n : Nat} {D : List Deferred} {s : Sl} {w : World} {ops : Array Oper} {K : KK} {S : World → Prop} {fuel : Nat} {listed : Array Bool}
variable {op : Op} {ty : TypeId} {pos : String} {af : Array Edge} {d : Nat}
/-- A guarded operation of a drawn region that does not run. -/
theorem WH.passG (i : Nat) {j : Nat} {b : Bool} {g : Oper} {x : Bool} {t : Nat} (hi : ops[i]? = some ⟨some d, op, ty, pos, af, some (j, b)⟩) (hs : Region.noSelect ops = true) (hf : Region.free .any ops listed i = true) (hr : (Region.ready .any ops listed).contains i = true)
    (hg : ops[j]? = some g) (ht : g.dst = some t) (hx : look s t = some (.bool x)) (hb : (x == b) = false)
    (hS : S w) (hd : Nat.blt d n = true) (k : WH P ops K S fuel (listed.setIfInBounds i true) n D ((d, undef) :: s) w) : WH P ops K S (fuel + 1) listed n D s w := fun a ha =>
  wpAnyH_take hi hs hf hr (fun c a w h => h.elim) (.inr ⟨by rw [yieldedAt ha hg ht hx]; exact hb, rfl⟩) hS (k _ (ha.put hd undef))
theorem WH.passG1 (i : Nat) {j : Nat} {b : Bool} {g : Oper} {x : Bool} {t : Nat} (hi : ops[i]? = some ⟨some d, op, ty, pos, af, some (j, b)⟩) (hr : Region.ready .any ops listed = [i])
    (hg : ops[j]? = some g) (ht : g.dst = some t) (hx : look s t = some (.bool x)) (hb : (x == b) = false)
    (hS : S w) (hd : Nat.blt d n = true) (k : WH P ops K S fuel (listed.setIfInBounds i true) n D ((d, undef) :: s) w) : WH P ops K S (fuel + 1) listed n D s w := fun a ha =>
  wpAnyH_all hr (by simp) fun j' hj => by
    obtain rfl : j' = i := by simpa using hj
    unfold wpOp
    simp only [hi]
    rw [if_neg (by rw [yieldedAt ha hg ht hx, hb]; simp)]
    exact ⟨hS, k _ (ha.put hd undef)⟩
end
end Sx

/- Shards: Merge. No condition. -/
section
open Go Sx Wd Fl

theorem both_ok {f : Dy → Dy → Option Dy} {x y : Dy} (hx : x.ok) (hy : y.ok) : both2 f (formD x.neg (val (wd x.m)) x.e) (formD y.neg (val (wd y.m)) y.e) = f x y := by
  rw [val_wd, val_wd, formD_self hx, formD_self hy]; rfl
/-- What is put where an answer may be none. -/
theorem DR.cells {w : World} {u : Value} {x : Option Dy} (h : DR w u x) : ∃ r k, u = .tuple [.agg [.bool (x.getD Dy.zero).neg, r, .int .i64 (x.getD Dy.zero).e].toArray, .int .i64 k].toArray ∧ NU w r (wd (x.getD Dy.zero).m) := by
  rcases h with ⟨r, d, rfl, rfl, hN⟩ | ⟨rfl, rfl⟩
  · exact ⟨r, 0, rfl, hN⟩
  · exact ⟨_, 2, rfl, by rw [show (Option.none.getD Dy.zero).m = 0 from rfl, wd_zero]; exact NU.nil⟩
theorem cmpI_neg {a b : Int} : cmpI a b < 0 ↔ a < b := by
  unfold cmpI; split
  · omega
  · split <;> omega
theorem ok_i64 {d : Dy} (h : d.ok) : -9223372036854775808 ≤ d.e ∧ d.e ≤ 9223372036854775807 := by have := h.e; omega

end

/- Reference of layer 7: things, counts, sums. No condition. -/
section
open Go Sx Wd

end

/- Reference of layer 7: Whole. No condition. -/
section
open Go Sx Wd

end

/- Reference of layer 11: may. No condition. -/
section
open Go Sx Wd

end

/- Reference of layer 11: Against, half, Nearby. No condition. -/
section
open Go Sx Wd

end

/- Reference of layer 11: half, Nearby. No condition. -/
section
open Go Sx Wd

end

/- Reference of layer 11: Nearby. No condition. -/
section
open Go Sx Wd

end

/- Reference of layer 11: rounded, Quot. No condition. -/
section
open Go Sx Wd

end

/- Reference of layer 1: parts, classes. No condition. -/
section
open Go Sx Wd

end

/- Reference of layer 13: Told, finite. No condition. -/
section
open Go Sx Wd

end

/- Reference of layer 13: Mean. No condition. -/
section
open Go Sx Wd

end

/- Reference of layer 13: Middle, Of. No condition. -/
section
open Go Sx Wd

end

/- What the laws compare is determined: each answer is the only one. No condition. -/
section
open Go Sx Wd

end

/- Numbers in order: the sorted list of a list's numbers is the only one. No condition. -/
section
open Go Fl

theorem key_inj {a b : Nat} (ha : a < 18446744073709551616) (hb : b < 18446744073709551616) (na : isNaN a = false) (nb : isNaN b = false) (h : key a = key b) : a = b := by
  unfold key at h
  rw [na, nb] at h
  simp only [Bool.false_eq_true, if_false] at h
  split at h <;> split at h <;> omega
/-- In order. -/
def Srt (l : List Nat) : Prop := l.Pairwise fun a b => key a ≤ key b
/-- Numbers that are no NaN. -/
def Nums (l : List Nat) : Prop := ∀ x ∈ l, x < 18446744073709551616 ∧ isNaN x = false
theorem Nums.tail {x : Nat} {l : List Nat} (h : Nums (x :: l)) : Nums l := fun y hy => h y (List.mem_cons_of_mem _ hy)
theorem Nums.perm {a b : List Nat} (h : Nums a) (p : a.Perm b) : Nums b := fun y hy => h y (p.mem_iff.2 hy)
theorem sorted_unique : ∀ {a b : List Nat}, a.Perm b → Srt a → Srt b → Nums a → a = b
  | [], b, h, _, _, _ => (List.Perm.nil_eq h)
  | x :: a, [], h, _, _, _ => by have := h.length_eq; simp at this
  | x :: a, y :: b, h, ha, hb, hw => by
    have hx : x ∈ y :: b := h.mem_iff.1 (List.mem_cons_self ..)
    have hy : y ∈ x :: a := h.mem_iff.2 (List.mem_cons_self ..)
    have h1 : key y ≤ key x := by
      rcases List.mem_cons.1 hx with e | e
      · rw [e]; exact Int.le_refl _
      · exact (List.pairwise_cons.1 hb).1 x e
    have h2 : key x ≤ key y := by
      rcases List.mem_cons.1 hy with e | e
      · rw [e]; exact Int.le_refl _
      · exact (List.pairwise_cons.1 ha).1 y e
    have hx2 := hw x (List.mem_cons_self ..)
    have hy2 := hw y hy
    have e : x = y := key_inj hx2.1 hy2.1 hx2.2 hy2.2 (by omega)
    subst e
    rw [sorted_unique ((List.perm_cons x).1 h) (List.pairwise_cons.1 ha).2 (List.pairwise_cons.1 hb).2 hw.tail]
/-- A list in order. -/
def sortP (l : List Nat) : List Nat := l.mergeSort fun a b => decide (key a ≤ key b)
theorem sortP_perm (l : List Nat) : (sortP l).Perm l := List.mergeSort_perm ..
theorem sortP_srt (l : List Nat) : Srt (sortP l) := by
  have h := List.pairwise_mergeSort (le := fun a b => decide (key a ≤ key b)) (fun a b c h1 h2 => by simp at *; omega) (fun a b => by simp; omega) l
  exact h.imp (fun h => by simpa using h)
theorem sortP_length (l : List Nat) : (sortP l).length = l.length := (sortP_perm l).length_eq
theorem sortP_eq {a l : List Nat} (p : a.Perm l) (s : Srt a) (h : Nums l) : a = sortP l :=
  sorted_unique (p.trans (sortP_perm l).symm) s (sortP_srt l) (h.perm p.symm)
end

/- Means of a list's numbers: put in another order, weighed alike, trimmed. No condition. -/
section
open Go Sx Wd Fl
set_option exponentiation.threshold 9000

theorem perm_finL {a b : List Nat} (h : a.Perm b) : finL a ↔ finL b := ⟨fun q x hx => q x (h.mem_iff.2 hx), fun q x hx => q x (h.mem_iff.1 hx)⟩
theorem fin_num {x : Nat} (h : (splitP x).cls ≤ 2) : isNaN x = false := by
  have := fin_mod h
  unfold isNaN
  exact decide_eq_false (by omega)
theorem finL_nums {l : List Nat} (h : finL l) (hw : ∀ x ∈ l, x < 18446744073709551616) : Nums l := fun x hx => ⟨hw x hx, fin_num (h x hx)⟩
end

/- What the long lists' means and the ways to a mean come to. No condition. -/
section
open Go Sx Wd Fl
set_option exponentiation.threshold 9000

theorem fvI_nought {w : Nat} (hw : (splitP w).cls ≤ 2) (h64 : w < 18446744073709551616) : fvI w = 0 ↔ w % 9223372036854775808 = 0 := by
  have hp : (0 : Nat) < 2 ^ 1074 := Nat.two_pow_pos _
  have e := fvI_nz hw h64
  have h1 : nz (w % 9223372036854775808) * 2 ^ 1074 = 0 ↔ w % 9223372036854775808 = 0 := by
    rw [← nz_zero (k := w % 9223372036854775808)]
    constructor
    · intro q
      rcases Nat.mul_eq_zero.1 q with q | q
      · exact q
      · omega
    · intro q; rw [q, Nat.zero_mul]
  rw [← h1, e]
  split <;> omega
theorem mid_mean {x y : Nat} {mode : Int} {b : Nat} {e : Int} (h : midR x y mode b e) (hm : 0 ≤ mode ∧ mode ≤ 4) (hx : (splitP x).cls ≤ 2) (hy : (splitP y).cls ≤ 2) : meanR [x, y] mode 0 0 b e := by
  rcases h with ⟨q, _⟩ | ⟨_, ⟨q, _⟩ | ⟨_, h⟩⟩
  · exact absurd hm q
  · exact absurd ⟨hx, hy⟩ q
  · exact h
theorem three : (splitP 4613937818241073152).cls ≤ 2 ∧ fvI 4613937818241073152 ≠ 0 := by
  have h1 : (splitP 4613937818241073152).cls ≤ 2 := by decide +kernel
  refine ⟨h1, fun q => ?_⟩
  rw [fvI_nought h1 (by decide)] at q
  exact absurd q (by decide)
end

/- Quantiles as plain numbers. No condition. -/
section
open Go Sx Wd Fl
set_option exponentiation.threshold 9000

/-- What is amiss with a list. -/
def refuseE (l : List Nat) : Int := if 65536 < l.length then 2 else if ¬ finL l then 30 else if l = [] then 3 else 0
theorem refuse_ok {l : List Nat} (h : refuseE l = 0) : l.length ≤ 65536 ∧ finL l ∧ l ≠ [] := by
  unfold refuseE at h
  split at h
  · cases h
  · split at h
    · cases h
    · split at h
      · cases h
      · rename_i h1 h2 h3; exact ⟨by omega, Classical.not_not.1 h2, h3⟩
theorem refuse_three (l : List Nat) : refuseE l = 0 ∨ refuseE l = 2 ∨ refuseE l = 30 ∨ refuseE l = 3 := by
  unfold refuseE; split
  · exact .inr (.inl rfl)
  · split
    · exact .inr (.inr (.inl rfl))
    · split
      · exact .inr (.inr (.inr rfl))
      · exact .inl rfl
/-- What lies num by den of the way from x to y. -/
def lineV (x y num den : Nat) : Int := fvI x * ((den - num : Nat) : Int) + fvI y * (num : Int)
def lineR (x y num den : Nat) (mode : Int) (bits : Nat) (e : Int) : Prop := toldR (sumD (lineV x y num den)) den (cntP [x, y]) mode bits e
/-- The number at a share of a list in order. -/
def atR (s : List Nat) (num den : Nat) (rule mode : Int) (bits : Nat) (e : Int) : Prop :=
  if (s.length - 1) * num % den = 0 ∨ rule = 0 then bits = s.getD ((s.length - 1) * num / den) 0 ∧ e = 0
  else if rule = 3 then midR (s.getD ((s.length - 1) * num / den) 0) (s.getD ((s.length - 1) * num / den + 1) 0) mode bits e
  else if rule = 4 then lineR (s.getD ((s.length - 1) * num / den) 0) (s.getD ((s.length - 1) * num / den + 1) 0) ((s.length - 1) * num % den) den mode bits e
  else if rule = 2 ∧ (2 * ((s.length - 1) * num % den) < den ∨ (2 * ((s.length - 1) * num % den) = den ∧ (s.length - 1) * num / den % 2 = 0)) then bits = s.getD ((s.length - 1) * num / den) 0 ∧ e = 0
  else bits = s.getD ((s.length - 1) * num / den + 1) 0 ∧ e = 0
/-- May a share, a rule, a mode be asked? -/
def askQ (num den rule mode : Int) : Prop := (0 ≤ mode ∧ mode ≤ 4) ∧ (0 ≤ rule ∧ rule ≤ 4) ∧ (1 ≤ den ∧ den ≤ 2147483648) ∧ 0 ≤ num ∧ num ≤ den
instance (num den rule mode : Int) : Decidable (askQ num den rule mode) := by unfold askQ; exact inferInstance
/-- What Quantile answers. -/
def quantR (l : List Nat) (num den rule mode : Int) (bits : Nat) (e : Int) : Prop :=
  (¬ askQ num den rule mode ∧ bits = 0 ∧ e = 1) ∨ (askQ num den rule mode ∧ ((refuseE l ≠ 0 ∧ bits = 0 ∧ e = refuseE l) ∨ (refuseE l = 0 ∧ atR (sortP l) num.toNat den.toNat rule mode bits e)))
/-- What Several answers: the numbers, or an error. -/
def partQ (parts rule mode : Int) : Prop := (0 ≤ mode ∧ mode ≤ 4) ∧ (0 ≤ rule ∧ rule ≤ 4) ∧ 1 ≤ parts ∧ parts ≤ 65536
instance (parts rule mode : Int) : Decidable (partQ parts rule mode) := by unfold partQ; exact inferInstance
def sevL (s : List Nat) (parts : Nat) (rule mode : Int) (L : List Nat) : Prop := L.length = parts + 1 ∧ ∀ k, k ≤ parts → ∃ e, atR s k parts rule mode (L.getD k 0) e
def sevR (l : List Nat) (parts rule mode : Int) (L : List Nat) (e : Int) : Prop :=
  (¬ partQ parts rule mode ∧ L = [] ∧ e = 1) ∨ (partQ parts rule mode ∧ ((refuseE l ≠ 0 ∧ L = [] ∧ e = refuseE l) ∨ (refuseE l = 0 ∧ e = 0 ∧ sevL (sortP l) parts.toNat rule mode L)))
/-! ### Order by keys, order by values -/
theorem finL_getD2 {l : List Nat} (h : finL l) {i : Nat} (hi : i < l.length) : (splitP (l.getD i 0)).cls ≤ 2 := h _ (by rw [List.getD_eq_getElem?_getD, List.getElem?_eq_getElem hi]; exact List.getElem_mem _)
theorem lt_getD2 {l : List Nat} (h : ∀ x ∈ l, x < 18446744073709551616) (i : Nat) : l.getD i 0 < 18446744073709551616 := by
  by_cases hi : i < l.length
  · exact h _ (by rw [List.getD_eq_getElem?_getD, List.getElem?_eq_getElem hi]; exact List.getElem_mem _)
  · rw [List.getD_eq_getElem?_getD, List.getElem?_eq_none (by omega)]; decide
end

/- Quantiles: from one number of the list to the next, rising. No condition. -/
section
open Go Sx Wd Fl
set_option exponentiation.threshold 9000

theorem fv_le (x : Nat) : (fvI x).natAbs ≤ 2 ^ 3172 := by
  have h := sumI_le [x]
  simpa [sumI] using h
theorem lineV_le {x y num den : Nat} (h : num ≤ den) : (lineV x y num den).natAbs ≤ den * 2 ^ 3172 := by
  unfold lineV
  have h1 := fv_le x
  have h2 := fv_le y
  have a1 : (fvI x * ((den - num : Nat) : Int)).natAbs ≤ (den - num) * 2 ^ 3172 := by
    rw [Int.natAbs_mul, Int.natAbs_natCast, Nat.mul_comm]; exact Nat.mul_le_mul_left _ h1
  have a2 : (fvI y * (num : Int)).natAbs ≤ num * 2 ^ 3172 := by
    rw [Int.natAbs_mul, Int.natAbs_natCast, Nat.mul_comm]; exact Nat.mul_le_mul_left _ h2
  have a3 : (den - num) * 2 ^ 3172 + num * 2 ^ 3172 = den * 2 ^ 3172 := by rw [← Nat.add_mul]; congr 1; omega
  have := Int.natAbs_add_le (fvI x * ((den - num : Nat) : Int)) (fvI y * (num : Int))
  omega
theorem in_of_le {S : Int} {n : Nat} (h : S.natAbs ≤ n * 2 ^ 3172) (hn : n ≤ 1099511627776) : InB S := by
  refine InB.bound (Nat.lt_of_le_of_lt (Nat.le_trans h (Nat.mul_le_mul_right _ hn)) ?_)
  have : (1099511627776 : Nat) * 2 ^ 3172 = 2 ^ 3212 := by rw [show (1099511627776 : Nat) = 2 ^ 40 from rfl, ← Nat.pow_add]
  rw [this]
  exact Nat.pow_lt_pow_right (by decide) (by decide)
theorem lineV_in {x y num den : Nat} (h : num ≤ den) (hd : den ≤ 2147483648) : InB (lineV x y num den) := in_of_le (lineV_le h) (by omega)
/-! ### Rounding rises -/
/-! ### Places -/
theorem place_lt {m num den : Nat} (hd : 1 ≤ den) (hn : num ≤ den) : m * num / den ≤ m ∧ (m * num % den ≠ 0 → m * num / den + 1 ≤ m) := by
  have h1 := Nat.div_add_mod (m * num) den
  have h2 : m * num ≤ m * den := Nat.mul_le_mul_left _ hn
  have h3 : m * num / den ≤ m := by
    have := Nat.div_le_div_right (c := den) h2
    rwa [Nat.mul_div_cancel _ (by omega)] at this
  refine ⟨h3, fun hr => ?_⟩
  rcases Nat.lt_or_eq_of_le h3 with q | q
  · exact q
  · rw [q, Nat.mul_comm den m] at h1
    omega
/-- A list in order of finite numbers, one at least. -/
structure Row (s : List Nat) : Prop where
  srt : Srt s
  fin : finL s
  w : ∀ x ∈ s, x < 18446744073709551616
  pos : 0 < s.length
theorem Row.of {l : List Nat} (hf : finL l) (hw : ∀ x ∈ l, x < 18446744073709551616) (hne : l ≠ []) : Row (sortP l) :=
  ⟨sortP_srt l, (perm_finL (sortP_perm l)).2 hf, fun x hx => hw x ((sortP_perm l).mem_iff.1 hx), by rw [sortP_length]; exact List.length_pos_iff.2 hne⟩
end

/- Quantiles: a greater share, the ends, how many lie on either side. No condition. -/
section
open Go Sx Wd Fl
set_option exponentiation.threshold 9000

/-! ### The least and the greatest number, by bits -/
/-! ### How many -/
end

/- Quantiles of like numbers. No condition. -/
section
open Go Sx Wd Fl
set_option exponentiation.threshold 9000

end

/- The numbers that every statement on means asks first. No condition. -/
section
open Go Sx Wd
set_option exponentiation.threshold 9000

theorem p2148 : (0 : Int) < ((2 ^ 2148 : Nat) : Int) := by have := Nat.two_pow_pos 2148; omega
theorem meanQ_of {S n r : Nat} {mode : Int} {bits : Nat} (hn : n ≠ 0) (hr : r < 9218868437227405312) (h : 2 * nz r * (n * 2 ^ 1073) = S) (hM : MeanQ (S : Int) n mode bits) : bits = r := by
  obtain ⟨r', h1, _, hb⟩ := hM
  rw [if_neg (by omega)] at hb
  rw [hb]
  rw [Int.natAbs_natCast] at h1
  exact h1.unique (Nat.mul_pos (by omega) (Nat.two_pow_pos _)) (near_is hr (Nat.mul_pos (by omega) (Nat.two_pow_pos _)) h)
end

/- The numbers that every statement on quantiles asks first. No condition. -/
section
open Go Sx Wd Fl
set_option exponentiation.threshold 9000

def lvq : List Nat := [4621819117588971520, 4630826316843712512, 4626322717216342016, 4629137466983448576]
def lvs : List Nat := [4621819117588971520, 4626322717216342016, 4629137466983448576, 4630826316843712512]
theorem lvq_fin : finL lvq := by decide +kernel
theorem lvq_lt : ∀ x ∈ lvq, x < 18446744073709551616 := by decide
theorem lvq_sort : sortP lvq = lvs := by
  refine (sortP_eq ?_ ?_ (finL_nums lvq_fin lvq_lt)).symm
  · unfold lvs lvq
    exact (List.perm_cons _).2 ((List.Perm.cons _ (List.Perm.swap _ _ _)).trans (List.Perm.swap _ _ _))
  · unfold Srt lvs
    simp only [List.pairwise_cons, List.mem_cons, List.not_mem_nil, or_false, forall_eq_or_imp, forall_eq, List.Pairwise.nil, and_true, false_implies, implies_true]
    decide +kernel
theorem lvq_ok : refuseE lvq = 0 := by
  unfold refuseE
  rw [if_neg (by decide), if_neg (fun q => q lvq_fin), if_neg (by decide)]
theorem lvq_line : lineV 4621819117588971520 4626322717216342016 3 4 = ((70 * 2 ^ 2148 : Nat) : Int) := by decide +kernel
theorem live_quant {b : Nat} {e : Int} (h : quantR lvq 1 4 4 0 b e) : b = 4625619029774565376 ∧ e = 0 := by
  rcases h with ⟨q, _⟩ | ⟨_, ⟨q, _⟩ | ⟨_, h⟩⟩
  · exact absurd (by decide) q
  · exact absurd lvq_ok q
  · rw [lvq_sort, show (1 : Int).toNat = 1 from rfl, show (4 : Int).toNat = 4 from rfl] at h
    unfold atR at h
    rw [if_neg (by decide), if_neg (by decide), if_pos rfl] at h
    have h2 : lineR 4621819117588971520 4626322717216342016 3 4 0 b e := h
    unfold lineR at h2
    obtain ⟨he, hh⟩ := told_sum (lineV_in (by decide) (by decide)).1 (lineV_in (by decide) (by decide)).2 (by decide) (by decide) (by decide) h2
    rw [lvq_line] at hh
    rcases hh with ⟨hz, _⟩ | ⟨_, hM⟩
    · have := p2148; exact absurd hz (by rw [Int.natCast_mul]; omega)
    · exact ⟨meanQ_of (by decide) (by decide) (by decide +kernel) hM, he⟩
theorem lvq_mid : sumI [4626322717216342016, 4629137466983448576] = ((50 * 2 ^ 2148 : Nat) : Int) := by decide +kernel
theorem live_sev {L : List Nat} {e : Int} (h : sevR lvq 2 3 0 L e) : e = 0 ∧ L.length = 3 ∧ L.getD 1 0 = 4627730092099895296 := by
  rcases h with ⟨q, _⟩ | ⟨_, ⟨q, _⟩ | ⟨_, he, hl, h⟩⟩
  · exact absurd (by decide) q
  · exact absurd lvq_ok q
  · refine ⟨he, hl, ?_⟩
    obtain ⟨e1, h1⟩ := h 1 (by decide)
    rw [lvq_sort, show (2 : Int).toNat = 2 from rfl] at h1
    unfold atR at h1
    rw [if_neg (by decide), if_pos rfl] at h1
    have h2 : midR 4626322717216342016 4629137466983448576 0 (L.getD 1 0) e1 := h1
    have hf : finL [4626322717216342016, 4629137466983448576] := by decide +kernel
    have h3 := mid_mean h2 (by decide) (hf _ (by simp)) (hf _ (by simp))
    obtain ⟨-, hh⟩ := mean_fin2 h3 hf (by decide) (by decide) (by decide) ⟨by decide, by decide⟩
    rw [lvq_mid] at hh
    rcases hh with ⟨hz, _⟩ | ⟨_, hM⟩
    · have := p2148; exact absurd hz (by rw [Int.natCast_mul]; omega)
    · exact meanQ_of (by decide) (by decide) (by decide +kernel) hM
/-- How many of a list are not above a number. -/
def countLE (l : List Nat) (x : Nat) : Nat := (l.filter fun z => decide (fvI z ≤ fvI x)).length
theorem live_share : countLE lvq 4626322717216342016 = 2 := by decide +kernel
/-- What Share answers. -/
def shareR (l : List Nat) (x : Nat) (a b e : Int) : Prop :=
  ((refuseE l = 2 ∨ refuseE l = 30) ∧ a = 0 ∧ b = 0 ∧ e = refuseE l) ∨ (¬ (refuseE l = 2 ∨ refuseE l = 30) ∧ ((isNaN x = true ∧ a = 0 ∧ b = 0 ∧ e = 30) ∨ (isNaN x = false ∧ ((refuseE l ≠ 0 ∧ a = 0 ∧ b = 0 ∧ e = refuseE l) ∨ (refuseE l = 0 ∧ a = ((l.filter fun z => FloatKind.f64.format.order z x == some .lt || FloatKind.f64.format.order z x == some .eq).length : Int) ∧ b = (l.length : Int) ∧ e = 0)))))
/-- Of a finite number. -/
theorem share_fin {l : List Nat} {x : Nat} {a b e : Int} (h : shareR l x a b e) (hr : refuseE l = 0) (hx : (splitP x).cls ≤ 2) : a = (countLE l x : Int) ∧ b = (l.length : Int) ∧ e = 0 := by
  obtain ⟨hl, hf, hne⟩ := refuse_ok hr
  rcases h with ⟨p, _⟩ | ⟨_, ⟨p, _⟩ | ⟨_, ⟨p, _⟩ | ⟨_, h1, h2, h3⟩⟩⟩
  · omega
  · rw [fin_num hx] at p; cases p
  · exact absurd hr p
  · refine ⟨?_, h2, h3⟩
    rw [h1]
    unfold countLE
    congr 2
    refine List.filter_congr fun z hz => ?_
    rw [order_fin (hf z hz) hx, fcmp_le]
end

/- What the statements on quantiles need of the answers. No condition. -/
section
open Go Sx Wd Fl

theorem quant_at {l : List Nat} {nu de ru mo : Int} {b : Nat} {e : Int} (h : quantR l nu de ru mo b e) (ha : askQ nu de ru mo) (hr : refuseE l = 0) : atR (sortP l) nu.toNat de.toNat ru mo b e := by
  rcases h with ⟨q, _⟩ | ⟨_, ⟨q, _⟩ | ⟨_, h⟩⟩
  · exact absurd ha q
  · exact absurd hr q
  · exact h
theorem sort_fin {l : List Nat} (hf : finL l) (hw : ∀ x ∈ l, x < 18446744073709551616) (hne : l ≠ []) (i : Nat) (hi : i < l.length) : (splitP ((sortP l).getD i 0)).cls ≤ 2 ∧ (sortP l).getD i 0 < 18446744073709551616 :=
  have hr := Row.of hf hw hne
  ⟨finL_getD2 hr.fin (by rw [sortP_length]; exact hi), lt_getD2 hr.w i⟩
/-! ### The least and the greatest one -/
section
variable {P : Program} {s : Sl} {w : World} {ty : TypeId} {x y : Operand} {t t' : TypeId} {a b : Nat}
end
end

/- Places in memory that are sorted: compare, swapRange, rotate, insertion. No condition. -/
section
open Go Sx Wd Ss Fl

namespace Sx
/-- An own row of places. -/
def i64n (x : Nat) : Value := .int .i64 (x : Int)
def IB (w : World) (b : Nat) (E : TypeId) (l : List Nat) : Prop := w.heap[b]? = some (.cells (l.map i64n).toArray E (0, 0))
section
variable {w : World}
theorem IB.i64 {b : Nat} {E : TypeId} {l : List Nat} {j : Nat} (h : IB w b E l) (hj : j < l.length) : w.cell? ⟨b, j, none⟩ = some (.int .i64 ((l.getD j 0 : Nat) : Int)) := by
  rw [cell_at h]; exact map_at i64n 0 hj
theorem IB.keep {b : Nat} {E : TypeId} {l : List Nat} {T : List Nat} {w' : World} (h : IB w b E l) (hc : Chg T w w') (hT : b ∉ T) : IB w' b E l := hc.heap h hT
theorem IB.keep0 {b : Nat} {E : TypeId} {l : List Nat} {w' : World} (h : IB w b E l) (hc : Chg [] w w') : IB w' b E l := hc.heap h (by simp)
theorem IB.bk {b : Nat} {E : TypeId} {l : List Nat} (h : IB w b E l) : BK w b E (l.map i64n) := h
end
section
variable {P : Program} {n : Nat} {D : List Deferred} {s : Sl} {w : World} {ops : Array Oper} {K : KK} {rest : List Oper} {ty : TypeId} {pos : String} {af : Array Edge} {d : Nat} {x y : Operand} {S : World → Prop} {fuel : Nat} {listed : Array Bool} {zz_ : Nat}
theorem WL.storeI {t : TypeId} {ds : TypeDesc} {by_ : Nat} {z : Value} {b i v : Nat} {l : List Nat} {E : TypeId} [hT : HasT P t ds 1 by_ z] (hx : opnd s x = some (.pointer (some ⟨b, i, none⟩))) (hy : opnd s y = some (.int .i64 (v : Int)))
    (hb : IB w b E l) (hi : i < l.length) (k : ∀ w', IB w' b E (l.set i v) → Chg [b] w w' → WL P ops K rest n D s w') : WL P ops K (⟨none, .store t x y, ty, pos, af, none⟩ :: rest) n D s w :=
  WL.store (l := l.map i64n) (v := i64n v) hx hy rfl hb (by simpa using hi) fun w' hu => k w' (by have := hu.at_; rw [← List.map_set] at this; exact this) hu.chg
theorem WK.storeI (i : Nat) {t : TypeId} {ds : TypeDesc} {by_ : Nat} {z0 : Value} {b o v : Nat} {l : List Nat} {E : TypeId} [hT : HasT P t ds 1 by_ z0] (hi : ops[i]? = some ⟨none, .store t x y, ty, pos, af, none⟩) (hr : Region.ready .any ops listed = [i]) (hlast : (listed.setIfInBounds i true).getD zz_ false = true)
    (hx : opnd s x = some (.pointer (some ⟨b, o, none⟩))) (hy : opnd s y = some (.int .i64 (v : Int)))
    (hb : IB w b E l) (ho : o < l.length) (k : ∀ w', IB w' b E (l.set o v) → Chg [b] w w' → WK P ops K S zz_ fuel (listed.setIfInBounds i true) n D s w') : WK P ops K S zz_ (fuel + 1) listed n D s w :=
  WK.storeLast (l := l.map i64n) (u := i64n v) i hi hr hlast hx hy rfl hb (by simpa using ho) fun w' hu => k w' (by have := hu.at_; rw [← List.map_set] at this; exact this) hu.chg
/-- A call of a function value that has its first argument with it. -/
theorem exec_callB {f : FuncId} {y : Operand} {xs : List Operand} {at_ : Array TypeId} {vs fst cap : List Value} {ρ : Operand → Value} {o : Oper} (hF : HasF P f) (ho : o.op = .call ⟨.value y, xs.toArray, at_⟩) (hy : opnd s y = some (.func (.func f) fst.toArray cap.toArray)) (hx : opnds s xs = some vs)
    (h : ∀ x u, opnd s x = some u → ρ x = u) : (execOp ρ o).run P w = .ok (.enter f (fst ++ vs ++ cap).toArray) w := by
  have e1 : ρ y = .func (.func f) fst.toArray cap.toArray := h _ _ hy
  have e2 := opnds_map h xs vs hx
  unfold execOp
  simp [ho, resolve, e1, Deferred.ofValue, invoke, e2, HasF.run hF]
theorem WH.oneCallB (i : Nat) {f : FuncId} {y : Operand} {xs : List Operand} {at_ : Array TypeId} {vs fst cap : List Value} {R : Value → World → Prop} (hi : ops[i]? = some ⟨some d, .call ⟨.value y, xs.toArray, at_⟩, ty, pos, af, none⟩) (hr : Region.ready .any ops listed = [i]) (hF : HasF P f) (hy : opnd s y = some (.func (.func f) fst.toArray cap.toArray)) (hx : opnds s xs = some vs) (hd : Nat.blt d n = true) (h : Ret P f (fst ++ vs ++ cap) w R)
  (k : ∀ v w', R v w' → S w' ∧ WH P ops K S fuel (listed.setIfInBounds i true) n D ((d, v) :: s) w') : WH P ops K S (fuel + 1) listed n D s w := fun a ha =>
 wpAnyH_all hr (by simp) fun j hj => by
  obtain rfl : j = i := by simpa using hj
  unfold wpOp;simp only [hi];rw [if_pos (by simp [Region.wanted])];refine .inl ?_;unfold Oper.wp;rw [exec_callB hF rfl hy hx fun x u hx => ha.eval hx];exact Calls.mono h fun e w' ⟨v, he, hR⟩ => by subst he; exact ⟨(k v w' hR).1, (k v w' hR).2 _ (ha.put hd v)⟩
theorem WH.oneCallBG (i : Nat) {j : Nat} {b : Bool} {g : Oper} {xb : Bool} {t : Nat} {f : FuncId} {y : Operand} {xs : List Operand} {at_ : Array TypeId} {vs fst cap : List Value} {R : Value → World → Prop} (hi : ops[i]? = some ⟨some d, .call ⟨.value y, xs.toArray, at_⟩, ty, pos, af, some (j, b)⟩) (hr : Region.ready .any ops listed = [i])
    (hg : ops[j]? = some g) (ht : g.dst = some t) (hx0 : look s t = some (.bool xb)) (hb : (xb == b) = true) (hF : HasF P f) (hy : opnd s y = some (.func (.func f) fst.toArray cap.toArray)) (hx : opnds s xs = some vs) (hd : Nat.blt d n = true) (h : Ret P f (fst ++ vs ++ cap) w R)
    (k : ∀ v w', R v w' → S w' ∧ WH P ops K S fuel (listed.setIfInBounds i true) n D ((d, v) :: s) w') : WH P ops K S (fuel + 1) listed n D s w := fun a ha =>
  wpAnyH_all hr (by simp) fun j' hj => by
    obtain rfl : j' = i := by simpa using hj
    unfold wpOp
    simp only [hi]
    rw [if_pos (by rw [yieldedAt ha hg ht hx0]; exact hb)]
    refine .inl ?_
    unfold Oper.wp
    rw [exec_callB hF rfl hy hx fun x u hx => ha.eval hx]
    exact Calls.mono h fun e w' ⟨v, he, hR⟩ => by subst he; exact ⟨(k v w' hR).1, (k v w' hR).2 _ (ha.put hd v)⟩
theorem Ev.makeFuncB {f : FuncId} {v : Value} {x : Operand} (hx : opnd s x = some v) : Ev P s (.makeFunc (.func f) #[x] #[]) ty w (.func (.func f) #[v] #[]) w := fun ρ d' pos af g hρ => by
  have e1 := hρ x _ hx
  simp [execOp, Instr.makeFunc, e1]
end
end Sx
theorem bk_neT {w : World} {b c : Nat} {T T' : TypeId} {cs ds : List Value} (h : BK w b T cs) (h' : BK w c T' ds) (hne : T ≠ T') : b ≠ c := fun e => by
  subst e
  have := h.symm.trans h'
  simp at this
  exact hne this.2
/-- A list and its places, in their block. -/
structure RowS (w : World) (rb : Nat) (vL : Value) (L : List Nat) (ba n : Nat) : Prop where
  b : BK w rb 180 [vL, .slice (some ⟨ba, 0, none⟩) n n]
  f : NF w vL L
theorem RowS.keep0 {w w' : World} {rb ba n : Nat} {vL : Value} {L : List Nat} (h : RowS w rb vL L ba n) (hc : Chg [] w w') : RowS w' rb vL L ba n := ⟨h.b.keep0 hc, h.f.keep0 hc⟩
theorem notF_i64 (l : List Nat) : ∀ c ∈ l.map i64n, isF64 c = false := fun c hc => by obtain ⟨x, _, rfl⟩ := List.mem_map.1 hc; rfl
theorem RowS.keepOB {w w' : World} {rb ba n b : Nat} {vL : Value} {L l : List Nat} (h : RowS w rb vL L ba n) (hi : IB w b 3 l) (hc : Chg [b] w w') (_ : True) : RowS w' rb vL L ba n :=
  ⟨h.b.keep hc fun hm => by
    rw [List.mem_singleton] at hm
    exact bk_neT h.b hi.bk (by decide) hm, h.f.keepBK hi.bk hc (notF_i64 l)⟩
def kL (L : List Nat) (i : Nat) : Int := key (L.getD i 0)
def CmpV (rb : Nat) : Value := .func (.func 204) #[.pointer (some ⟨rb, 0, none⟩)] #[]
structure SsM (rb ba n : Nat) (vL : Value) (L : List Nat) (w : World) (l : List Nat) : Prop where
  i : IB w ba 3 l
  r : RowS w rb vL L ba n
  len : l.length = n
  lt : ∀ x ∈ l, x < L.length
theorem SsM.at_ {rb ba n : Nat} {vL : Value} {L : List Nat} {w : World} {l : List Nat} (h : SsM rb ba n vL L w l) {j : Nat} (hj : j < n) : l.getD j 0 < L.length := by
  rw [List.getD_eq_getElem?_getD, List.getElem?_eq_getElem (by rw [h.len]; exact hj)]
  exact h.lt _ (List.getElem_mem _)
theorem SsM.keep0 {rb ba n : Nat} {vL : Value} {L : List Nat} {w w' : World} {l : List Nat} (h : SsM rb ba n vL L w l) (hc : Chg [] w w') : SsM rb ba n vL L w' l := ⟨h.i.keep0 hc, h.r.keep0 hc, h.len, h.lt⟩
theorem SsM.of {rb ba n : Nat} {vL : Value} {L : List Nat} {w w' : World} {l l' : List Nat} (h : SsM rb ba n vL L w l) (hi : IB w' ba 3 l') (hr : RowS w' rb vL L ba n) (hp : l'.Perm l) : SsM rb ba n vL L w' l' := ⟨hi, hr, hp.length_eq.trans h.len, fun x hx => h.lt x (hp.mem_iff.1 hx)⟩

theorem compare_spec (rb ba n i j : Nat) (vL : Value) (L : List Nat) (w : World) (hR : RowS w rb vL L ba n) (hi : i < L.length) (hj : j < L.length) : Ret Tryz.prog 204 [.pointer (some ⟨rb, 0, none⟩), .int .i64 (i : Int), .int .i64 (j : Int)] w fun u w' => u = .int .i64 (cmpI (kL L i) (kL L j)) ∧ Chg [] w w' := by
 obtain ⟨hb, hf⟩ := hR;obtain ⟨⟨al, cl, rfl, hcap, hrl⟩, hWl, hll⟩ := hf;have hch : Chg [] w w := Chg.refl _ _;refine zE3 Tryz.func204 rfl ?_;refine Sr fun _ kh1 => za rfl (zz (kh1 (zc fun _ kh3 => ?_)));refine CW.regionHC 16 rfl hmix fun kR4 kr4 hS hdr => ?_;have hch := hch.ta hdr;have hb := hb.keep0 hdr;have hch_r := hch;have hb_r := hb;refine wh 0 rfl hS (fun _ _ => Ev.move rfl) (wh 1 rfl hS (fun _ _ => Ev.nilPtr rfl) (wh 2 rfl hS (fun _ _ => Ev.fieldAddr rfl) (wh 3 rfl hS (fun _ hw' => Ev.load rfl rfl ((hb_r.keep0 hw').at_ rfl)) (wh 4 rfl hS (fun _ _ => Ev.move rfl) (wh 5 rfl hS (fun _ hw' => Ev.ixR (i) rfl rfl (hrl.keep0 (hch_r.trans hw')) (by omega) (by omega) (by simp; omega)) (wh 6 rfl hS (fun _ hw' => Ev.load rfl rfl ((hrl.keep0 (hch_r.trans hw')).f64 (by first | omega | (simp; omega)))) (wh 7 rfl hS (fun _ _ => Ev.move rfl) (wh 8 rfl hS (fun _ _ => Ev.nilPtr rfl) (wh 9 rfl hS (fun _ _ => Ev.fieldAddr rfl) (wh 10 rfl hS (fun _ hw' => Ev.load rfl rfl ((hb_r.keep0 hw').at_ rfl)) (wh 11 rfl hS (fun _ _ => Ev.move rfl) (wh 12 rfl hS (fun _ hw' => Ev.ixR (j) rfl rfl (hrl.keep0 (hch_r.trans hw')) (by omega) (by omega) (by simp; omega)) (wh 13 rfl hS (fun _ hw' => Ev.load rfl rfl ((hrl.keep0 (hch_r.trans hw')).f64 (by first | omega | (simp; omega)))) ?_)))))))))))));refine WH.oneCall 14 rfl (by kernel_rfl) hasF82 rfl rfl (bits_Order_spec (L.getD i 0) (L.getD j 0) (D_getD hWl i) (D_getD hWl j) _) fun v w1 h' => ?_;obtain ⟨rfl, rfl⟩ := h';refine ⟨hS, ?_⟩;refine wh 15 rfl hS (fun _ _ => Ev.assign rfl) ?_;refine WH.done (by kernel_rfl) (kr4 _ _ _ ?_);refine kh3 ?_;refine zr (zr1 rfl rfl ?_);exact ⟨rfl, hch⟩

structure KSw (rb ba n a b m : Nat) (vL : Value) (L l : List Nat) (w0 : World) (g : Nat × List Nat) (w : World) : Prop where
  hi : g.1 ≤ m
  s : SwR l g.2 a b g.1
  m : SsM rb ba n vL L w g.2
  ch : Chg [ba] w0 w

theorem swapRange_spec (rb ba n : Nat) (vL : Value) (L l : List Nat) (a b m : Nat) (w : World) (hM : SsM rb ba n vL L w l) (hn : n ≤ 70368744177664) (h1 : a + m ≤ b) (h2 : b + m ≤ n) : Ret Tryz.prog 357 [.slice (some ⟨ba, 0, none⟩) n n, .int .i64 (a : Int), .int .i64 (b : Int), .int .i64 (m : Int), CmpV rb] w fun _ w' => (∃ l', SwR l l' a b m ∧ SsM rb ba n vL L w' l') ∧ Chg [ba] w w' := by
 have hch : Chg [ba] w w := Chg.refl _ _;have htt : True := trivial;refine zE5 Tryz.func357 rfl ?_;refine Sr fun _ kh1 => za rfl (zz (kh1 ?_));refine CW.block ?_;refine CW.loop (S := fun g : Nat × List Nat => [(0, .slice (some ⟨ba, 0, none⟩) n n), (1, .int .i64 (a : Int)), (2, .int .i64 (b : Int)), (3, .int .i64 (m : Int)), (10, .int .i64 (g.1 : Int))]) (Inv := KSw rb ba n a b m vL L l w) (mu := fun g => m - g.1) ((0, l)) ?_ ?_ ?_
 ·exact ⟨Nat.zero_le _, SwR.zero l a b, hM, hch⟩
 ·exact SLp
 ·rintro ⟨i, cur⟩ wr ⟨hi, hs, hM2, hch⟩;dsimp only at hi hs hM2
  try dsimp only
  obtain ⟨hi_, hr, hlen, hlt0⟩ := id hM2;have hll := hM.len;refine zc fun _ kh3 => Sr fun _ kh4 => zm rfl (zm rfl ?_);refine WL.ev (Ev.lss rfl rfl) rfl ?_;refine zz (kh4 ?_);refine zy rfl ?_ ?_<;>intro hc1<;>try simp only [qs] at hc1
  ·refine zkk ?_
   refine kh3 (zc fun _ kh6 => ?_);refine CW.block ?_;refine CW.regionKC 21 24 rfl hmix fun kR7 kr7 hS hdr => ?_;have hch := hch.ta hdr;have hi_ := hi_.keep0 hdr;have hr := hr.keep0 hdr;have hi__r := hi_;refine wk 0 rfl hS (fun _ _ => Ev.move rfl) (wk 1 rfl hS (fun _ _ => Ev.move rfl) (wk 2 rfl hS (fun _ _ => Ev.move rfl) (wk 3 rfl hS (fun _ _ => Ev.addIn rfl rfl (by omega)) ?_)));refine WK.takeT 4 rfl (by kernel_rfl) (by kernel_rfl) (by kernel_rfl) (by kernel_rfl) (fun _ => hS) (fun w' => Ev.move rfl) rfl ?_;refine WK.takeT 5 rfl (by kernel_rfl) (by kernel_rfl) (by kernel_rfl) (by kernel_rfl) (fun _ => hS) (fun w' => Ev.move rfl) rfl ?_;refine WK.takeT 6 rfl (by kernel_rfl) (by kernel_rfl) (by kernel_rfl) (by kernel_rfl) (fun _ => hS) (fun w' => Ev.move rfl) rfl ?_;refine WK.takeT 7 rfl (by kernel_rfl) (by kernel_rfl) (by kernel_rfl) (by kernel_rfl) (fun _ => hS) (fun w' => Ev.addIn rfl rfl (by omega)) rfl ?_;refine wk 8 rfl hS (fun _ _ => Ev.move rfl) (wk 9 rfl hS (fun _ _ => Ev.move rfl) (wk 10 rfl hS (fun _ _ => Ev.move rfl) (wk 11 rfl hS (fun _ _ => Ev.addIn rfl rfl (by omega)) (wk 12 rfl hS (fun _ _ => Ev.ixB ((b + i)) rfl rfl (by omega) (by omega)) (wk 13 rfl hS (fun _ hw' => Ev.load rfl rfl ((hi__r.keep0 hw').i64 (by first | omega | (simp; omega)))) ?_)))));refine WK.takeT 14 rfl (by kernel_rfl) (by kernel_rfl) (by kernel_rfl) (by kernel_rfl) (fun _ => hS) (fun w' => Ev.move rfl) rfl ?_;refine WK.takeT 15 rfl (by kernel_rfl) (by kernel_rfl) (by kernel_rfl) (by kernel_rfl) (fun _ => hS) (fun w' => Ev.move rfl) rfl ?_;refine WK.takeT 16 rfl (by kernel_rfl) (by kernel_rfl) (by kernel_rfl) (by kernel_rfl) (fun _ => hS) (fun w' => Ev.move rfl) rfl ?_;refine WK.takeT 17 rfl (by kernel_rfl) (by kernel_rfl) (by kernel_rfl) (by kernel_rfl) (fun _ => hS) (fun w' => Ev.addIn rfl rfl (by omega)) rfl ?_;refine WK.takeT 18 rfl (by kernel_rfl) (by kernel_rfl) (by kernel_rfl) (by kernel_rfl) (fun _ => hS) (fun w' => Ev.ixB ((a + i)) rfl rfl (by omega) (by omega)) rfl ?_;refine wk 19 rfl hS (fun _ hw' => Ev.load rfl rfl ((hi__r.keep0 hw').i64 (by first | omega | (simp; omega)))) (wk 20 rfl hS (fun _ _ => Ev.ixB ((a + i)) rfl rfl (by omega) (by omega)) ?_);refine WK.storeI 21 rfl (by kernel_rfl) (by kernel_rfl) rfl rfl hi_ (by first | omega | (simp; done) | (simp; omega)) fun ws1 hi__ hcs1 => ?_;have hch := hch.s1 hcs1;have hr := hr.keepOB hi_ hcs1 (by assumption);have hi_ := hi__;refine WK.after 22 rfl (by kernel_rfl) (by kernel_rfl) (Ev.ixB ((b + i)) rfl rfl (by omega) (by omega)) rfl ?_;refine WK.storeI 23 rfl (by kernel_rfl) (by kernel_rfl) rfl rfl hi_ (by first | omega | (simp; done) | (simp; omega)) fun ws2 hi__ hcs2 => ?_;have hch := hch.s1 hcs2;have hr := hr.keepOB hi_ hcs2 (by assumption);have hi_ := hi__;refine WK.done (by kernel_rfl) (kr7 _ _ _ ?_);refine kh6 ?_;refine zR fun _ kr8 => ?_;refine zm rfl ?_;(first | refine zi rfl rfl ?_ | refine zo rfl rfl ?_);refine za rfl ?_;refine WL.nil (kr8 _ _ _ ?_);refine ⟨rfl, (i + 1, sw cur (a + i) (b + i)), ?_, ?_, ?_⟩
   ·exact SLp
   ·have hs2 := hs.step (by omega) (by omega);exact ⟨by dsimp only; omega, hs2, hM2.of hi_ hr (sw_perm (by omega) (by omega) (by omega)), hch⟩
   ·show m - (i + 1) < m - i; omega
  ·have him : i = m := by omega
   subst him;refine CW.exit ?_;refine bodyA.norm0 rfl ?_;exact ⟨⟨cur, hs, hM2⟩, hch⟩

structure KRo (rb ba n a m b : Nat) (vL : Value) (L l : List Nat) (w0 : World) (g : Nat × Nat × List Nat) (w : World) : Prop where
  j : RtJ l a m b g.1 g.2.1 g.2.2
  m : SsM rb ba n vL L w g.2.2
  ch : Chg [ba] w0 w

theorem rotate_spec (rb ba n : Nat) (vL : Value) (L l : List Nat) (a m b : Nat) (w : World) (hM : SsM rb ba n vL L w l) (hn : n ≤ 70368744177664) (h1 : a < m) (h2 : m < b) (h3 : b ≤ n) : Ret Tryz.prog 350 [.slice (some ⟨ba, 0, none⟩) n n, .int .i64 (a : Int), .int .i64 (m : Int), .int .i64 (b : Int), CmpV rb] w fun _ w' => (∃ l', RtR l l' a m b ∧ SsM rb ba n vL L w' l') ∧ Chg [ba] w w' := by
 have hch : Chg [ba] w w := Chg.refl _ _;refine zE5 Tryz.func350 rfl ?_;refine Sr fun _ kh1 => zm rfl (zm rfl ?_);refine WL.ev (Ev.subIn rfl rfl (by omega)) rfl ?_;rw [show (m : Int) - (a : Int) = ((m - a : Nat) : Int) by omega];refine za rfl (zz (kh1 (Sr fun _ kh3 => zm rfl (zm rfl ?_))));refine WL.ev (Ev.subIn rfl rfl (by omega)) rfl ?_;rw [show (b : Int) - (m : Int) = ((b - m : Nat) : Int) by omega];refine za rfl (zz (kh3 (zc fun _ kh5 => ?_)));refine CW.block ?_;refine CW.loop (S := fun g : Nat × Nat × List Nat => [(0, .slice (some ⟨ba, 0, none⟩) n n), (2, .int .i64 (m : Int)), (4, CmpV rb), (10, .int .i64 (g.1 : Int)), (11, .int .i64 (g.2.1 : Int))]) (Inv := KRo rb ba n a m b vL L l w) (mu := fun g => g.1 + g.2.1) ((m - a, b - m, l)) ?_ ?_ ?_
 ·exact ⟨RtJ.start h1 h2, hM, hch⟩
 ·exact SLp
 ·rintro ⟨i, j, cur⟩ wr ⟨hj, hM2, hch⟩;dsimp only at hj hM2
  try dsimp only
  obtain ⟨j1, j2, j3, j4, j5, j6⟩ := id hj;have hlc := hM2.len;refine zc fun _ kh6 => Sr fun _ kh7 => zm rfl (zm rfl ?_);refine WL.ev (Ev.neq rfl rfl) rfl ?_;refine zz (kh7 ?_);refine zy rfl ?_ ?_<;>intro hc1<;>try simp only [qs] at hc1
  ·have hne : i ≠ j := by have := hc1; omega
   refine zkk ?_;refine kh6 ?_;refine CW.block ?_;refine Sr fun _ kh9 => zm rfl (zm rfl ?_);refine WL.ev (Ev.gtr rfl rfl) rfl ?_;refine zz (kh9 ?_);refine zy rfl ?_ ?_<;>intro hc2<;>try simp only [qs] at hc2
   ·have hgt : j < i := by have := hc2; omega
    refine Sr fun _ kh11 => zm rfl (zm rfl (zm rfl ?_));refine WL.ev (Ev.subIn rfl rfl (by omega)) rfl ?_;rw [show (m : Int) - (i : Int) = ((m - i : Nat) : Int) by omega];refine zm rfl (zm rfl (zm rfl ?_));refine WL.call hasF357 rfl rfl (swapRange_spec rb ba n vL L cur (m - i) (m) (j) _ hM2 hn (by omega) (by omega)) fun v w1 h' => ?_;obtain ⟨⟨l2, hsw, hM3⟩, hC⟩ := h';have hch := hch.step hC (fun y hy => .inl hy);refine zz (kh11 ?_);refine zR fun _ kr13 => ?_;refine zm rfl (zm rfl ?_);refine WL.ev (Ev.subIn rfl rfl (by omega)) rfl ?_;rw [show (i : Int) - (j : Int) = ((i - j : Nat) : Int) by omega];refine za rfl ?_;refine WL.nil (kr13 _ _ _ ?_);refine ⟨rfl, (i - j, j, l2), ?_, ?_, ?_⟩
    ·exact SLp
    ·exact ⟨hj.gt hgt hsw, hM3, hch⟩
    ·show i - j + j < i + j; omega
   ·have hlt : i < j := by have := hc2; omega
    refine Sr fun _ kh14 => zm rfl (zm rfl (zm rfl ?_));refine WL.ev (Ev.subIn rfl rfl (by omega)) rfl ?_;rw [show (m : Int) - (i : Int) = ((m - i : Nat) : Int) by omega];refine zm rfl (zm rfl ?_);(first | refine zi rfl rfl ?_ | refine zo rfl rfl ?_);refine zm rfl ?_;refine WL.ev (Ev.subIn rfl rfl (by omega)) rfl ?_;rw [show (m : Int) + (j : Int) - (i : Int) = ((m + j - i : Nat) : Int) by omega];refine zm rfl (zm rfl ?_);refine WL.call hasF357 rfl rfl (swapRange_spec rb ba n vL L cur (m - i) (m + j - i) (i) _ hM2 hn (by omega) (by omega)) fun v w2 h' => ?_;obtain ⟨⟨l2, hsw, hM3⟩, hC⟩ := h';have hch := hch.step hC (fun y hy => .inl hy);refine zz (kh14 ?_);refine zR fun _ kr16 => ?_;refine zm rfl (zm rfl ?_);refine WL.ev (Ev.subIn rfl rfl (by omega)) rfl ?_;rw [show (j : Int) - (i : Int) = ((j - i : Nat) : Int) by omega];refine za rfl ?_;refine WL.nil (kr16 _ _ _ ?_);refine ⟨rfl, (i, j - i, l2), ?_, ?_, ?_⟩
    ·exact SLp
    ·exact ⟨hj.lt hlt hsw, hM3, hch⟩
    ·show i + (j - i) < i + j; omega
  ·have heq : i = j := by have := hc1; omega
   subst heq;refine CW.exit ?_;refine kh5 ?_;refine zR fun _ kr17 => ?_;refine zm rfl (zm rfl (zm rfl ?_));refine WL.ev (Ev.subIn rfl rfl (by omega)) rfl ?_;rw [show (m : Int) - (i : Int) = ((m - i : Nat) : Int) by omega];refine zm rfl (zm rfl (zm rfl ?_));refine WL.call hasF357 rfl rfl (swapRange_spec rb ba n vL L cur (m - i) (m) (i) _ hM2 hn (by omega) (by omega)) fun v w3 h' => ?_;obtain ⟨⟨l2, hsw, hM3⟩, hC⟩ := h';have hch := hch.step hC (fun y hy => .inl hy);refine WL.nil (kr17 _ _ _ ?_);refine bodyA.norm0 rfl ?_;exact ⟨⟨l2, hj.eq hsw, hM3⟩, hch⟩

structure KIo (rb ba n a b : Nat) (vL : Value) (L l : List Nat) (w0 : World) (g : Nat × List Nat) (w : World) : Prop where
  h1 : a + 1 ≤ g.1
  h2 : g.1 ≤ b + 1
  s : Sm l g.2 a b
  so : So (kL L) g.2 a g.1
  m : SsM rb ba n vL L w g.2
  ch : Chg [ba] w0 w
structure KIi (rb ba n a b i : Nat) (vL : Value) (L l : List Nat) (w0 : World) (g : Nat × List Nat) (w : World) : Prop where
  h1 : a ≤ g.1
  h2 : g.1 ≤ i
  s : Sm l g.2 a b
  so : So1 (kL L) g.2 a i g.1
  m : SsM rb ba n vL L w g.2
  ch : Chg [ba] w0 w
theorem cmpI_lt {a b : Int} : cmpI a b < 0 ↔ a < b := cmpI_neg

theorem insertion_spec (rb ba n : Nat) (vL : Value) (L l : List Nat) (a b : Nat) (w : World) (hM : SsM rb ba n vL L w l) (hn : n ≤ 70368744177664) (h1 : a ≤ b) (h2 : b ≤ n) : Ret Tryz.prog 322 [.slice (some ⟨ba, 0, none⟩) n n, .int .i64 (a : Int), .int .i64 (b : Int), CmpV rb] w fun _ w' => (∃ l', Sm l l' a b ∧ So (kL L) l' a b ∧ SsM rb ba n vL L w' l') ∧ Chg [ba] w w' := by
 have hch : Chg [ba] w w := Chg.refl _ _;have htt : True := trivial;refine zE4 Tryz.func322 rfl ?_;refine Sr fun _ kh1 => zm rfl ?_;(first | refine zi rfl rfl ?_ | refine zo rfl rfl ?_);refine za rfl (zz (kh1 ?_));refine CW.block ?_;refine CW.loop (S := fun g : Nat × List Nat => [(0, .slice (some ⟨ba, 0, none⟩) n n), (1, .int .i64 (a : Int)), (2, .int .i64 (b : Int)), (3, CmpV rb), (8, .int .i64 (g.1 : Int))]) (Inv := KIo rb ba n a b vL L l w) (mu := fun g => b + 1 - g.1) ((a + 1, l)) ?_ ?_ ?_
 ·exact ⟨Nat.le_refl _, by dsimp only; omega, Sm.refl l a b, So.le1 (Nat.le_refl _), hM, hch⟩
 ·exact SLp
 ·rintro ⟨i, cur0⟩ wr ⟨hi1, hi2, hs0, hso, hM0, hch⟩;dsimp only at hi1 hi2 hs0 hso hM0
  try dsimp only
  refine zc fun _ kh3 => Sr fun _ kh4 => zm rfl (zm rfl ?_);refine WL.ev (Ev.lss rfl rfl) rfl ?_;refine zz (kh4 ?_);refine zy rfl ?_ ?_<;>intro hc1<;>try simp only [qs] at hc1
  ·refine zkk ?_
   refine kh3 (zc fun _ kh6 => ?_);refine CW.block ?_;refine Sr fun _ kh7 => zm rfl (za rfl (zz (kh7 ?_)));refine CW.block ?_;refine CW.loop (S := fun g : Nat × List Nat => [(0, .slice (some ⟨ba, 0, none⟩) n n), (1, .int .i64 (a : Int)), (2, .int .i64 (b : Int)), (3, CmpV rb), (8, .int .i64 (i : Int)), (9, .int .i64 (g.1 : Int))]) (Inv := KIi rb ba n a b i vL L l w) (mu := fun g => g.1) ((i, cur0)) ?_ ?_ ?_
   ·exact ⟨by dsimp only; omega, Nat.le_refl _, hs0, So1.start hso, hM0, hch⟩
   ·exact SLp
   ·rintro ⟨j, cur⟩ wr ⟨hj1, hj2, hs, hso1, hM2, hch⟩;dsimp only at hj1 hj2 hs hso1 hM2
    try dsimp only
    obtain ⟨hi_, hr, hlen, hlt0⟩ := id hM2;have hll := hM.len;have hlt_ : ∀ {x}, x < n → cur.getD x 0 < L.length := fun {x} hx => hM2.at_ hx;refine zc fun _ kh9 => ?_;refine CW.seqMC 34 (decide (a < j ∧ kL L (cur.getD j 0) < kL L (cur.getD (j - 1) 0))) ?_ ?_
    ·intro hcM;refine CW.regionHC 17 rfl hmix fun kR10 kr10 hS hdr => ?_;have hcM := hcM.ta hdr;have hi_ := hi_.keep0 hdr;have hr := hr.keep0 hdr;have hi__r := hi_;refine wh 0 rfl hS (fun _ _ => Ev.move rfl) (wh 1 rfl hS (fun _ _ => Ev.move rfl) (wh 2 rfl hS (fun _ _ => Ev.gtr rfl rfl) ?_))
     by_cases hja : a < j
     ·rw [decide_eq_true (show (a : Int) < (j : Int) by omega)];refine wh 3 rfl hS (fun _ _ => Ev.move rfl) ?_;refine WH.takeG 4 rfl (by kernel_rfl) (by kernel_rfl) (by kernel_rfl) rfl rfl rfl rfl hS (fun w' hw' => Ev.move rfl) rfl ?_;refine WH.takeG 5 rfl (by kernel_rfl) (by kernel_rfl) (by kernel_rfl) rfl rfl rfl rfl hS (fun w' hw' => Ev.move rfl) rfl ?_;refine WH.takeG 6 rfl (by kernel_rfl) (by kernel_rfl) (by kernel_rfl) rfl rfl rfl rfl hS (fun w' hw' => Ev.move rfl) rfl ?_;refine WH.takeG 7 rfl (by kernel_rfl) (by kernel_rfl) (by kernel_rfl) rfl rfl rfl rfl hS (fun w' hw' => Ev.ixB (j) rfl rfl (by omega) (by omega)) rfl ?_;refine WH.takeG 8 rfl (by kernel_rfl) (by kernel_rfl) (by kernel_rfl) rfl rfl rfl rfl hS (fun w' hw' => Ev.load rfl rfl ((hi__r.keep0 hw').i64 (by first | omega | (simp; omega)))) rfl ?_;refine WH.takeG 9 rfl (by kernel_rfl) (by kernel_rfl) (by kernel_rfl) rfl rfl rfl rfl hS (fun w' hw' => Ev.move rfl) rfl ?_;refine WH.takeG 10 rfl (by kernel_rfl) (by kernel_rfl) (by kernel_rfl) rfl rfl rfl rfl hS (fun w' hw' => Ev.move rfl) rfl ?_;refine WH.takeG 11 rfl (by kernel_rfl) (by kernel_rfl) (by kernel_rfl) rfl rfl rfl rfl hS (fun w' hw' => Ev.subIn rfl rfl (by omega)) rfl ?_;refine WH.takeG 12 rfl (by kernel_rfl) (by kernel_rfl) (by kernel_rfl) rfl rfl rfl rfl hS (fun w' hw' => Ev.ixB (j - 1) rfl rfl (by omega) (by omega)) rfl ?_;refine WH.takeG 13 rfl (by kernel_rfl) (by kernel_rfl) (by kernel_rfl) rfl rfl rfl rfl hS (fun w' hw' => Ev.load rfl rfl ((hi__r.keep0 hw').i64 (by first | omega | (simp; omega)))) rfl ?_;refine WH.oneCallBG 14 rfl (by kernel_rfl) rfl rfl rfl rfl hasF204 rfl rfl rfl (compare_spec rb ba n (cur.getD j 0) (cur.getD (j - 1) 0) vL L _ hr (hlt_ (by omega)) (hlt_ (by omega))) fun v w32 h' => ?_;obtain ⟨rfl, hC32⟩ := h';have hS := hS.ta hC32;refine ⟨hS, ?_⟩;have hcM := hcM.trans hC32;refine WH.takeG 15 rfl (by kernel_rfl) (by kernel_rfl) (by kernel_rfl) rfl rfl rfl rfl hS (fun w' hw' => Ev.lss rfl rfl) rfl ?_;refine wh 16 rfl hS (fun _ _ => Ev.pickT rfl rfl rfl) ?_;refine WH.done (by kernel_rfl) (kr10 _ _ _ ?_);refine ⟨rfl, hcM, Subs.consB rfl ?_ ?_⟩
      ·first | (simp_all; done) | (refine decide_eq_decide.2 ?_; rw [cmpI_lt]; exact ⟨fun z => ⟨hja, z⟩, fun z => z.2⟩) | (refine (decide_eq_false ?_).symm; exact fun z => hja z.1)
      ·exact SMg
     ·rw [decide_eq_false (show ¬ (a : Int) < (j : Int) by omega)];refine wh 3 rfl hS (fun _ _ => Ev.move rfl) ?_;refine WH.passG 4 rfl (by kernel_rfl) (by kernel_rfl) (by kernel_rfl) rfl rfl rfl rfl hS rfl ?_;refine WH.passG 5 rfl (by kernel_rfl) (by kernel_rfl) (by kernel_rfl) rfl rfl rfl rfl hS rfl ?_;refine WH.passG 6 rfl (by kernel_rfl) (by kernel_rfl) (by kernel_rfl) rfl rfl rfl rfl hS rfl ?_;refine WH.passG 7 rfl (by kernel_rfl) (by kernel_rfl) (by kernel_rfl) rfl rfl rfl rfl hS rfl ?_;refine WH.passG 8 rfl (by kernel_rfl) (by kernel_rfl) (by kernel_rfl) rfl rfl rfl rfl hS rfl ?_;refine WH.passG 9 rfl (by kernel_rfl) (by kernel_rfl) (by kernel_rfl) rfl rfl rfl rfl hS rfl ?_;refine WH.passG 10 rfl (by kernel_rfl) (by kernel_rfl) (by kernel_rfl) rfl rfl rfl rfl hS rfl ?_;refine WH.passG 11 rfl (by kernel_rfl) (by kernel_rfl) (by kernel_rfl) rfl rfl rfl rfl hS rfl ?_;refine WH.passG 12 rfl (by kernel_rfl) (by kernel_rfl) (by kernel_rfl) rfl rfl rfl rfl hS rfl ?_;refine WH.passG 13 rfl (by kernel_rfl) (by kernel_rfl) (by kernel_rfl) rfl rfl rfl rfl hS rfl ?_;refine WH.passG1 14 rfl (by kernel_rfl) rfl rfl rfl rfl hS rfl ?_;refine WH.passG 15 rfl (by kernel_rfl) (by kernel_rfl) (by kernel_rfl) rfl rfl rfl rfl hS rfl ?_;refine wh 16 rfl hS (fun _ _ => Ev.pickF rfl rfl rfl) ?_;refine WH.done (by kernel_rfl) (kr10 _ _ _ ?_);refine ⟨rfl, hcM, Subs.consB rfl ?_ ?_⟩
      ·first | (simp_all; done) | (refine decide_eq_decide.2 ?_; rw [cmpI_lt]; exact ⟨fun z => ⟨hja, z⟩, fun z => z.2⟩) | (refine (decide_eq_false ?_).symm; exact fun z => hja z.1)
      ·exact SMg
    ·intro wM hcM;have hch := hch.ta hcM;have hi_ := hi_.keep0 hcM;have hr := hr.keep0 hcM;refine zy rfl ?_ ?_<;>intro hc2<;>try simp only [qs] at hc2
     ·have hq : a < j ∧ kL L (cur.getD j 0) < kL L (cur.getD (j - 1) 0) := hc2
      have hja := hq.1;refine zkk ?_;refine kh9 (zc fun _ kh11 => ?_);refine CW.block ?_;refine CW.regionKC 15 18 rfl hmix fun kR12 kr12 hS hdr => ?_;have hch := hch.ta hdr;have hi_ := hi_.keep0 hdr;have hr := hr.keep0 hdr;have hi__r := hi_;refine wk 0 rfl hS (fun _ _ => Ev.move rfl) (wk 1 rfl hS (fun _ _ => Ev.move rfl) ?_);refine WK.takeT 2 rfl (by kernel_rfl) (by kernel_rfl) (by kernel_rfl) (by kernel_rfl) (fun _ => hS) (fun w' => Ev.move rfl) rfl ?_;refine WK.takeT 3 rfl (by kernel_rfl) (by kernel_rfl) (by kernel_rfl) (by kernel_rfl) (fun _ => hS) (fun w' => Ev.move rfl) rfl ?_;refine WK.takeT 4 rfl (by kernel_rfl) (by kernel_rfl) (by kernel_rfl) (by kernel_rfl) (fun _ => hS) (fun w' => Ev.subIn rfl rfl (by omega)) rfl ?_;refine wk 5 rfl hS (fun _ _ => Ev.move rfl) (wk 6 rfl hS (fun _ _ => Ev.move rfl) (wk 7 rfl hS (fun _ _ => Ev.subIn rfl rfl (by omega)) (wk 8 rfl hS (fun _ _ => Ev.ixB (j - 1) rfl rfl (by omega) (by omega)) (wk 9 rfl hS (fun _ hw' => Ev.load rfl rfl ((hi__r.keep0 hw').i64 (by first | omega | (simp; omega)))) ?_))));refine WK.takeT 10 rfl (by kernel_rfl) (by kernel_rfl) (by kernel_rfl) (by kernel_rfl) (fun _ => hS) (fun w' => Ev.move rfl) rfl ?_;refine WK.takeT 11 rfl (by kernel_rfl) (by kernel_rfl) (by kernel_rfl) (by kernel_rfl) (fun _ => hS) (fun w' => Ev.move rfl) rfl ?_;refine WK.takeT 12 rfl (by kernel_rfl) (by kernel_rfl) (by kernel_rfl) (by kernel_rfl) (fun _ => hS) (fun w' => Ev.ixB (j) rfl rfl (by omega) (by omega)) rfl ?_;refine wk 13 rfl hS (fun _ hw' => Ev.load rfl rfl ((hi__r.keep0 hw').i64 (by first | omega | (simp; omega)))) (wk 14 rfl hS (fun _ _ => Ev.ixB (j) rfl rfl (by omega) (by omega)) ?_);refine WK.storeI 15 rfl (by kernel_rfl) (by kernel_rfl) rfl rfl hi_ (by first | omega | (simp; done) | (simp; omega)) fun ws3 hi__ hcs3 => ?_;have hch := hch.s1 hcs3;have hr := hr.keepOB hi_ hcs3 (by assumption);have hi_ := hi__;refine WK.after 16 rfl (by kernel_rfl) (by kernel_rfl) (Ev.ixB (j - 1) rfl rfl (by omega) (by omega)) rfl ?_;refine WK.storeI 17 rfl (by kernel_rfl) (by kernel_rfl) rfl rfl hi_ (by first | omega | (simp; done) | (simp; omega)) fun ws4 hi__ hcs4 => ?_;have hch := hch.s1 hcs4;have hr := hr.keepOB hi_ hcs4 (by assumption);have hi_ := hi__;refine WK.done (by kernel_rfl) (kr12 _ _ _ ?_);refine kh11 ?_;refine zR fun _ kr13 => ?_;refine zm rfl ?_;refine WL.ev (Ev.subIn rfl rfl (by omega)) rfl ?_;rw [show (j : Int) - 1 = ((j - 1 : Nat) : Int) by omega];refine za rfl ?_;refine WL.nil (kr13 _ _ _ ?_);refine ⟨rfl, (j - 1, sw cur j (j - 1)), ?_, ?_, ?_⟩
      ·exact SLp
      ·exact ⟨by dsimp only; omega, by dsimp only; omega, hs.trans (sw_Sm (by omega) (by omega) (by omega) (by omega) (by omega) (by omega) (by omega)), hso1.step hj2 (by omega) hq.1 hq.2, hM2.of hi_ hr (sw_perm (by omega) (by omega) (by omega)), hch⟩
      ·show j - 1 < j; omega
     ·have hq : ¬ (a < j ∧ kL L (cur.getD j 0) < kL L (cur.getD (j - 1) 0)) := hc2
      have hsoN := hso1.stop hj2 (by rcases Nat.eq_or_lt_of_le hj1 with e | e; exact .inl e.symm; exact .inr ⟨e, fun z => hq ⟨e, z⟩⟩);have hM2 := SsM.of hM2 hi_ hr (.refl _);refine CW.exit ?_;refine kh6 ?_;refine zR fun _ kr14 => ?_;refine zm rfl ?_;(first | refine zi rfl rfl ?_ | refine zo rfl rfl ?_);refine za rfl ?_;refine WL.nil (kr14 _ _ _ ?_);refine ⟨rfl, (i + 1, cur), ?_, ?_, ?_⟩
      ·exact SLp
      ·exact ⟨by dsimp only; omega, by dsimp only; omega, hs, hsoN, hM2, hch⟩
      ·show b + 1 - (i + 1) < b + 1 - i; omega
  ·have hib : b ≤ i := by omega
   refine CW.exit ?_;refine bodyA.norm0 rfl ?_;exact ⟨⟨cur0, hs0, hso.sub (Nat.le_refl _) hib, hM0⟩, hch⟩

end

end Go.Proofs.YtnbipejaidbihaaGreatDoor