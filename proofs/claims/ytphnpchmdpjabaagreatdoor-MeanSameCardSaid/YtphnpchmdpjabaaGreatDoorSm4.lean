/- Part 4 of what the proof rests on. No condition. -/
import Derived.Test.YtphnpchmdpjabaaGreatDoorSm3
import GoSem.Core.Float
set_option linter.unusedVariables false
set_option linter.unusedSimpArgs false
/- Package root: about, digits. No condition. -/
namespace Go.Proofs.YtphnpchmdpjabaaGreatDoor
open Go Sx Wd
set_option exponentiation.threshold 5000

theorem wd_len_lift {q y k : Nat} (h : (wd q).length ≤ k) (hy : y ≤ 32 * k) : (wd (2 * (q * 2 ^ y))).length ≤ 2 * k + 1 := by
  rw [wd_length_le] at h ⊢
  have h1 : q * 2 ^ y < 2 ^ (32 * k) * 2 ^ (32 * k) := Nat.lt_of_lt_of_le (Nat.mul_lt_mul_of_pos_right h (Nat.two_pow_pos _)) (Nat.mul_le_mul_left _ (Nat.pow_le_pow_right (by decide) hy))
  rw [← Nat.pow_add] at h1
  have h2 : 2 * 2 ^ (32 * k + 32 * k) ≤ 2 ^ (32 * (2 * k + 1)) := by
    rw [← Nat.pow_succ']; exact Nat.pow_le_pow_right (by decide) (by omega)
  omega
theorem wd_len_small {n k : Nat} (h : n < 2 ^ k) (hk : k ≤ 262144) : (wd n).length ≤ 8192 := wd_len_gen h (by omega)
theorem bl_len {n k : Nat} (h : (wd n).length ≤ k) : bl n ≤ 32 * k := bl_le.2 (wd_length_le.1 h)
theorem bl_small {n k : Nat} (h : n < 2 ^ k) : bl n ≤ k := bl_le.2 h
/-- What about tells: size and a sticky bit. -/
def aboutM (m : Nat) (cut : Bool) : Nat := 2 * m + if cut then 1 else 0
def aboutE (e : Int) : Int := max (-3000) (min 3000 (e - 1))
theorem aboutM_lt {m : Nat} {cut : Bool} (h : m < 2 ^ 82) : aboutM m cut < 2 ^ 84 := by unfold aboutM; cases cut <;> simp <;> omega
theorem about_form {neg : Bool} {m : Nat} {cut : Bool} {e : Int} (h : m < 2 ^ 82) : ∃ d, formD neg (aboutM m cut) (aboutE e) = some d := by
  have h2 := aboutM_lt (cut := cut) h
  by_cases h0 : aboutM m cut = 0
  · rw [h0]; exact ⟨_, rfl⟩
  · have ht := tz_lt_bl h0
    have hb := bl_small h2
    have h3 := wd_len_small (Nat.lt_of_le_of_lt (Nat.div_le_self _ (2 ^ tz (aboutM m cut))) h2) (by decide)
    refine ⟨_, formD_some h0 ?_⟩
    unfold aboutE
    omega
def aboutD (neg : Bool) (m : Nat) (cut : Bool) (e : Int) : Dy := (formD neg (aboutM m cut) (aboutE e)).getD Dy.zero

set_option maxRecDepth 8000 in
theorem about_spec (neg : Bool) (v : Value) (m : Nat) (cut : Bool) (e : Int) (w : World) (h : NU w v (wd m)) (hg : GW w) (hm : m < 2 ^ 82) (he : -1099511627776 ≤ e ∧ e ≤ 1099511627776) : Ret Tryz.prog 188 [.bool neg, v, .bool cut, .int .i64 e] w fun u w' => DY w' u (aboutD neg m cut e) ∧ Chg [] w w' := by
 have hch : Chg [] w w := Chg.refl _ _
 have hb82 := bl_small hm
 have hl82 := wd_len_small hm (by decide)
 obtain ⟨dd, hdd⟩ := about_form (neg := neg) (cut := cut) (e := e) hm
 have hM84 := aboutM_lt (cut := cut) hm
 have hg0 := hg
 refine Ret.enter Tryz.func188 rfl rfl ?_
 simp only [args0, Nat.zero_add, Nat.reduceAdd]
 refine Sr fun _ kh1 => ?_
 refine WL.allocB (l := [.bool false, .slice none 0 0, .int .i64 0]) rfl rfl fun b8 wm8 hb8 hcm8 hge8 => ?_
 have hgehch8 := Nat.le_trans hch.size hge8
 have hch := hch.trans (Chg.any hcm8)
 have h := h.keep0 hcm8
 refine zz (kh1 (Sr fun _ kh3 => zm rfl ?_))
 refine WL.call hasF48 rfl rfl (Shift_spec _ _ 1 _ h (by omega)) fun v w1 h' => ?_
 obtain ⟨h', hC13⟩ := h'
 rw [val_wd, show shiftN m 1 = m * 2 ^ 1 from shiftN_pos m 1] at h'
 obtain ⟨_, r13, rfl, hN13⟩ := h'.resolve_right (fun q => q.1 ⟨hl82, .inr (by omega)⟩)
 have hch := hch.trans (Chg.any hC13)
 have hb8 := hb8.keep0 hC13
 have h := h.keep0 hC13
 refine zm rfl (zx rfl rfl (zx rfl rfl (za rfl (zz (kh3 (zc fun _ kh5 => Sr fun _ kh6 => zm rfl (zz (kh6 ?_))))))))
 refine CW.cond rfl (fun hc1 => ?_) (fun hc1 => ?_)
 ·
  try simp only [qs] at hc1
  have hcT : cut = true := hc1
  refine CW.region fun kR8 kr8 => ?_
  refine zm rfl ?_
  refine WL.call hasF46 rfl rfl (Of_spec 1 _ (by decide)) fun v w2 h' => ?_
  obtain ⟨hN19, hC19⟩ := h'
  have hch := hch.trans (Chg.any hC19)
  have hb8 := hb8.keep0 hC19
  have h := h.keep0 hC19
  have hN13 := hN13.keep0 hC19
  refine WL.call hasF201 rfl rfl (Add_spec _ _ _ _ _ hN13 hN19) fun v w3 h' => ?_
  obtain ⟨h', hC20⟩ := h'
  rw [val_wd, val_wd, show m * 2 ^ 1 + 1 = aboutM m cut by unfold aboutM; rw [hcT, if_pos rfl]; omega] at h'
  obtain ⟨_, _, _, r20, rfl, hN20⟩ := h'.resolve_right (fun q => q.1 ⟨wd_len_small (k := 84) (by omega) (by decide), wd_len_small (k := 84) (by decide) (by decide), wd_len_small hM84 (by decide)⟩)
  have hch := hch.trans (Chg.any hC20)
  have hb8 := hb8.keep0 hC20
  have h := h.keep0 hC20
  have hN13 := hN13.keep0 hC20
  have hN19 := hN19.keep0 hC20
  refine zm rfl (zx rfl rfl (zx rfl rfl (za rfl ?_)))
  refine WL.nil (kr8 _ _ _ (kh5 ?_))
  refine Sr fun _ kh9 => zm rfl (zm rfl (zm rfl ?_))
  refine WL.ev (Ev.subIn rfl rfl (by omega)) rfl ?_
  refine WL.ev (Ev.minI rfl rfl) rfl ?_
  refine WL.ev (Ev.maxI rfl rfl) rfl ?_
  rw [show max (-3000) (min 3000 (e - 1)) = aboutE e from rfl]
  have haE : -3000 ≤ aboutE e ∧ aboutE e ≤ 3000 := by unfold aboutE; omega
  refine WL.call hasF33 rfl rfl (Make_spec neg _ (wd (aboutM m cut)) (aboutE e) _ hN20 (hg0.keep0 hch) (by omega)) fun v w4 h' => ?_
  obtain ⟨hDR, hC30⟩ := h'
  rw [val_wd] at hDR
  have hsD : formD neg (aboutM m cut) (aboutE e) = some (aboutD neg m cut e) := by unfold aboutD; rw [hdd]; rfl
  rcases hDR with ⟨r, d2, he30, rfl, hN33⟩ | ⟨he30, _⟩
  rotate_left
  · rw [hsD] at he30; cases he30
  rw [hsD] at he30
  cases he30
  have hch := hch.trans (Chg.any hC30)
  have hb8 := hb8.keep0 hC30
  have h := h.keep0 hC30
  have hN13 := hN13.keep0 hC30
  have hN19 := hN19.keep0 hC30
  have hN20 := hN20.keep0 hC30
  refine zm rfl (zx rfl rfl (zx rfl rfl ?_))
  refine WL.allocB (l := [.bool false, .slice none 0 0, .int .i64 0]) rfl rfl fun b9 wm9 hb9 hcm9 hge9 => ?_
  have hgehch9 := Nat.le_trans hch.size hge9
  have hch := hch.trans (Chg.any hcm9)
  have h := h.keep0 hcm9
  have hN13 := hN13.keep0 hcm9
  have hN19 := hN19.keep0 hcm9
  have hN20 := hN20.keep0 hcm9
  have hN33 := hN33.keep0 hcm9
  have hneb89 : b8 ≠ b9 := by have := hb8.lt; omega
  have hb8 := hb8.keep0 hcm9
  refine WL.storeB rfl rfl rfl ao hb9 (by simp) rfl fun ws1 hb9_ hcs1 => ?_
  try simp only [Sx.splice, qt] at hb9_
  have hch := hch.s1 hcs1
  have hb8 := hb8.keep hcs1 (by simp; omega)
  have h := h.keepBK hb9 hcs1 an
  have hN13 := hN13.keepBK hb9 hcs1 an
  have hN19 := hN19.keepBK hb9 hcs1 an
  have hN20 := hN20.keepBK hb9 hcs1 an
  have hN33 := hN33.keepBK hb9 hcs1 an
  have hb9 := hb9_
  refine za rfl (zz (kh9 (Sr fun _ kh11 => zg hb9 rfl ?_)))
  refine WL.storeB rfl rfl rfl ao hb8 (by simp) rfl fun ws2 hb8_ hcs2 => ?_
  try simp only [Sx.splice, qt] at hb8_
  have hch := hch.s1 hcs2
  have hb9 := hb9.keep hcs2 (by simp; omega)
  have h := h.keepBK hb8 hcs2 an
  have hN13 := hN13.keepBK hb8 hcs2 an
  have hN19 := hN19.keepBK hb8 hcs2 an
  have hN20 := hN20.keepBK hb8 hcs2 an
  have hN33 := hN33.keepBK hb8 hcs2 an
  have hb8 := hb8_
  refine zz (kh11 ?_)
  refine CW.ret ?_
  refine bodyA.retR1 rfl (RVal.cell rfl (hb8.varA rfl rfl)) ?_
  exact ⟨⟨_, rfl, hN33⟩, hch⟩
 ·
  try simp only [qs] at hc1
  have hcF : cut = false := hc1
  have hN20 := hN13
  rw [show m * 2 ^ 1 = aboutM m cut by unfold aboutM; rw [hcF]; simp; omega] at hN20
  refine CW.skip ?_
  refine kh5 (Sr fun _ kh13 => zm rfl (zm rfl (zm rfl ?_)))
  refine WL.ev (Ev.subIn rfl rfl (by omega)) rfl ?_
  refine WL.ev (Ev.minI rfl rfl) rfl ?_
  refine WL.ev (Ev.maxI rfl rfl) rfl ?_
  rw [show max (-3000) (min 3000 (e - 1)) = aboutE e from rfl]
  have haE : -3000 ≤ aboutE e ∧ aboutE e ≤ 3000 := by unfold aboutE; omega
  refine WL.call hasF33 rfl rfl (Make_spec neg _ (wd (aboutM m cut)) (aboutE e) _ hN20 (hg0.keep0 hch) (by omega)) fun v w5 h' => ?_
  obtain ⟨hDR, hC30⟩ := h'
  rw [val_wd] at hDR
  have hsD : formD neg (aboutM m cut) (aboutE e) = some (aboutD neg m cut e) := by unfold aboutD; rw [hdd]; rfl
  rcases hDR with ⟨r, d2, he30, rfl, hN33⟩ | ⟨he30, _⟩
  rotate_left
  · rw [hsD] at he30; cases he30
  rw [hsD] at he30
  cases he30
  have hch := hch.trans (Chg.any hC30)
  have hb8 := hb8.keep0 hC30
  have h := h.keep0 hC30
  have hN13 := hN13.keep0 hC30
  have hN20 := hN20.keep0 hC30
  refine zm rfl (zx rfl rfl (zx rfl rfl ?_))
  refine WL.allocB (l := [.bool false, .slice none 0 0, .int .i64 0]) rfl rfl fun b9 wm9 hb9 hcm9 hge9 => ?_
  have hgehch9 := Nat.le_trans hch.size hge9
  have hch := hch.trans (Chg.any hcm9)
  have h := h.keep0 hcm9
  have hN13 := hN13.keep0 hcm9
  have hN20 := hN20.keep0 hcm9
  have hN33 := hN33.keep0 hcm9
  have hneb89 : b8 ≠ b9 := by have := hb8.lt; omega
  have hb8 := hb8.keep0 hcm9
  refine WL.storeB rfl rfl rfl ao hb9 (by simp) rfl fun ws3 hb9_ hcs3 => ?_
  try simp only [Sx.splice, qt] at hb9_
  have hch := hch.s1 hcs3
  have hb8 := hb8.keep hcs3 (by simp; omega)
  have h := h.keepBK hb9 hcs3 an
  have hN13 := hN13.keepBK hb9 hcs3 an
  have hN20 := hN20.keepBK hb9 hcs3 an
  have hN33 := hN33.keepBK hb9 hcs3 an
  have hb9 := hb9_
  refine za rfl (zz (kh13 (Sr fun _ kh15 => zg hb9 rfl ?_)))
  refine WL.storeB rfl rfl rfl ao hb8 (by simp) rfl fun ws4 hb8_ hcs4 => ?_
  try simp only [Sx.splice, qt] at hb8_
  have hch := hch.s1 hcs4
  have hb9 := hb9.keep hcs4 (by simp; omega)
  have h := h.keepBK hb8 hcs4 an
  have hN13 := hN13.keepBK hb8 hcs4 an
  have hN20 := hN20.keepBK hb8 hcs4 an
  have hN33 := hN33.keepBK hb8 hcs4 an
  have hb8 := hb8_
  refine zz (kh15 ?_)
  refine CW.ret ?_
  refine bodyA.retR1 rfl (RVal.cell rfl (hb8.varA rfl rfl)) ?_
  exact ⟨⟨_, rfl, hN33⟩, hch⟩

structure KDg (A0 B : Nat) (w0 : World) (vb : Value) (g : Nat × Nat × Nat × Value × Value) (w : World) : Prop where
  m : DigI A0 B g.1 g.2.1 g.2.2.1
  i : g.1 ≤ 82
  hs : NU w g.2.2.2.1 (wd g.2.1)
  ha : NU w g.2.2.2.2 (wd g.2.2.1)
  hb : NU w vb (wd B)
  ch : Chg [] w0 w
theorem dig_small {A0 B i size a : Nat} (h : DigI A0 B i size a) (h2 : A0 < 2 * B) : a ≤ 2 * B := by
  by_cases h0 : i = 0
  · have := (h.z h0).2; omega
  · have := (h.s (by omega)).2; omega

set_option maxRecDepth 8000 in
set_option maxHeartbeats 1000000 in
theorem digits_spec (vm vq : Value) (m q : Nat) (w : World) (hm : NU w vm (wd m)) (hq : NU w vq (wd q)) (hml : (wd m).length ≤ 8192) (hql : (wd q).length ≤ 8192) (hq0 : q ≠ 0) : Ret Tryz.prog 186 [vm, vq, .int .i64 82] w fun u w' => (∃ vs size a, u = .tuple [vs, .bool (decide (a ≠ 0)), .int .i64 ((bl m : Int) - (bl q : Int) - 81)].toArray ∧ NU w' vs (wd size) ∧ DigI (m * 2 ^ (max 0 (-((bl m : Int) - (bl q : Int)))).toNat) (q * 2 ^ (max 0 ((bl m : Int) - (bl q : Int))).toNat) 82 size a) ∧ Chg [] w w' := by
 have hch : Chg [] w w := Chg.refl _ _
 have hbm := bl_len hml
 have hbq := bl_len hql
 obtain ⟨x, hx⟩ : ∃ x, x = (max 0 (-((bl m : Int) - (bl q : Int)))).toNat := ⟨_, rfl⟩
 obtain ⟨y, hy⟩ : ∃ y, y = (max 0 ((bl m : Int) - (bl q : Int))).toNat := ⟨_, rfl⟩
 have hA2 : m * 2 ^ x < 2 * (q * 2 ^ y) := by
  by_cases h0 : m = 0
  · rw [h0, Nat.zero_mul]; have := Nat.mul_pos (show 0 < q by omega) (Nat.two_pow_pos y); omega
  · rw [hx, hy]; exact (digits_low h0 hq0 rfl).1
 rw [← hx, ← hy]
 have hBl := wd_len_lift hql (y := y) (by omega)
 obtain ⟨A0, hA0⟩ : ∃ A0, A0 = m * 2 ^ x := ⟨_, rfl⟩
 obtain ⟨B, hB⟩ : ∃ B, B = q * 2 ^ y := ⟨_, rfl⟩
 rw [← hA0] at hA2 ⊢
 rw [← hB] at hA2 hBl ⊢
 refine Ret.enter Tryz.func186 rfl rfl ?_
 simp only [args0, Nat.zero_add, Nat.reduceAdd]
 refine Sr fun _ kh1 => za rfl (za rfl (za rfl (zz (kh1 (Sr fun _ kh3 => zm rfl ?_)))))
 refine WL.call hasF96 rfl rfl (Len_spec _ _ _ hm) fun v w1 h' => ?_
 obtain ⟨rfl, rfl⟩ := h'
 rw [val_wd]
 refine zm rfl ?_
 refine WL.call hasF96 rfl rfl (Len_spec _ _ _ hq) fun v w2 h' => ?_
 obtain ⟨rfl, rfl⟩ := h'
 rw [val_wd]
 refine WL.ev (Ev.subIn rfl rfl (by omega)) rfl ?_
 refine za rfl (zz (kh3 (Sr fun _ kh5 => zm rfl (zm rfl ?_))))
 refine WL.ev (Ev.negIn rfl (by omega)) rfl ?_
 refine WL.ev (Ev.maxI rfl rfl) rfl ?_
 rw [show max 0 (-((bl m : Int) - (bl q : Int))) = ((x : Nat) : Int) by omega]
 refine WL.call hasF198 rfl rfl (lifted_spec _ _ x _ hm (by omega) (by omega)) fun v_22 w3 h' => ?_
 obtain ⟨ha, hC22⟩ := h'
 rw [val_wd, ← hA0] at ha
 have hch := hch.trans (Chg.any hC22)
 have hm := hm.keep0 hC22
 have hq := hq.keep0 hC22
 refine zm rfl (zm rfl ?_)
 refine WL.ev (Ev.maxI rfl rfl) rfl ?_
 rw [show max 0 ((bl m : Int) - (bl q : Int)) = ((y : Nat) : Int) by omega]
 refine WL.call hasF198 rfl rfl (lifted_spec _ _ y _ hq (by omega) (by omega)) fun v_26 w4 h' => ?_
 obtain ⟨hb, hC26⟩ := h'
 rw [val_wd, ← hB] at hb
 have hch := hch.trans (Chg.any hC26)
 have hm := hm.keep0 hC26
 have ha := ha.keep0 hC26
 have hq := hq.keep0 hC26
 refine za rfl (za rfl (zz (kh5 (zc fun _ kh7 => Sr fun _ kh8 => zm rfl (zm rfl (zz (kh8 ?_)))))))
 refine CW.block ?_
 refine CW.loop (S := fun g : Nat × Nat × Nat × Value × Value => [(2, .int .i64 82), (6, g.2.2.2.1), (9, .int .i64 ((bl m : Int) - (bl q : Int))), (10, g.2.2.2.2), (11, v_26), (27, .int .i64 82), (28, .int .i64 (g.1 : Int))]) (Inv := KDg A0 B w v_26) (mu := fun g => 82 - g.1) ((0, 0, A0, .slice none 0 0, v_22)) ?_ ?_ ?_
 ·
  exact ⟨DigI.zero _ _, Nat.zero_le _, by rw [wd_zero]; exact NU.nil, ha, hb, hch⟩
 ·
  exact SLp
 ·
  rintro ⟨i, size, a, vs, va⟩ wr ⟨hM, hi82, hs, ha, hb, hch⟩
  dsimp only at hM hi82 hs ha hb hch
  dsimp only
  have hal := wd_length_mono (dig_small hM hA2)
  refine Sr fun _ kh10 => ?_
  refine WL.ev (Ev.lss rfl rfl) rfl ?_
  refine zz (kh10 (zc fun _ kh12 => ?_))
  refine CW.cond rfl (fun hc1 => ?_) (fun hc1 => ?_)
  ·
   try simp only [qs] at hc1
   have hsz := hM.w
   have hp82 : 2 ^ i ≤ 2 ^ 82 := Nat.pow_le_pow_right (by decide) (by omega)
   have hs82 : size < 2 ^ 82 := by omega
   have hb82 := bl_small hs82
   have hl82 := wd_len_small hs82 (by decide)
   refine CW.skip ?_
   refine kh12 (zc fun _ kh13 => ?_)
   refine CW.block ?_
   refine Sr fun _ kh14 => zm rfl (za rfl (zz (kh14 (zc fun _ kh16 => Sr fun _ kh17 => zm rfl ?_))))
   refine WL.ev (Ev.gtr rfl rfl) rfl ?_
   refine zz (kh17 ?_)
   refine CW.cond rfl (fun hc2 => ?_) (fun hc2 => ?_)
   ·
    try simp only [qs] at hc2
    have hi0 : 0 < i := by omega
    refine CW.region fun kR19 kr19 => ?_
    refine zm rfl ?_
    refine WL.call hasF198 rfl rfl (lifted_spec _ _ 1 _ ha (by decide) (by omega)) fun v34 w5 h' => ?_
    obtain ⟨ha2, hC34⟩ := h'
    rw [val_wd] at ha2
    have hch := hch.trans (Chg.any hC34)
    have hs := hs.keep0 hC34
    have ha := ha.keep0 hC34
    have hb := hb.keep0 hC34
    refine za rfl ?_
    refine WL.nil (kr19 _ _ _ (kh16 ?_))
    refine Sr fun _ kh20 => zm rfl ?_
    refine WL.call hasF48 rfl rfl (Shift_spec _ _ 1 _ hs (by omega)) fun v w6 h' => ?_
    obtain ⟨h', hC37⟩ := h'
    rw [val_wd, show shiftN size 1 = size * 2 ^ 1 from shiftN_pos size 1] at h'
    obtain ⟨_, r37, rfl, hN37⟩ := h'.resolve_right (fun q => q.1 ⟨hl82, .inr (by omega)⟩)
    have hch := hch.trans (Chg.any hC37)
    have ha := ha.keep0 hC37
    have hs := hs.keep0 hC37
    have ha2 := ha2.keep0 hC37
    have hb := hb.keep0 hC37
    refine zm rfl (zx rfl rfl (zx rfl rfl (za rfl (zz (kh20 (Sr fun _ kh22 => zm rfl (zm rfl ?_)))))))
    refine WL.call hasF199 rfl rfl (compared_spec _ _ (a * 2 ^ 1) B _ ha2 hb) fun v w7 h' => ?_
    obtain ⟨rfl, hC42⟩ := h'
    have hch := hch.trans (Chg.any hC42)
    have ha := ha.keep0 hC42
    have hs := hs.keep0 hC42
    have ha2 := ha2.keep0 hC42
    have hb := hb.keep0 hC42
    have hN37 := hN37.keep0 hC42
    refine WL.ev (Ev.geq rfl rfl) rfl ?_
    refine zz (kh22 ?_)
    refine CW.cond rfl (fun hc3 => ?_) (fun hc3 => ?_)
    ·
     try simp only [qs] at hc3
     have hge : B ≤ a * 2 ^ 1 := Nat.le_of_not_lt fun hlt => by unfold sgn at hc3; rw [if_pos hlt] at hc3; omega
     have hst := hM.step (a' := a * 2 ^ 1) hA2 (by rw [if_pos hi0])
     refine Sr fun _ kh24 => zm rfl (zm rfl ?_)
     refine WL.call hasF200 rfl rfl (rless_spec _ _ _ _ _ ha2 hb (by rw [val_wd, val_wd]; exact hge)) fun v46 w8 h' => ?_
     obtain ⟨hN46, hC46⟩ := h'
     rw [val_wd, val_wd] at hN46
     have hch := hch.trans (Chg.any hC46)
     have ha := ha.keep0 hC46
     have hs := hs.keep0 hC46
     have ha2 := ha2.keep0 hC46
     have hb := hb.keep0 hC46
     have hN37 := hN37.keep0 hC46
     refine za rfl (zz (kh24 ?_))
     refine CW.region fun kR26 kr26 => ?_
     refine zm rfl ?_
     refine WL.call hasF46 rfl rfl (Of_spec 1 _ (by decide)) fun v w9 h' => ?_
     obtain ⟨hN49, hC49⟩ := h'
     have hch := hch.trans (Chg.any hC49)
     have ha := ha.keep0 hC49
     have hs := hs.keep0 hC49
     have ha2 := ha2.keep0 hC49
     have hN46 := hN46.keep0 hC49
     have hb := hb.keep0 hC49
     have hN37 := hN37.keep0 hC49
     refine WL.call hasF201 rfl rfl (Add_spec _ _ _ _ _ hN37 hN49) fun v w10 h' => ?_
     obtain ⟨h', hC50⟩ := h'
     rw [val_wd, val_wd] at h'
     obtain ⟨_, _, _, r50, rfl, hN50⟩ := h'.resolve_right (fun q => q.1 ⟨wd_len_small (k := 84) (by omega) (by decide), wd_len_small (k := 84) (by decide) (by decide), wd_len_small (k := 84) (by omega) (by decide)⟩)
     have hch := hch.trans (Chg.any hC50)
     have ha := ha.keep0 hC50
     have hs := hs.keep0 hC50
     have ha2 := ha2.keep0 hC50
     have hN46 := hN46.keep0 hC50
     have hb := hb.keep0 hC50
     have hN37 := hN37.keep0 hC50
     have hN49 := hN49.keep0 hC50
     refine zm rfl (zx rfl rfl (zx rfl rfl (za rfl ?_)))
     refine WL.nil (kr26 _ _ _ (kh13 ?_))
     refine CW.region fun kR27 kr27 => ?_
     first | refine WL.ev (Ev.addIn rfl rfl (by omega)) rfl ?_ | refine WL.ev (Ev.add rfl rfl) rfl ?_
     refine zm rfl ?_
     refine WL.nil (kr27 _ _ _ ?_)
     refine ⟨rfl, (i + 1, size * 2 ^ 1 + 1, a * 2 ^ 1 - B, r50, v46), ?_, ?_, ?_⟩
     ·
      exact SLp
     ·
      exact ⟨hst.1 hge, by show i + 1 ≤ 82; omega, hN50, hN46, hb, hch⟩
     ·
      show 82 - (i + 1) < 82 - i; omega
    ·
     try simp only [qs] at hc3
     have hlt : a * 2 ^ 1 < B := Nat.lt_of_not_le fun hle => by unfold sgn at hc3; rw [if_neg (by omega)] at hc3; split at hc3 <;> omega
     have hst := hM.step (a' := a * 2 ^ 1) hA2 (by rw [if_pos hi0])
     refine CW.skip ?_
     refine kh13 ?_
     refine CW.region fun kR28 kr28 => ?_
     first | refine WL.ev (Ev.addIn rfl rfl (by omega)) rfl ?_ | refine WL.ev (Ev.add rfl rfl) rfl ?_
     refine zm rfl ?_
     refine WL.nil (kr28 _ _ _ ?_)
     refine ⟨rfl, (i + 1, size * 2 ^ 1, a * 2 ^ 1, r37, v34), ?_, ?_, ?_⟩
     ·
      exact SLp
     ·
      exact ⟨hst.2 hlt, by show i + 1 ≤ 82; omega, hN37, ha2, hb, hch⟩
     ·
      show 82 - (i + 1) < 82 - i; omega
   ·
    try simp only [qs] at hc2
    have hi0 : i = 0 := by omega
    refine CW.skip ?_
    refine kh16 (Sr fun _ kh29 => zm rfl ?_)
    refine WL.call hasF48 rfl rfl (Shift_spec _ _ 1 _ hs (by omega)) fun v w11 h' => ?_
    obtain ⟨h', hC37⟩ := h'
    rw [val_wd, show shiftN size 1 = size * 2 ^ 1 from shiftN_pos size 1] at h'
    obtain ⟨_, r37, rfl, hN37⟩ := h'.resolve_right (fun q => q.1 ⟨hl82, .inr (by omega)⟩)
    have hch := hch.trans (Chg.any hC37)
    have hs := hs.keep0 hC37
    have ha := ha.keep0 hC37
    have hb := hb.keep0 hC37
    refine zm rfl (zx rfl rfl (zx rfl rfl (za rfl (zz (kh29 (Sr fun _ kh31 => zm rfl (zm rfl ?_)))))))
    refine WL.call hasF199 rfl rfl (compared_spec _ _ (a) B _ ha hb) fun v w12 h' => ?_
    obtain ⟨rfl, hC42⟩ := h'
    have hch := hch.trans (Chg.any hC42)
    have hs := hs.keep0 hC42
    have ha := ha.keep0 hC42
    have hb := hb.keep0 hC42
    have hN37 := hN37.keep0 hC42
    refine WL.ev (Ev.geq rfl rfl) rfl ?_
    refine zz (kh31 ?_)
    refine CW.cond rfl (fun hc4 => ?_) (fun hc4 => ?_)
    ·
     try simp only [qs] at hc4
     have hge : B ≤ a := Nat.le_of_not_lt fun hlt => by unfold sgn at hc4; rw [if_pos hlt] at hc4; omega
     have hst := hM.step (a' := a) hA2 (by rw [if_neg (by omega)])
     refine Sr fun _ kh33 => zm rfl (zm rfl ?_)
     refine WL.call hasF200 rfl rfl (rless_spec _ _ _ _ _ ha hb (by rw [val_wd, val_wd]; exact hge)) fun v46 w13 h' => ?_
     obtain ⟨hN46, hC46⟩ := h'
     rw [val_wd, val_wd] at hN46
     have hch := hch.trans (Chg.any hC46)
     have hs := hs.keep0 hC46
     have ha := ha.keep0 hC46
     have hb := hb.keep0 hC46
     have hN37 := hN37.keep0 hC46
     refine za rfl (zz (kh33 ?_))
     refine CW.region fun kR35 kr35 => ?_
     refine zm rfl ?_
     refine WL.call hasF46 rfl rfl (Of_spec 1 _ (by decide)) fun v w14 h' => ?_
     obtain ⟨hN49, hC49⟩ := h'
     have hch := hch.trans (Chg.any hC49)
     have hs := hs.keep0 hC49
     have ha := ha.keep0 hC49
     have hN46 := hN46.keep0 hC49
     have hb := hb.keep0 hC49
     have hN37 := hN37.keep0 hC49
     refine WL.call hasF201 rfl rfl (Add_spec _ _ _ _ _ hN37 hN49) fun v w15 h' => ?_
     obtain ⟨h', hC50⟩ := h'
     rw [val_wd, val_wd] at h'
     obtain ⟨_, _, _, r50, rfl, hN50⟩ := h'.resolve_right (fun q => q.1 ⟨wd_len_small (k := 84) (by omega) (by decide), wd_len_small (k := 84) (by decide) (by decide), wd_len_small (k := 84) (by omega) (by decide)⟩)
     have hch := hch.trans (Chg.any hC50)
     have hs := hs.keep0 hC50
     have ha := ha.keep0 hC50
     have hN46 := hN46.keep0 hC50
     have hb := hb.keep0 hC50
     have hN37 := hN37.keep0 hC50
     have hN49 := hN49.keep0 hC50
     refine zm rfl (zx rfl rfl (zx rfl rfl (za rfl ?_)))
     refine WL.nil (kr35 _ _ _ (kh13 ?_))
     refine CW.region fun kR36 kr36 => ?_
     first | refine WL.ev (Ev.addIn rfl rfl (by omega)) rfl ?_ | refine WL.ev (Ev.add rfl rfl) rfl ?_
     refine zm rfl ?_
     refine WL.nil (kr36 _ _ _ ?_)
     refine ⟨rfl, (i + 1, size * 2 ^ 1 + 1, a - B, r50, v46), ?_, ?_, ?_⟩
     ·
      exact SLp
     ·
      exact ⟨hst.1 hge, by show i + 1 ≤ 82; omega, hN50, hN46, hb, hch⟩
     ·
      show 82 - (i + 1) < 82 - i; omega
    ·
     try simp only [qs] at hc4
     have hlt : a < B := Nat.lt_of_not_le fun hle => by unfold sgn at hc4; rw [if_neg (by omega)] at hc4; split at hc4 <;> omega
     have hst := hM.step (a' := a) hA2 (by rw [if_neg (by omega)])
     refine CW.skip ?_
     refine kh13 ?_
     refine CW.region fun kR37 kr37 => ?_
     first | refine WL.ev (Ev.addIn rfl rfl (by omega)) rfl ?_ | refine WL.ev (Ev.add rfl rfl) rfl ?_
     refine zm rfl ?_
     refine WL.nil (kr37 _ _ _ ?_)
     refine ⟨rfl, (i + 1, size * 2 ^ 1, a, r37, va), ?_, ?_, ?_⟩
     ·
      exact SLp
     ·
      exact ⟨hst.2 hlt, by show i + 1 ≤ 82; omega, hN37, ha, hb, hch⟩
     ·
      show 82 - (i + 1) < 82 - i; omega
  ·
   try simp only [qs] at hc1
   have hi82e : i = 82 := by omega
   subst hi82e
   refine CW.exit ?_
   refine kh7 (Sr fun _ kh38 => zm rfl (zm rfl ?_))
   obtain ⟨aa, ca, rfl, hcapa, hra⟩ := ha.ex
   have hla := wd_length_pos (n := a)
   refine zn rfl ?_
   refine WL.ev (Ev.gtr rfl rfl) rfl ?_
   rw [show decide ((0 : Int) < (((wd a).length : Nat) : Int)) = decide (a ≠ 0) from decide_eq_decide.2 (by omega)]
   refine zm rfl (zm rfl ?_)
   refine WL.ev (Ev.subIn rfl rfl (by omega)) rfl ?_
   refine WL.ev (Ev.subIn rfl rfl (by omega)) rfl ?_
   refine za rfl (za rfl (za rfl (zz (kh38 ?_))))
   refine CW.ret ?_
   refine bodyA.ret3 rfl rfl rfl rfl ?_
   exact ⟨⟨_, size, a, rfl, hs, hM⟩, hch⟩

end Go.Proofs.YtphnpchmdpjabaaGreatDoor

/- Package root: quotient. No condition. -/
namespace Go.Proofs.YtphnpchmdpjabaaGreatDoor
open Go Sx Wd
set_option exponentiation.threshold 5000

set_option maxRecDepth 8000 in
set_option maxHeartbeats 1000000 in
theorem quotient_spec (nn nd : Bool) (vn vd : Value) (m q : Nat) (en ed : Int) (w : World) (hm : NU w vn (wd m)) (hq : NU w vd (wd q)) (hml : (wd m).length ≤ 8192) (hql : (wd q).length ≤ 8192) (hq0 : q ≠ 0) (hen : -1048576 ≤ en ∧ en ≤ 1048576) (hed : -1048576 ≤ ed ∧ ed ≤ 1048576) (hg : GW w) : Ret Tryz.prog 157 [.agg [.bool nn, vn, .int .i64 en, .bool nd, vd, .int .i64 ed].toArray] w fun u w' => (∃ size a, DY w' u (aboutD nn size (decide (a ≠ 0)) (((bl m : Int) - (bl q : Int)) - 81 + en - ed)) ∧ DigI (m * 2 ^ (max 0 (-((bl m : Int) - (bl q : Int)))).toNat) (q * 2 ^ (max 0 ((bl m : Int) - (bl q : Int))).toNat) 82 size a) ∧ Chg [] w w' := by
 have hch : Chg [] w w := Chg.refl _ _
 have hom := hm.one
 have hoq := hq.one
 have hbm := bl_len hml
 have hbq := bl_len hql
 have hg0 := hg
 refine Ret.enter Tryz.func157 rfl rfl ?_
 simp only [args0, Nat.zero_add, Nat.reduceAdd]
 refine Sr fun _ kh1 => ?_
 refine WL.boxB rfl rfl rfl fun b1 wm1 hb1 hcm1 hge1 => ?_
 have hgehch1 := Nat.le_trans hch.size hge1
 have hch := hch.trans (Chg.any hcm1)
 have hm := hm.keep0 hcm1
 have hq := hq.keep0 hcm1
 refine WL.allocB (l := [.bool false, .slice none 0 0, .int .i64 0]) rfl rfl fun b2 wm2 hb2 hcm2 hge2 => ?_
 have hgehch2 := Nat.le_trans hch.size hge2
 have hch := hch.trans (Chg.any hcm2)
 have hm := hm.keep0 hcm2
 have hq := hq.keep0 hcm2
 have hneb12 : b1 ≠ b2 := by have := hb1.lt; omega
 have hb1 := hb1.keep0 hcm2
 refine zz (kh1 (zc fun _ kh3 => ?_))
 refine CW.regionHC 16 rfl hmix fun kR4 kr4 hS hdr => ?_
 have hch := hch.trans (Chg.any hdr)
 have hb1 := hb1.keep0 hdr
 have hb2 := hb2.keep0 hdr
 have hm := hm.keep0 hdr
 have hq := hq.keep0 hdr
 have hch_r := hch
 have hb1_r := hb1
 have hb2_r := hb2
 refine wh 0 rfl hS (fun _ _ => Ev.fieldAddr rfl) (wh 1 rfl hS (fun _ _ => Ev.fieldAddr rfl) (wh 2 rfl hS (fun _ hw' => Ev.load rfl rfl ((hb1_r.keep0 hw').at_ rfl)) (wh 4 rfl hS (fun _ _ => Ev.fieldAddr rfl) (wh 5 rfl hS (fun _ _ => Ev.fieldAddr rfl) (wh 6 rfl hS (fun _ hw' => Ev.load rfl rfl ((hb1_r.keep0 hw').at_ rfl)) ?_)))))
 refine WH.oneCall 3 rfl (by kernel_rfl) hasF185 rfl rfl (trimmed_spec _ _ _ hm) fun v10 w1 h' => ?_
 obtain ⟨hN10, rfl⟩ := h'
 rw [val_wd] at hN10
 refine ⟨hS, ?_⟩
 refine WH.oneCall 7 rfl (by kernel_rfl) hasF185 rfl rfl (trimmed_spec _ _ _ hq) fun v14 w2 h' => ?_
 obtain ⟨hN14, rfl⟩ := h'
 rw [val_wd] at hN14
 refine ⟨hS, ?_⟩
 refine WH.oneCall 8 rfl (by kernel_rfl) hasF186 rfl rfl (digits_spec _ _ m q _ hN10 hN14 hml hql hq0) fun v w3 h' => ?_
 obtain ⟨⟨vs, size, a, rfl, hNs, hDg⟩, hC15⟩ := h'
 have hch := hch.trans (Chg.any hC15)
 have hb1 := hb1.keep0 hC15
 have hb2 := hb2.keep0 hC15
 have hm := hm.keep0 hC15
 have hq := hq.keep0 hC15
 have hN10 := hN10.keep0 hC15
 have hN14 := hN14.keep0 hC15
 have hS := hS.trans hC15
 refine ⟨hS, ?_⟩
 refine wh 9 rfl hS (fun _ _ => Ev.move rfl) (wh 10 rfl hS (fun _ _ => Ev.extract rfl rfl) (wh 11 rfl hS (fun _ _ => Ev.extract rfl rfl) (wh 12 rfl hS (fun _ _ => Ev.extract rfl rfl) (wh 13 rfl hS (fun _ _ => Ev.assign rfl) (wh 14 rfl hS (fun _ _ => Ev.assign rfl) (wh 15 rfl hS (fun _ _ => Ev.assign rfl) ?_))))))
 refine WH.done (by kernel_rfl) (kr4 _ _ _ ?_)
 refine kh3 (Sr fun _ kh5 => zf rfl (zf rfl (zl hb1 rfl rfl (zm rfl (zm rfl (zm rfl (zf rfl (zf rfl (zl hb1 rfl rfl ?_)))))))))
 refine WL.ev (Ev.addIn rfl rfl (by omega)) rfl ?_
 refine zf rfl (zf rfl (zl hb1 rfl rfl ?_))
 refine WL.ev (Ev.subIn rfl rfl (by omega)) rfl ?_
 refine WL.call hasF188 rfl rfl (about_spec nn _ size (decide (a ≠ 0)) (((bl m : Int) - (bl q : Int)) - 81 + en - ed) _ hNs (hg0.keep0 hch) hDg.w (by omega)) fun v w4 h' => ?_
 obtain ⟨⟨rr, rfl, hNr⟩, hC33⟩ := h'
 have hch := hch.trans (Chg.any hC33)
 have hb1 := hb1.keep0 hC33
 have hb2 := hb2.keep0 hC33
 have hm := hm.keep0 hC33
 have hq := hq.keep0 hC33
 have hN10 := hN10.keep0 hC33
 have hN14 := hN14.keep0 hC33
 have hNs := hNs.keep0 hC33
 refine WL.storeB rfl rfl rfl ao hb2 (by simp) rfl fun ws1 hb2_ hcs1 => ?_
 try simp only [Sx.splice, qt] at hb2_
 have hch := hch.s1 hcs1
 have hb1 := hb1.keep hcs1 (by simp; omega)
 have hm := hm.keepBK hb2 hcs1 an
 have hq := hq.keepBK hb2 hcs1 an
 have hN10 := hN10.keepBK hb2 hcs1 an
 have hN14 := hN14.keepBK hb2 hcs1 an
 have hNs := hNs.keepBK hb2 hcs1 an
 have hNr := hNr.keepBK hb2 hcs1 an
 have hb2 := hb2_
 refine zz (kh5 ?_)
 refine CW.ret ?_
 refine bodyA.retR1 rfl (RVal.cell rfl (hb2.varA rfl rfl)) ?_
 exact ⟨⟨size, a, ⟨rr, rfl, hNr⟩, hDg⟩, hch⟩

end Go.Proofs.YtphnpchmdpjabaaGreatDoor

/- Package root: forms. No condition. -/
namespace Go.Proofs.YtphnpchmdpjabaaGreatDoor
open Go Sx Wd
set_option exponentiation.threshold 5000

/-- Cells from an address on. -/
def RC (w : World) (ad : Addr) (l : List Value) : Prop := ∀ j v, l[j]? = some v → w.cell? (ad.add j) = some v
theorem RC.keep0 {w w' : World} {ad : Addr} {l : List Value} (h : RC w ad l) (hc : Chg [] w w') : RC w' ad l := fun j v hv => hc.cell (h j v hv) (by simp)
theorem RC.lt {w : World} {g : Nat} {l : List Value} (h : RC w ⟨g, 0, none⟩ l) (hl : 0 < l.length) : g < w.heap.size := by
  have h0 := h 0 _ (List.getElem?_eq_getElem hl)
  rw [add_addr] at h0
  apply Nat.lt_of_not_le
  intro hle
  have : w.heap[g]? = none := Array.getElem?_eq_none hle
  simp [World.cell?, this] at h0
theorem RC.keepBK {w w' : World} {g b : Nat} {T : TypeId} {l cs : List Value} (h : RC w ⟨g, 0, none⟩ l) (hb : BK w b T cs) (hc : Chg [b] w w') (_ : ∀ c ∈ cs, isU32 c = false) (hne : g ≠ b := by omega) : RC w' ⟨g, 0, none⟩ l := fun j v hv => hc.cell (h j v hv) (by rw [add_addr]; simpa using hne)
theorem RC.of_BK {w : World} {b : Nat} {T : TypeId} {l : List Value} (h : BK w b T l) : RC w ⟨b, 0, none⟩ l := fun j v hv => by rw [add_addr, Nat.zero_add]; exact h.at_ hv
def ratC (dx dy : Dy) (rx ry : Value) : List Value := [.bool dx.neg, rx, .int .i64 dx.e, .bool dy.neg, ry, .int .i64 dy.e]
/-- What forms answers for one ratio. -/
def FmR (w : World) (u : Value) (x y : Option Dy) (sg : Int) : Prop :=
  (sg < 0 ∧ u = .tuple [.slice none 0 0, .int .i64 1].toArray) ∨
  (0 ≤ sg ∧ (x = none ∨ y = none) ∧ u = .tuple [.slice none 0 0, .int .i64 2].toArray) ∨
  (0 ≤ sg ∧ ∃ dx dy, x = some dx ∧ y = some dy ∧ dy.m = 0 ∧ u = .tuple [.slice none 0 0, .int .i64 21].toArray) ∨
  (0 ≤ sg ∧ ∃ dx dy, x = some dx ∧ y = some dy ∧ dy.m ≠ 0 ∧ ∃ g c rx ry, u = .tuple [.slice (some ⟨g, 0, none⟩) 1 c, .int .i64 0].toArray ∧ RC w ⟨g, 0, none⟩ (ratC dx dy rx ry) ∧ NU w rx (wd dx.m) ∧ NU w ry (wd dy.m))
structure KF1 (sg : Int) (w0 : World) (i : Nat) (w : World) : Prop where
  hi : i ≤ 1
  s : i = 1 → 0 ≤ sg
  ch : Chg [] w0 w
structure KF2 (x y : Option Dy) (w0 : World) (g : Nat × Value) (w : World) : Prop where
  hi : g.1 ≤ 1
  z : g.1 = 0 → g.2 = .slice none 0 0
  o : g.1 = 1 → ∃ dx dy ad c rx ry, x = some dx ∧ y = some dy ∧ g.2 = .slice (some ⟨ad, 0, none⟩) 1 c ∧ RC w ⟨ad, 0, none⟩ (ratC dx dy rx ry) ∧ NU w rx (wd dx.m) ∧ NU w ry (wd dy.m)
  ch : Chg [] w0 w
structure KF3 (dx dy : Dy) (rx ry : Value) (ad : Nat) (w0 : World) (i : Nat) (w : World) : Prop where
  hi : i ≤ 1
  z : i = 1 → dy.m ≠ 0
  rc : RC w ⟨ad, 0, none⟩ (ratC dx dy rx ry)
  hx : NU w rx (wd dx.m)
  hy : NU w ry (wd dy.m)
  ch : Chg [] w0 w
theorem sgD_zero {neg : Bool} {n : Nat} : sgD neg n = 0 ↔ n = 0 := by
  unfold sgD
  by_cases h : n = 0
  · rw [if_pos h]; simp [h]
  · rw [if_neg h]; cases neg <;> simp [h]

set_option maxRecDepth 8000 in
set_option maxHeartbeats 2000000 in
theorem forms_spec (b : Nat) (nn nd : Bool) (vn vd : Value) (ln ld : List Nat) (en ed : Int) (w : World) (hB : BK w b 73 [.bool nn, vn, .int .i64 en, .bool nd, vd, .int .i64 ed]) (hn : NU w vn ln) (hd : NU w vd ld) (hg : GW w) (hen : -9223372036854775808 ≤ en ∧ en ≤ 9223372036854775807) (hed : -9223372036854775808 ≤ ed ∧ ed ≤ 9223372036854775807) : Ret Tryz.prog 155 [.slice (some ⟨b, 0, none⟩) 1 1] w fun u w' => FmR w' u (formD nn (val ln) en) (formD nd (val ld) ed) (sgD nd (val ld)) ∧ Chg [] w w' := by
 have hch : Chg [] w w := Chg.refl _ _
 have hB0 := hB
 have hn0 := hn
 have hd0 := hd
 have hon := hn.one
 have hod := hd.one
 have hg0 := hg
 refine Ret.enter Tryz.func155 rfl rfl ?_
 simp only [args0, Nat.zero_add, Nat.reduceAdd]
 refine Sr fun _ kh1 => za rfl (za rfl (zz (kh1 (zc fun _ kh3 => Sr fun _ kh4 => zm rfl (zn rfl (zm rfl (zz (kh4 ?_))))))))
 refine CW.block ?_
 refine CW.loop (S := fun i : Nat => [(0, .slice (some ⟨b, 0, none⟩) 1 1), (15, .slice (some ⟨b, 0, none⟩) 1 1), (16, .int .i64 1), (17, .int .i64 (i : Int))]) (Inv := KF1 (sgD nd (val ld)) w) (mu := fun i => 1 - i) (0) ?_ ?_ ?_
 ·
  exact ⟨by decide, fun h => (by cases h), hch⟩
 ·
  exact SLp
 ·
  rintro i wr ⟨hi1, hs1, hch⟩
  have hB := hB0.keep0 hch
  have hn := hn0.keep0 hch
  have hd := hd0.keep0 hch
  refine Sr fun _ kh6 => ?_
  refine WL.ev (Ev.lss rfl rfl) rfl ?_
  refine zz (kh6 (zc fun _ kh8 => ?_))
  refine CW.cond rfl (fun hc1 => ?_) (fun hc1 => ?_)
  ·
   try simp only [qs] at hc1
   have hi0 : i = 0 := by omega
   subst hi0
   refine CW.skip ?_
   refine kh8 (zc fun _ kh9 => ?_)
   refine CW.block ?_
   refine Sr fun _ kh10 => ?_
   refine WL.ev (Ev.indexAddr rfl rfl (by omega) (by omega)) rfl ?_
   rw [show 0 + ((0 : Nat) : Int).toNat * 6 = 0 from rfl]
   refine zg hB rfl ?_
   refine WL.allocB (l := [.bool false, .slice none 0 0, .int .i64 0, .bool false, .slice none 0 0, .int .i64 0]) rfl rfl fun b5 wm5 hb5 hcm5 hge5 => ?_
   have hgehch5 := Nat.le_trans hch.size hge5
   have hch := hch.trans (Chg.any hcm5)
   have hn := hn.keep0 hcm5
   have hd := hd.keep0 hcm5
   have hneb5 : b ≠ b5 := by have := hB.lt; omega
   have hB := hB.keep0 hcm5
   refine WL.storeB rfl rfl rfl ao hb5 (by simp) rfl fun ws2 hb5_ hcs2 => ?_
   try simp only [Sx.splice, qt] at hb5_
   have hch := hch.s1 hcs2
   have hB := hB.keep hcs2 (by simp; omega)
   have hn := hn.keepBK hb5 hcs2 an
   have hd := hd.keepBK hb5 hcs2 an
   have hb5 := hb5_
   refine zz (kh10 (Sr fun _ kh12 => zf rfl ?_))
   refine WL.ev (Ev.loadB rfl rfl hb5 rfl rfl) rfl ?_
   simp only [List.drop_succ_cons, List.drop_zero, List.take_succ_cons, List.take_zero]
   refine WL.call hasF58 rfl rfl (Sign_dspec nd vd ld ed _ hd) fun v w1 h' => ?_
   obtain ⟨rfl, hC23⟩ := h'
   have hch := hch.trans (Chg.any hC23)
   have hB := hB.keep0 hC23
   have hb5 := hb5.keep0 hC23
   have hn := hn.keep0 hC23
   have hd := hd.keep0 hC23
   refine WL.ev (Ev.lss rfl rfl) rfl ?_
   refine zz (kh12 ?_)
   refine CW.cond rfl (fun hc2 => ?_) (fun hc2 => ?_)
   ·
    try simp only [qs] at hc2
    have hs2 : sgD nd (val ld) < 0 := hc2
    refine Sr fun _ kh14 => za rfl (za rfl (zz (kh14 ?_)))
    refine CW.ret ?_
    refine bodyA.ret2 rfl rfl rfl ?_
    exact ⟨.inl ⟨hs2, rfl⟩, hch⟩
   ·
    try simp only [qs] at hc2
    have hs2 : 0 ≤ sgD nd (val ld) := by have := hc2; omega
    refine CW.skip ?_
    refine kh9 ?_
    refine CW.region fun kR16 kr16 => ?_
    first | refine WL.ev (Ev.addIn rfl rfl (by omega)) rfl ?_ | refine WL.ev (Ev.add rfl rfl) rfl ?_
    refine zm rfl ?_
    refine WL.nil (kr16 _ _ _ ?_)
    refine ⟨rfl, 1, ?_, ?_, ?_⟩
    ·
     exact SLp
    ·
     exact ⟨by decide, fun _ => hs2, hch⟩
    ·
     decide
  ·
   try simp only [qs] at hc1
   have hi0 : i = 1 := by omega
   subst hi0
   have hs1 := hs1 rfl
   refine CW.exit ?_
   refine kh3 (Sr fun _ kh17 => za rfl (zz (kh17 (zc fun _ kh19 => Sr fun _ kh20 => zm rfl (zn rfl (zm rfl (zz (kh20 ?_))))))))
   refine CW.block ?_
   refine CW.loop (S := fun g : Nat × Value => [(0, .slice (some ⟨b, 0, none⟩) 1 1), (6, g.2), (26, .slice (some ⟨b, 0, none⟩) 1 1), (27, .int .i64 1), (28, .int .i64 (g.1 : Int))]) (Inv := KF2 (formD nn (val ln) en) (formD nd (val ld) ed) w) (mu := fun g => 1 - g.1) ((0, .slice none 0 0)) ?_ ?_ ?_
   ·
    exact ⟨by decide, fun _ => rfl, fun h => (by cases h), hch⟩
   ·
    exact SLp
   ·
    rintro ⟨i, vo⟩ wr ⟨hi1, hz, ho, hch⟩
    dsimp only at hi1 hz ho hch
    dsimp only
    have hB := hB0.keep0 hch
    have hn := hn0.keep0 hch
    have hd := hd0.keep0 hch
    refine Sr fun _ kh22 => ?_
    refine WL.ev (Ev.lss rfl rfl) rfl ?_
    refine zz (kh22 (zc fun _ kh24 => ?_))
    refine CW.cond rfl (fun hc3 => ?_) (fun hc3 => ?_)
    ·
     try simp only [qs] at hc3
     have hi0 : i = 0 := by omega
     subst hi0
     obtain rfl := hz rfl
     refine CW.skip ?_
     refine kh24 (zc fun _ kh25 => ?_)
     refine CW.block ?_
     refine Sr fun _ kh26 => ?_
     refine WL.ev (Ev.indexAddr rfl rfl (by omega) (by omega)) rfl ?_
     rw [show 0 + ((0 : Nat) : Int).toNat * 6 = 0 from rfl]
     refine zg hB rfl ?_
     refine WL.allocB (l := [.bool false, .slice none 0 0, .int .i64 0, .bool false, .slice none 0 0, .int .i64 0]) rfl rfl fun b8 wm8 hb8 hcm8 hge8 => ?_
     have hgehch8 := Nat.le_trans hch.size hge8
     have hch := hch.trans (Chg.any hcm8)
     have hn := hn.keep0 hcm8
     have hd := hd.keep0 hcm8
     have hneb8 : b ≠ b8 := by have := hB.lt; omega
     have hB := hB.keep0 hcm8
     refine WL.storeB rfl rfl rfl ao hb8 (by simp) rfl fun ws3 hb8_ hcs3 => ?_
     try simp only [Sx.splice, qt] at hb8_
     have hch := hch.s1 hcs3
     have hB := hB.keep hcs3 (by simp; omega)
     have hn := hn.keepBK hb8 hcs3 an
     have hd := hd.keepBK hb8 hcs3 an
     have hb8 := hb8_
     refine zz (kh26 (Sr fun _ kh28 => zf rfl (zf rfl (zl hb8 rfl rfl (zf rfl (zf rfl (zl hb8 rfl rfl (zf rfl (zf rfl (zl hb8 rfl rfl ?_))))))))))
     refine WL.call hasF33 rfl rfl (Make_spec nn vn ln en _ hn (hg0.keep0 hch) hen) fun v w2 h' => ?_
     obtain ⟨hD42, hC42⟩ := h'
     have hch := hch.trans (Chg.any hC42)
     have hB := hB.keep0 hC42
     have hb8 := hb8.keep0 hC42
     have hn := hn.keep0 hC42
     have hd := hd.keep0 hC42
     rcases hD42 with ⟨rx, dx, he42, rfl, hNx⟩ | ⟨he42, rfl⟩
     ·
      refine zm rfl (zx rfl rfl (zx rfl rfl ?_))
      refine WL.allocB (l := [.bool false, .slice none 0 0, .int .i64 0]) rfl rfl fun b9 wm9 hb9 hcm9 hge9 => ?_
      have hgehch9 := Nat.le_trans hch.size hge9
      have hch := hch.trans (Chg.any hcm9)
      have hn := hn.keep0 hcm9
      have hd := hd.keep0 hcm9
      have hNx := hNx.keep0 hcm9
      have hneb9 : b ≠ b9 := by have := hB.lt; omega
      have hB := hB.keep0 hcm9
      have hneb89 : b8 ≠ b9 := by have := hb8.lt; omega
      have hb8 := hb8.keep0 hcm9
      refine WL.storeB rfl rfl rfl ao hb9 (by simp) rfl fun ws4 hb9_ hcs4 => ?_
      try simp only [Sx.splice, qt] at hb9_
      have hch := hch.s1 hcs4
      have hB := hB.keep hcs4 (by simp; omega)
      have hb8 := hb8.keep hcs4 (by simp; omega)
      have hn := hn.keepBK hb9 hcs4 an
      have hd := hd.keepBK hb9 hcs4 an
      have hNx := hNx.keepBK hb9 hcs4 an
      have hb9 := hb9_
      refine za rfl (zz (kh28 (Sr fun _ kh30 => zf rfl (zf rfl (zl hb8 rfl rfl (zf rfl (zf rfl (zl hb8 rfl rfl (zf rfl (zf rfl (zl hb8 rfl rfl ?_)))))))))))
      refine WL.call hasF33 rfl rfl (Make_spec nd vd ld ed _ hd (hg0.keep0 hch) hed) fun v w3 h' => ?_
      obtain ⟨hD55, hC55⟩ := h'
      have hch := hch.trans (Chg.any hC55)
      have hB := hB.keep0 hC55
      have hb8 := hb8.keep0 hC55
      have hb9 := hb9.keep0 hC55
      have hn := hn.keep0 hC55
      have hd := hd.keep0 hC55
      have hNx := hNx.keep0 hC55
      rcases hD55 with ⟨ry, dy, he55, rfl, hNy⟩ | ⟨he55, rfl⟩
      ·
       refine zm rfl (zx rfl rfl (zx rfl rfl ?_))
       refine WL.allocB (l := [.bool false, .slice none 0 0, .int .i64 0]) rfl rfl fun b11 wm11 hb11 hcm11 hge11 => ?_
       have hgehch11 := Nat.le_trans hch.size hge11
       have hch := hch.trans (Chg.any hcm11)
       have hn := hn.keep0 hcm11
       have hd := hd.keep0 hcm11
       have hNx := hNx.keep0 hcm11
       have hNy := hNy.keep0 hcm11
       have hneb11 : b ≠ b11 := by have := hB.lt; omega
       have hB := hB.keep0 hcm11
       have hneb811 : b8 ≠ b11 := by have := hb8.lt; omega
       have hb8 := hb8.keep0 hcm11
       have hneb911 : b9 ≠ b11 := by have := hb9.lt; omega
       have hb9 := hb9.keep0 hcm11
       refine WL.storeB rfl rfl rfl ao hb11 (by simp) rfl fun ws5 hb11_ hcs5 => ?_
       try simp only [Sx.splice, qt] at hb11_
       have hch := hch.s1 hcs5
       have hB := hB.keep hcs5 (by simp; omega)
       have hb8 := hb8.keep hcs5 (by simp; omega)
       have hb9 := hb9.keep hcs5 (by simp; omega)
       have hn := hn.keepBK hb11 hcs5 an
       have hd := hd.keepBK hb11 hcs5 an
       have hNx := hNx.keepBK hb11 hcs5 an
       have hNy := hNy.keepBK hb11 hcs5 an
       have hb11 := hb11_
       refine za rfl (zz (kh30 (zc fun _ kh32 => Sr fun _ kh33 => zm rfl ?_)))
       refine WL.ev (Ev.neq rfl rfl) rfl ?_
       refine zm rfl (zw rfl (zm rfl (zw rfl ?_)))
       refine WL.ev (Ev.neq rfl rfl) rfl ?_
       refine ze rfl rfl (zz (kh33 ?_))
       refine CW.condF rfl ?_
       refine CW.skip ?_
       refine kh32 ?_
       refine CW.region fun kR35 kr35 => ?_
       refine zm rfl (zg hb9 rfl (zg hb11 rfl ?_))
       refine WL.ev (Ev.build (vs := _) (cs := [_, _, _, _, _, _]) rfl rfl) rfl ?_
       refine WL.buildSlice (m := 1) (cs := [.bool dx.neg, rx, .int .i64 dx.e, .bool dy.neg, ry, .int .i64 dy.e]) (by decide) (by decide) rfl (by kernel_rfl) rfl fun b68 w68 hn68 => ?_
       have hcm68 := hn68.chg
       have hb68 : BK w68 b68 _ [.bool dx.neg, rx, .int .i64 dx.e, .bool dy.neg, ry, .int .i64 dy.e] := hn68.at_
       have hch := hch.trans hcm68
       have hNx := hNx.keep0 hcm68
       have hNy := hNy.keep0 hcm68
       have hrc68 := RC.of_BK hb68
       refine WL.append (news := [.bool dx.neg, rx, .int .i64 dx.e, .bool dy.neg, ry, .int .i64 dy.e]) (xs := []) (m := 0) (by rfl) (by decide) rfl rfl ⟨rfl, .inl ⟨rfl, rfl⟩⟩ rfl hrc68 (by intro v hv; simp only [List.mem_cons, List.not_mem_nil, or_false] at hv; rcases hv with rfl | rfl | rfl | rfl | rfl | rfl <;> first | rfl | exact NU.one (by assumption)) (by decide) (by decide) rfl fun v69 w69 ho69 hc69 hl69 => ?_
       have hc69 : Chg [] w68 w69 := by simpa [Value.ownBlock] using hc69
       have hch := hch.trans hc69
       have hNx := hNx.keep0 hc69
       have hNy := hNy.keep0 hc69
       rcases own_cases ho69 with ⟨_, h0, _⟩ | ⟨g69, cap69, rfl, _, _, hcells⟩
       · cases h0
       have hrc : RC w69 ⟨g69, 0, none⟩ (ratC dx dy rx ry) := fun j v hv => by rw [add_addr, Nat.zero_add]; exact hcells j v hv
       refine za rfl ?_
       refine WL.nil (kr35 _ _ _ (kh25 ?_))
       refine CW.region fun kR36 kr36 => ?_
       first | refine WL.ev (Ev.addIn rfl rfl (by omega)) rfl ?_ | refine WL.ev (Ev.add rfl rfl) rfl ?_
       refine zm rfl ?_
       refine WL.nil (kr36 _ _ _ ?_)
       refine ⟨rfl, (1, .slice (some ⟨g69, 0, none⟩) 1 cap69), ?_, ?_, ?_⟩
       ·
        exact SLp
       ·
        exact ⟨Nat.le_refl 1, fun h => (by cases h), fun _ => ⟨dx, dy, g69, cap69, rx, ry, he42, he55, rfl, hrc, hNx, hNy⟩, hch⟩
       ·
        show 1 - 1 < 1 - 0; decide
      ·
       refine zm rfl (zx rfl rfl (zx rfl rfl ?_))
       refine WL.allocB (l := [.bool false, .slice none 0 0, .int .i64 0]) rfl rfl fun b11 wm11 hb11 hcm11 hge11 => ?_
       have hgehch11 := Nat.le_trans hch.size hge11
       have hch := hch.trans (Chg.any hcm11)
       have hNx := hNx.keep0 hcm11
       have hn := hn.keep0 hcm11
       have hd := hd.keep0 hcm11
       have hneb11 : b ≠ b11 := by have := hB.lt; omega
       have hB := hB.keep0 hcm11
       have hneb811 : b8 ≠ b11 := by have := hb8.lt; omega
       have hb8 := hb8.keep0 hcm11
       have hneb911 : b9 ≠ b11 := by have := hb9.lt; omega
       have hb9 := hb9.keep0 hcm11
       refine WL.storeB rfl rfl rfl ao hb11 (by simp) rfl fun ws6 hb11_ hcs6 => ?_
       try simp only [Sx.splice, qt] at hb11_
       have hch := hch.s1 hcs6
       have hB := hB.keep hcs6 (by simp; omega)
       have hb8 := hb8.keep hcs6 (by simp; omega)
       have hb9 := hb9.keep hcs6 (by simp; omega)
       have hNx := hNx.keepBK hb11 hcs6 an
       have hn := hn.keepBK hb11 hcs6 an
       have hd := hd.keepBK hb11 hcs6 an
       have hb11 := hb11_
       refine za rfl (zz (kh30 (zc fun _ kh37 => Sr fun _ kh38 => zm rfl ?_)))
       refine WL.ev (Ev.neq rfl rfl) rfl ?_
       refine zm rfl (zw rfl (zm rfl (zw rfl ?_)))
       refine WL.ev (Ev.neq rfl rfl) rfl ?_
       refine ze rfl rfl (zz (kh38 ?_))
       refine CW.condT rfl ?_
       refine Sr fun _ kh40 => za rfl (za rfl (zz (kh40 ?_)))
       refine CW.ret ?_
       refine bodyA.ret2 rfl rfl rfl ?_
       exact ⟨.inr (.inl ⟨hs1, by first | exact .inl he42 | exact .inr he55, rfl⟩), hch⟩
     ·
      refine zm rfl (zx rfl rfl (zx rfl rfl ?_))
      refine WL.allocB (l := [.bool false, .slice none 0 0, .int .i64 0]) rfl rfl fun b9 wm9 hb9 hcm9 hge9 => ?_
      have hgehch9 := Nat.le_trans hch.size hge9
      have hch := hch.trans (Chg.any hcm9)
      have hn := hn.keep0 hcm9
      have hd := hd.keep0 hcm9
      have hneb9 : b ≠ b9 := by have := hB.lt; omega
      have hB := hB.keep0 hcm9
      have hneb89 : b8 ≠ b9 := by have := hb8.lt; omega
      have hb8 := hb8.keep0 hcm9
      refine WL.storeB rfl rfl rfl ao hb9 (by simp) rfl fun ws7 hb9_ hcs7 => ?_
      try simp only [Sx.splice, qt] at hb9_
      have hch := hch.s1 hcs7
      have hB := hB.keep hcs7 (by simp; omega)
      have hb8 := hb8.keep hcs7 (by simp; omega)
      have hn := hn.keepBK hb9 hcs7 an
      have hd := hd.keepBK hb9 hcs7 an
      have hb9 := hb9_
      refine za rfl (zz (kh28 (Sr fun _ kh42 => zf rfl (zf rfl (zl hb8 rfl rfl (zf rfl (zf rfl (zl hb8 rfl rfl (zf rfl (zf rfl (zl hb8 rfl rfl ?_)))))))))))
      refine WL.call hasF33 rfl rfl (Make_spec nd vd ld ed _ hd (hg0.keep0 hch) hed) fun v w4 h' => ?_
      obtain ⟨hD55, hC55⟩ := h'
      have hch := hch.trans (Chg.any hC55)
      have hB := hB.keep0 hC55
      have hb8 := hb8.keep0 hC55
      have hb9 := hb9.keep0 hC55
      have hn := hn.keep0 hC55
      have hd := hd.keep0 hC55
      rcases hD55 with ⟨ry, dy, he55, rfl, hNy⟩ | ⟨he55, rfl⟩
      ·
       refine zm rfl (zx rfl rfl (zx rfl rfl ?_))
       refine WL.allocB (l := [.bool false, .slice none 0 0, .int .i64 0]) rfl rfl fun b11 wm11 hb11 hcm11 hge11 => ?_
       have hgehch11 := Nat.le_trans hch.size hge11
       have hch := hch.trans (Chg.any hcm11)
       have hn := hn.keep0 hcm11
       have hd := hd.keep0 hcm11
       have hNy := hNy.keep0 hcm11
       have hneb11 : b ≠ b11 := by have := hB.lt; omega
       have hB := hB.keep0 hcm11
       have hneb811 : b8 ≠ b11 := by have := hb8.lt; omega
       have hb8 := hb8.keep0 hcm11
       have hneb911 : b9 ≠ b11 := by have := hb9.lt; omega
       have hb9 := hb9.keep0 hcm11
       refine WL.storeB rfl rfl rfl ao hb11 (by simp) rfl fun ws8 hb11_ hcs8 => ?_
       try simp only [Sx.splice, qt] at hb11_
       have hch := hch.s1 hcs8
       have hB := hB.keep hcs8 (by simp; omega)
       have hb8 := hb8.keep hcs8 (by simp; omega)
       have hb9 := hb9.keep hcs8 (by simp; omega)
       have hn := hn.keepBK hb11 hcs8 an
       have hd := hd.keepBK hb11 hcs8 an
       have hNy := hNy.keepBK hb11 hcs8 an
       have hb11 := hb11_
       refine za rfl (zz (kh42 (zc fun _ kh44 => Sr fun _ kh45 => zm rfl ?_)))
       refine WL.ev (Ev.neq rfl rfl) rfl ?_
       refine zm rfl (zv rfl (zv rfl (zt rfl rfl (zz (kh45 ?_)))))
       refine CW.condT rfl ?_
       refine Sr fun _ kh47 => za rfl (za rfl (zz (kh47 ?_)))
       refine CW.ret ?_
       refine bodyA.ret2 rfl rfl rfl ?_
       exact ⟨.inr (.inl ⟨hs1, by first | exact .inl he42 | exact .inr he55, rfl⟩), hch⟩
      ·
       refine zm rfl (zx rfl rfl (zx rfl rfl ?_))
       refine WL.allocB (l := [.bool false, .slice none 0 0, .int .i64 0]) rfl rfl fun b11 wm11 hb11 hcm11 hge11 => ?_
       have hgehch11 := Nat.le_trans hch.size hge11
       have hch := hch.trans (Chg.any hcm11)
       have hn := hn.keep0 hcm11
       have hd := hd.keep0 hcm11
       have hneb11 : b ≠ b11 := by have := hB.lt; omega
       have hB := hB.keep0 hcm11
       have hneb811 : b8 ≠ b11 := by have := hb8.lt; omega
       have hb8 := hb8.keep0 hcm11
       have hneb911 : b9 ≠ b11 := by have := hb9.lt; omega
       have hb9 := hb9.keep0 hcm11
       refine WL.storeB rfl rfl rfl ao hb11 (by simp) rfl fun ws9 hb11_ hcs9 => ?_
       try simp only [Sx.splice, qt] at hb11_
       have hch := hch.s1 hcs9
       have hB := hB.keep hcs9 (by simp; omega)
       have hb8 := hb8.keep hcs9 (by simp; omega)
       have hb9 := hb9.keep hcs9 (by simp; omega)
       have hn := hn.keepBK hb11 hcs9 an
       have hd := hd.keepBK hb11 hcs9 an
       have hb11 := hb11_
       refine za rfl (zz (kh42 (zc fun _ kh49 => Sr fun _ kh50 => zm rfl ?_)))
       refine WL.ev (Ev.neq rfl rfl) rfl ?_
       refine zm rfl (zv rfl (zv rfl (zt rfl rfl (zz (kh50 ?_)))))
       refine CW.condT rfl ?_
       refine Sr fun _ kh52 => za rfl (za rfl (zz (kh52 ?_)))
       refine CW.ret ?_
       refine bodyA.ret2 rfl rfl rfl ?_
       exact ⟨.inr (.inl ⟨hs1, by first | exact .inl he42 | exact .inr he55, rfl⟩), hch⟩
    ·
     try simp only [qs] at hc3
     have hi0 : i = 1 := by omega
     subst hi0
     obtain ⟨dx, dy, ad, c, rx, ry, hex, hey, rfl, hrc, hNx, hNy⟩ := ho rfl
     refine CW.exit ?_
     refine kh19 (zc fun _ kh54 => Sr fun _ kh55 => zm rfl (zn rfl (zm rfl (zz (kh55 ?_)))))
     refine CW.block ?_
     refine CW.loop (S := fun i : Nat => [(6, .slice (some ⟨ad, 0, none⟩) 1 c), (71, .slice (some ⟨ad, 0, none⟩) 1 c), (72, .int .i64 1), (73, .int .i64 (i : Int))]) (Inv := KF3 dx dy rx ry ad w) (mu := fun i => 1 - i) (0) ?_ ?_ ?_
     ·
      exact ⟨by decide, fun h => (by cases h), hrc, hNx, hNy, hch⟩
     ·
      exact SLp
     ·
      rintro i wr ⟨hi1, hz3, hrc, hNx, hNy, hch⟩
      have hrl := hrc.lt (by simp [ratC])
      refine Sr fun _ kh57 => ?_
      refine WL.ev (Ev.lss rfl rfl) rfl ?_
      refine zz (kh57 (zc fun _ kh59 => ?_))
      refine CW.cond rfl (fun hc4 => ?_) (fun hc4 => ?_)
      ·
       try simp only [qs] at hc4
       have hi0 : i = 0 := by omega
       subst hi0
       refine CW.skip ?_
       refine kh59 (zc fun _ kh60 => ?_)
       refine CW.block ?_
       refine Sr fun _ kh61 => ?_
       refine WL.ev (Ev.indexAddr rfl rfl (by omega) (by omega)) rfl ?_
       rw [show 0 + ((0 : Nat) : Int).toNat * 6 = 0 from rfl]
       refine WL.ev (Ev.loadAgg (cs := ratC dx dy rx ry) rfl rfl rfl hrc) rfl ?_
       unfold ratC
       refine WL.allocB (l := [.bool false, .slice none 0 0, .int .i64 0, .bool false, .slice none 0 0, .int .i64 0]) rfl rfl fun b14 wm14 hb14 hcm14 hge14 => ?_
       have hgehch14 := Nat.le_trans hch.size hge14
       have hch := hch.trans (Chg.any hcm14)
       have hrc := hrc.keep0 hcm14
       have hNx := hNx.keep0 hcm14
       have hNy := hNy.keep0 hcm14
       refine WL.storeB rfl rfl rfl ao hb14 (by simp) rfl fun ws10 hb14_ hcs10 => ?_
       try simp only [Sx.splice, qt] at hb14_
       have hch := hch.s1 hcs10
       have hrc := hrc.keepBK hb14 hcs10 an
       have hNx := hNx.keepBK hb14 hcs10 an
       have hNy := hNy.keepBK hb14 hcs10 an
       have hb14 := hb14_
       refine zz (kh61 (Sr fun _ kh63 => zf rfl ?_))
       refine WL.ev (Ev.loadB rfl rfl hb14 rfl rfl) rfl ?_
       simp only [List.drop_succ_cons, List.drop_zero, List.take_succ_cons, List.take_zero]
       refine WL.call hasF58 rfl rfl (Sign_dspec dy.neg ry (wd dy.m) dy.e _ hNy) fun v w5 h' => ?_
       obtain ⟨rfl, hC79⟩ := h'
       rw [val_wd]
       have hch := hch.trans (Chg.any hC79)
       have hb14 := hb14.keep0 hC79
       have hrc := hrc.keep0 hC79
       have hNx := hNx.keep0 hC79
       have hNy := hNy.keep0 hC79
       refine zq rfl rfl (zz (kh63 ?_))
       refine CW.cond rfl (fun hc5 => ?_) (fun hc5 => ?_)
       ·
        try simp only [qs] at hc5
        have hy0 : dy.m = 0 := sgD_zero.1 hc5
        refine Sr fun _ kh65 => za rfl (za rfl (zz (kh65 ?_)))
        refine CW.ret ?_
        refine bodyA.ret2 rfl rfl rfl ?_
        exact ⟨.inr (.inr (.inl ⟨hs1, dx, dy, hex, hey, hy0, rfl⟩)), hch⟩
       ·
        try simp only [qs] at hc5
        have hy0 : dy.m ≠ 0 := fun e => hc5 (sgD_zero.2 e)
        refine CW.skip ?_
        refine kh60 ?_
        refine CW.region fun kR67 kr67 => ?_
        first | refine WL.ev (Ev.addIn rfl rfl (by omega)) rfl ?_ | refine WL.ev (Ev.add rfl rfl) rfl ?_
        refine zm rfl ?_
        refine WL.nil (kr67 _ _ _ ?_)
        refine ⟨rfl, 1, ?_, ?_, ?_⟩
        ·
         exact SLp
        ·
         exact ⟨by decide, fun _ => hy0, hrc, hNx, hNy, hch⟩
        ·
         decide
      ·
       try simp only [qs] at hc4
       have hi0 : i = 1 := by omega
       subst hi0
       have hy0 := hz3 rfl
       refine CW.exit ?_
       refine kh54 (Sr fun _ kh68 => zm rfl (za rfl (za rfl (zz (kh68 ?_)))))
       refine CW.ret ?_
       refine bodyA.ret2 rfl rfl rfl ?_
       exact ⟨.inr (.inr (.inr ⟨hs1, dx, dy, hex, hey, hy0, ad, c, rx, ry, rfl, hrc, hNx, hNy⟩)), hch⟩

end Go.Proofs.YtphnpchmdpjabaaGreatDoor

/- Package root: rounded, Quot. No condition. -/
namespace Go.Proofs.YtphnpchmdpjabaaGreatDoor
open Go Sx Wd
set_option exponentiation.threshold 5000

/-- A form's value is what it was made of. -/
theorem formD_val {neg : Bool} {n : Nat} {e : Int} {d : Dy} (h : formD neg n e = some d) (h0 : n ≠ 0) : ∃ t : Nat, n = d.m * 2 ^ t ∧ d.e = e + t ∧ d.neg = neg := by
  unfold formD at h
  rw [if_neg h0] at h
  split at h
  · cases h
  · cases h; exact ⟨tz n, (tz_spec h0).2, rfl, rfl⟩
theorem dy_congr {m : Nat} {e e' : Int} {t : Nat} (he : e' = e + t) : dyA m e' * dyB e = dyA (m * 2 ^ t) e * dyB e' := by
  unfold dyA dyB
  rw [Nat.mul_assoc, Nat.mul_assoc, Nat.mul_assoc, ← Nat.pow_add, ← Nat.pow_add, ← Nat.pow_add]
  congr 2
  omega
/-- A ratio of dyads, rounded (or what is wrong). -/
def QuotP (nn nd : Bool) (ln ld : Nat) (en ed mode : Int) (bits : Nat) (e : Int) : Prop :=
  (¬ (0 ≤ mode ∧ mode ≤ 4) ∧ bits = 0 ∧ e = 1) ∨ ((0 ≤ mode ∧ mode ≤ 4) ∧
    ((sgD nd ld < 0 ∧ bits = 0 ∧ e = 1) ∨ (0 ≤ sgD nd ld ∧ (formD nn ln en = none ∨ formD nd ld ed = none) ∧ bits = 0 ∧ e = 2) ∨
     (0 ≤ sgD nd ld ∧ ∃ x y, formD nn ln en = some x ∧ formD nd ld ed = some y ∧ ((y.m = 0 ∧ bits = 0 ∧ e = 21) ∨
       (y.m ≠ 0 ∧ ∃ r, IsNear (dyA x.m (x.e - y.e)) (y.m * dyB (x.e - y.e)) x.neg mode r ∧ r ≤ 9218868437227405312 ∧ bits = (if x.neg then r + 9223372036854775808 else r) ∧ e = 0)))))
theorem aboutD_ok {neg : Bool} {m : Nat} {cut : Bool} {e : Int} (h : m < 2 ^ 82) : (aboutD neg m cut e).ok := by
  obtain ⟨d, hd⟩ := about_form (neg := neg) (cut := cut) (e := e) h
  have : aboutD neg m cut e = d := by unfold aboutD; rw [hd]; rfl
  rw [this]; exact formD_ok hd
/-- What quotient and Round come to. -/
theorem quot_round {x y : Dy} (hx : x.ok) (hy : y.ok) (hy0 : y.m ≠ 0) {size a : Nat} {mode : Int} {bits : Nat} {e : Int} (hm : 0 ≤ mode ∧ mode ≤ 4)
    (hD : DigI (x.m * 2 ^ (max 0 (-((bl x.m : Int) - (bl y.m : Int)))).toNat) (y.m * 2 ^ (max 0 ((bl x.m : Int) - (bl y.m : Int))).toNat) 82 size a)
    (hR : RoundR (formD (aboutD x.neg size (decide (a ≠ 0)) ((bl x.m : Int) - (bl y.m : Int) - 81 + x.e - y.e)).neg (aboutD x.neg size (decide (a ≠ 0)) ((bl x.m : Int) - (bl y.m : Int) - 81 + x.e - y.e)).m (aboutD x.neg size (decide (a ≠ 0)) ((bl x.m : Int) - (bl y.m : Int) - 81 + x.e - y.e)).e) mode bits e) :
    ∃ r, IsNear (dyA x.m (x.e - y.e)) (y.m * dyB (x.e - y.e)) x.neg mode r ∧ r ≤ 9218868437227405312 ∧ bits = (if x.neg then r + 9223372036854775808 else r) ∧ e = 0 := by
  obtain ⟨d, hd⟩ := about_form (neg := x.neg) (cut := decide (a ≠ 0)) (e := (bl x.m : Int) - (bl y.m : Int) - 81 + x.e - y.e) hD.w
  have hdd : aboutD x.neg size (decide (a ≠ 0)) ((bl x.m : Int) - (bl y.m : Int) - 81 + x.e - y.e) = d := by unfold aboutD; rw [hd]; rfl
  rw [hdd, formD_self (formD_ok hd)] at hR
  rcases hR with ⟨h, _⟩ | ⟨_, ⟨h, _⟩ | ⟨d2, r, h, hN, hr, hb, he⟩⟩
  · exact absurd hm h
  · cases h
  cases h
  by_cases h0 : x.m = 0
  · -- nought
    have hz := hx.z h0
    have hs : size = 0 ∧ a = 0 := by
      obtain ⟨h3, _⟩ := hD.s (by decide)
      rw [h0, Nat.zero_mul, Nat.zero_mul] at h3
      have hB : 0 < y.m * 2 ^ (max 0 ((bl 0 : Int) - (bl y.m : Int))).toNat := Nat.mul_pos (by omega) (Nat.two_pow_pos _)
      have h4 : size * (y.m * 2 ^ (max 0 ((bl 0 : Int) - (bl y.m : Int))).toNat) = 0 := by omega
      rcases Nat.mul_eq_zero.1 h4 with q | q
      · exact ⟨q, by omega⟩
      · omega
    have hm0 : aboutM size (decide (a ≠ 0)) = 0 := by unfold aboutM; rw [hs.1, hs.2]; rfl
    rw [hm0, formD_zero] at hd
    cases hd
    have e1 : dyA Dy.zero.m Dy.zero.e = 0 := by unfold dyA Dy.zero; simp
    rw [e1] at hN
    have hr0 := hN.unique (dyB_pos _) (near_zero (dyB_pos _) _ _)
    subst hr0
    have hxn : x.neg = false := by rw [hz]; rfl
    refine ⟨0, ?_, by decide, ?_, he⟩
    · rw [h0, show dyA 0 (x.e - y.e) = 0 by unfold dyA; simp]
      exact near_zero (Nat.mul_pos (by omega) (dyB_pos _)) _ _
    · rw [hb, hxn]; rfl
  · have hM0 : aboutM size (decide (a ≠ 0)) ≠ 0 := by
      have hl := (digits_low h0 hy0 rfl).2
      have := dig_size hD (by decide) hl
      unfold aboutM
      omega
    obtain ⟨t, h1, h2, h3⟩ := formD_val hd hM0
    rw [h3] at hN hb
    have hN2 := hN.congr (B' := dyB (aboutE ((bl x.m : Int) - (bl y.m : Int) - 81 + x.e - y.e))) (dyB_pos _) (dyB_pos _) (dy_congr h2)
    rw [← h1] at hN2
    refine ⟨r, near_quot (a := a) h0 hy0 rfl hm hD (e := aboutE ((bl x.m : Int) - (bl y.m : Int) - 81 + x.e - y.e)) (by unfold aboutE; congr 2; omega) ?_, hr, hb, he⟩
    have e5 : aboutM size (decide (a ≠ 0)) = 2 * size + if a = 0 then 0 else 1 := by
      unfold aboutM
      by_cases q : a = 0
      · simp [q]
      · simp [q]
    rw [e5] at hN2
    exact hN2

set_option maxRecDepth 8000 in
set_option maxHeartbeats 2000000 in
theorem rounded_spec (nn nd : Bool) (vn vd : Value) (ln ld : List Nat) (en ed mode : Int) (w : World) (hn : NU w vn ln) (hd : NU w vd ld) (hg : GW w) (hen : -9223372036854775808 ≤ en ∧ en ≤ 9223372036854775807) (hed : -9223372036854775808 ≤ ed ∧ ed ≤ 9223372036854775807) : Ret Tryz.prog 117 [.agg [.bool nn, vn, .int .i64 en, .bool nd, vd, .int .i64 ed].toArray, .int .i64 mode, .bool false, .func (.func 118) #[] #[]] w fun u w' => (∃ bits e, u = .tuple [.float .f64 bits, .int .i64 e].toArray ∧ QuotP nn nd (val ln) (val ld) en ed mode bits e) ∧ Chg [] w w' := by
 have hch : Chg [] w w := Chg.refl _ _
 have hon := hn.one
 have hod := hd.one
 have hg0 := hg
 refine Ret.enter Tryz.func117 rfl rfl ?_
 simp only [args0, Nat.zero_add, Nat.reduceAdd]
 refine Sr fun _ kh1 => ?_
 refine WL.boxB rfl rfl rfl fun b4 wm4 hb4 hcm4 hge4 => ?_
 have hgehch4 := Nat.le_trans hch.size hge4
 have hch := hch.trans (Chg.any hcm4)
 have hn := hn.keep0 hcm4
 have hd := hd.keep0 hcm4
 refine za rfl (za rfl (zz (kh1 (zc fun _ kh3 => ?_))))
 refine CW.seqM 17 (decide (¬ (0 ≤ mode ∧ mode ≤ 4))) ?_ ?_
 ·
  refine CW.region fun kR4 kr4 => ?_
  refine zm rfl ?_
  refine WL.ev (Ev.lss rfl rfl) rfl ?_
  refine zm rfl ?_
  refine WL.boolCase (fun hg1 => ?_) (fun hg1 => ?_)
  ·
   try simp only [qs] at hg1
   refine zv rfl (zv rfl (zt rfl rfl ?_))
   refine WL.nil (kr4 _ _ _ ?_)
   refine ⟨rfl, rfl, Subs.consB rfl ?_ ?_⟩
   ·
    first | (simp; omega) | (refine decide_eq_decide.2 ?_; omega)
   ·
    exact SMg
  ·
   try simp only [qs] at hg1
   refine zw rfl (zm rfl (zw rfl ?_))
   refine WL.ev (Ev.gtr rfl rfl) rfl ?_
   refine ze rfl rfl ?_
   refine WL.nil (kr4 _ _ _ ?_)
   refine ⟨rfl, rfl, Subs.consB rfl ?_ ?_⟩
   ·
    first | (simp; omega) | (refine decide_eq_decide.2 ?_; omega)
   ·
    exact SMg
 ·
  refine CW.cond rfl (fun hc2 => ?_) (fun hc2 => ?_)
  ·
   try simp only [qs] at hc2
   have hmode : ¬ (0 ≤ mode ∧ mode ≤ 4) := hc2
   refine Sr fun _ kh5 => za rfl (za rfl (zz (kh5 ?_)))
   refine CW.ret ?_
   refine bodyA.ret2 rfl rfl rfl ?_
   refine ⟨⟨_, _, rfl, .inl ⟨hmode, rfl, rfl⟩⟩, hch⟩
  ·
   try simp only [qs] at hc2
   have hmode : 0 ≤ mode ∧ mode ≤ 4 := by have := hc2; omega
   refine CW.skip ?_
   refine kh3 (Sr fun _ kh7 => zg hb4 rfl ?_)
   refine WL.buildSlice (m := 1) (cs := [.bool nn, vn, .int .i64 en, .bool nd, vd, .int .i64 ed]) (by decide) (by decide) rfl (by kernel_rfl) rfl fun b20 w20 hn20 => ?_
   have hcm20 := hn20.chg
   have hb20 : BK w20 b20 73 [.bool nn, vn, .int .i64 en, .bool nd, vd, .int .i64 ed] := hn20.at_
   have hch := hch.trans hcm20
   have hn := hn.keep0 hcm20
   have hd := hd.keep0 hcm20
   have hb4 := hb4.keep0 hcm20
   refine WL.call hasF155 rfl rfl (forms_spec b20 nn nd vn vd ln ld en ed _ hb20 hn hd (hg0.keep0 hch) hen hed) fun v w1 h' => ?_
   obtain ⟨hF, hC21⟩ := h'
   have hch := hch.trans (Chg.any hC21)
   have hb4 := hb4.keep0 hC21
   have hn := hn.keep0 hC21
   have hd := hd.keep0 hC21
   rcases hF with ⟨hsg, rfl⟩ | ⟨hsg, hno, rfl⟩ | ⟨hsg, dx, dy, hex, hey, hy0, rfl⟩ | ⟨hsg, dx, dy, hex, hey, hy0, gg, cc, rx, ry, rfl, hrc, hNx, hNy⟩
   ·
    refine zm rfl (zx rfl rfl (zx rfl rfl (za rfl (za rfl (zz (kh7 (zc fun _ kh9 => ?_)))))))
    refine CW.block ?_
    refine Sr fun _ kh10 => zm rfl ?_
    refine WL.ev (Ev.neq rfl rfl) rfl ?_
    refine za rfl (zz (kh10 ?_))
    refine CW.condT rfl ?_
    refine Sr fun _ kh12 => zm rfl (za rfl (za rfl (zz (kh12 ?_))))
    refine CW.ret ?_
    refine bodyA.ret2 rfl rfl rfl ?_
    refine ⟨⟨_, _, rfl, .inr ⟨hmode, .inl ⟨hsg, rfl, rfl⟩⟩⟩, hch⟩
   ·
    refine zm rfl (zx rfl rfl (zx rfl rfl (za rfl (za rfl (zz (kh7 (zc fun _ kh14 => ?_)))))))
    refine CW.block ?_
    refine Sr fun _ kh15 => zm rfl ?_
    refine WL.ev (Ev.neq rfl rfl) rfl ?_
    refine za rfl (zz (kh15 ?_))
    refine CW.condT rfl ?_
    refine Sr fun _ kh17 => zm rfl (za rfl (za rfl (zz (kh17 ?_))))
    refine CW.ret ?_
    refine bodyA.ret2 rfl rfl rfl ?_
    refine ⟨⟨_, _, rfl, .inr ⟨hmode, .inr (.inl ⟨hsg, hno, rfl, rfl⟩)⟩⟩, hch⟩
   ·
    refine zm rfl (zx rfl rfl (zx rfl rfl (za rfl (za rfl (zz (kh7 (zc fun _ kh19 => ?_)))))))
    refine CW.block ?_
    refine Sr fun _ kh20 => zm rfl ?_
    refine WL.ev (Ev.neq rfl rfl) rfl ?_
    refine za rfl (zz (kh20 ?_))
    refine CW.condT rfl ?_
    refine Sr fun _ kh22 => zm rfl (za rfl (za rfl (zz (kh22 ?_))))
    refine CW.ret ?_
    refine bodyA.ret2 rfl rfl rfl ?_
    refine ⟨⟨_, _, rfl, .inr ⟨hmode, .inr (.inr ⟨hsg, dx, dy, hex, hey, .inl ⟨hy0, rfl, rfl⟩⟩)⟩⟩, hch⟩
   ·
    have hokx := formD_ok hex
    have hoky := formD_ok hey
    refine zm rfl (zx rfl rfl (zx rfl rfl (za rfl (za rfl (zz (kh7 (zc fun _ kh24 => ?_)))))))
    refine CW.block ?_
    refine Sr fun _ kh25 => zm rfl ?_
    refine WL.ev (Ev.neq rfl rfl) rfl ?_
    refine za rfl (zz (kh25 ?_))
    refine CW.condF rfl ?_
    refine Sr fun _ kh27 => zm rfl (zm rfl (zv rfl (zv rfl (zv rfl (zv rfl (zv rfl (ze rfl rfl (za rfl (zz (kh27 ?_))))))))))
    refine CW.condF rfl ?_
    refine Sr fun _ kh29 => zm rfl (za rfl (zz (kh29 ?_)))
    refine CW.condF rfl ?_
    refine CW.skip ?_
    refine kh24 (Sr fun _ kh31 => zm rfl (zm rfl ?_))
    refine WL.ev (Ev.indexAddr rfl rfl (by omega) (by omega)) rfl ?_
    rw [show 0 + (0 : Int).toNat * 6 = 0 from rfl]
    refine WL.ev (Ev.loadAgg (cs := ratC dx dy rx ry) rfl rfl rfl hrc) rfl ?_
    unfold ratC
    refine WL.call hasF157 rfl rfl (quotient_spec dx.neg dy.neg rx ry dx.m dy.m dx.e dy.e _ hNx hNy hokx.len hoky.len hy0 hokx.e hoky.e (hg0.keep0 hch)) fun v w2 h' => ?_
    obtain ⟨⟨size, a, ⟨rq, rfl, hNq⟩, hDg⟩, hC52⟩ := h'
    have hch := hch.trans (Chg.any hC52)
    have hb4 := hb4.keep0 hC52
    have hn := hn.keep0 hC52
    have hd := hd.keep0 hC52
    have hNx := hNx.keep0 hC52
    have hNy := hNy.keep0 hC52
    have hrc := hrc.keep0 hC52
    refine zm rfl ?_
    refine WL.callV (cap := []) hasF118 rfl rfl rfl (by rw [List.append_nil]; exact Round_dspec _ _ _ _ mode _ hNq (hg0.keep0 hch) (by have := (aboutD_ok (neg := dx.neg) (cut := decide (a ≠ 0)) (e := (bl dx.m : Int) - (bl dy.m : Int) - 81 + dx.e - dy.e) hDg.w).e; omega)) fun v54 w54 h54 => ?_
    obtain ⟨⟨bits, ee, rfl, hRR⟩, hC54⟩ := h54
    have hch := hch.trans hC54
    rw [val_wd] at hRR
    refine zx rfl rfl (zx rfl rfl (za rfl (za rfl (zz (kh31 ?_)))))
    refine CW.ret ?_
    refine bodyA.ret2 rfl rfl rfl ?_
    obtain ⟨r, q1, q2, q3, q4⟩ := quot_round hokx hoky hy0 hmode hDg hRR
    refine ⟨⟨_, _, rfl, .inr ⟨hmode, .inr (.inr ⟨hsg, dx, dy, hex, hey, .inr ⟨hy0, r, q1, q2, q3, q4⟩⟩)⟩⟩, hch⟩

set_option maxRecDepth 8000 in
theorem Quot_spec (nn nd : Bool) (vn vd : Value) (ln ld : List Nat) (en ed mode : Int) (w : World) (hn : NU w vn ln) (hd : NU w vd ld) (hg : GW w) (hen : -9223372036854775808 ≤ en ∧ en ≤ 9223372036854775807) (hed : -9223372036854775808 ≤ ed ∧ ed ≤ 9223372036854775807) : Ret Tryz.prog 73 [.agg [.bool nn, vn, .int .i64 en, .bool nd, vd, .int .i64 ed].toArray, .int .i64 mode] w fun u w' => (∃ bits e, u = .tuple [.float .f64 bits, .int .i64 e].toArray ∧ QuotP nn nd (val ln) (val ld) en ed mode bits e) ∧ Chg [] w w' := by
 have hch : Chg [] w w := Chg.refl _ _
 have hon := hn.one
 have hod := hd.one
 have hg0 := hg
 refine Ret.enter Tryz.func73 rfl rfl ?_
 simp only [args0, Nat.zero_add, Nat.reduceAdd]
 refine Sr fun _ kh1 => ?_
 refine WL.boxB rfl rfl rfl fun b2 wm2 hb2 hcm2 hge2 => ?_
 have hgehch2 := Nat.le_trans hch.size hge2
 have hch := hch.trans (Chg.any hcm2)
 have hn := hn.keep0 hcm2
 have hd := hd.keep0 hcm2
 refine za rfl (za rfl (zz (kh1 (Sr fun _ kh3 => zg hb2 rfl (zm rfl ?_)))))
 refine WL.call hasF117 rfl rfl (rounded_spec nn nd vn vd ln ld en ed mode _ hn hd (hg0.keep0 hch) hen hed) fun v w1 h' => ?_
 obtain ⟨⟨bits, e, rfl, hQ⟩, hC8⟩ := h'
 have hch := hch.trans (Chg.any hC8)
 have hb2 := hb2.keep0 hC8
 have hn := hn.keep0 hC8
 have hd := hd.keep0 hC8
 refine zx rfl rfl (zx rfl rfl (za rfl (za rfl (zz (kh3 ?_)))))
 refine CW.ret ?_
 refine bodyA.ret2 rfl rfl rfl ?_
 exact ⟨⟨_, _, rfl, hQ⟩, hch⟩

end Go.Proofs.YtphnpchmdpjabaaGreatDoor

/- What numbers are, as whole numbers of 2^-2148, and their sums. No condition. -/
namespace Go.Proofs.YtphnpchmdpjabaaGreatDoor
open Go Sx Wd
set_option exponentiation.threshold 9000

/-- A number's size in units of 2^-2148 (nought, if it is none or not finite). -/
def fvN (x : Nat) : Nat := if (splitP x).cls = 1 ∨ (splitP x).cls = 2 then (splitP x).frac * 2 ^ ((splitP x).exp + 2148).toNat else 0
def fvI (x : Nat) : Int := if (splitP x).neg = true then -(fvN x : Int) else (fvN x : Int)
theorem b64 (e : Nat) : 18446744073709551616 ^ (e / 64) * 2 ^ (e % 64) = 2 ^ e := by
  rw [show (18446744073709551616 : Nat) = 2 ^ 64 from rfl, ← Nat.pow_mul, ← Nat.pow_add]
  congr 1; omega
theorem thv_one (x : Nat) : thv (oneP x) = fvI x := by
  unfold thv oneP fvI fvN
  by_cases h : (splitP x).cls = 1 ∨ (splitP x).cls = 2
  · obtain ⟨h1, h2, h3, h4⟩ := splitP_fin h
    rw [if_pos h, if_pos h]
    dsimp only
    rw [if_pos h, laidW_val (by omega) (by omega)]
    have e : (0 * 18446744073709551616 + (splitP x).frac) * 2 ^ (((splitP x).exp + 2148).toNat % 64) * 18446744073709551616 ^ (((splitP x).exp + 2148).toNat / 64) = (splitP x).frac * 2 ^ ((splitP x).exp + 2148).toNat := by
      rw [← b64 ((splitP x).exp + 2148).toNat, Nat.zero_mul, Nat.zero_add]; ac_rfl
    rw [e]
  · simp [h]
theorem fvN_lt (x : Nat) : fvN x < 2 ^ 3172 := by
  unfold fvN
  split
  · rename_i h
    obtain ⟨h1, h2, h3, h4⟩ := splitP_fin h
    have h5 : 2 ^ ((splitP x).exp + 2148).toNat ≤ 2 ^ 3119 := Nat.pow_le_pow_right (by decide) (by omega)
    have h6 : (splitP x).frac * 2 ^ ((splitP x).exp + 2148).toNat < 9007199254740992 * 2 ^ 3119 := Nat.lt_of_lt_of_le (Nat.mul_lt_mul_of_pos_right h4 (Nat.two_pow_pos _)) (Nat.mul_le_mul_left _ h5)
    rw [show (9007199254740992 : Nat) = 2 ^ 53 from rfl, ← Nat.pow_add] at h6
    exact h6
  · exact Nat.two_pow_pos _
/-- A product's, in units of 2^-2148. -/
theorem thv_prod {x y : Nat} (hx : (splitP x).cls ≤ 2) (hy : (splitP y).cls ≤ 2) : thv (prodP x y) * (2 ^ 2148 : Nat) = fvI x * fvI y := by
  unfold prodP
  rw [if_neg (by omega), if_neg (by omega)]
  by_cases h : (splitP x).cls = 0 ∨ (splitP y).cls = 0
  · rw [if_pos h]
    have e : fvN x = 0 ∨ fvN y = 0 := by
      unfold fvN
      rcases h with h | h
      · left; rw [if_neg (by omega)]
      · right; rw [if_neg (by omega)]
    have e1 : fvI x * fvI y = 0 := by
      unfold fvI
      rcases e with e | e
      · rw [e]; simp
      · rw [e]; simp
    rw [e1]
    unfold thv
    simp
  · rw [if_neg h]
    have hcx : (splitP x).cls = 1 ∨ (splitP x).cls = 2 := by omega
    have hcy : (splitP y).cls = 1 ∨ (splitP y).cls = 2 := by omega
    obtain ⟨h1, h2, h3, h4⟩ := splitP_fin hcx
    obtain ⟨k1, k2, k3, k4⟩ := splitP_fin hcy
    unfold thv
    dsimp only
    rw [if_pos (.inr rfl), laidW_val (Nat.mod_lt _ (by decide)) (Nat.mod_lt _ (by decide))]
    have e0 : (splitP x).frac * (splitP y).frac / 18446744073709551616 * 18446744073709551616 + (splitP x).frac * (splitP y).frac % 18446744073709551616 = (splitP x).frac * (splitP y).frac := Nat.div_add_mod' ..
    rw [e0]
    have e : (splitP x).frac * (splitP y).frac * 2 ^ (((splitP x).exp + (splitP y).exp + 2148).toNat % 64) * 18446744073709551616 ^ (((splitP x).exp + (splitP y).exp + 2148).toNat / 64) * 2 ^ 2148 = fvN x * fvN y := by
      unfold fvN
      rw [if_pos hcx, if_pos hcy]
      have e2 := b64 ((splitP x).exp + (splitP y).exp + 2148).toNat
      have e3 : 2 ^ ((splitP x).exp + (splitP y).exp + 2148).toNat * 2 ^ 2148 = 2 ^ ((splitP x).exp + 2148).toNat * 2 ^ ((splitP y).exp + 2148).toNat := by
        rw [← Nat.pow_add, ← Nat.pow_add]; congr 1; omega
      calc _ = (splitP x).frac * (splitP y).frac * ((18446744073709551616 ^ (((splitP x).exp + (splitP y).exp + 2148).toNat / 64) * 2 ^ (((splitP x).exp + (splitP y).exp + 2148).toNat % 64)) * 2 ^ 2148) := by ac_rfl
        _ = (splitP x).frac * (splitP y).frac * (2 ^ ((splitP x).exp + 2148).toNat * 2 ^ ((splitP y).exp + 2148).toNat) := by rw [e2, e3]
        _ = _ := by ac_rfl
    generalize (splitP x).frac * (splitP y).frac * 2 ^ (((splitP x).exp + (splitP y).exp + 2148).toNat % 64) * 18446744073709551616 ^ (((splitP x).exp + (splitP y).exp + 2148).toNat / 64) = p at e
    have ei : (p : Int) * (2 ^ 2148 : Nat) = (fvN x : Int) * (fvN y : Int) := by rw [← Int.natCast_mul, e, Int.natCast_mul]
    unfold fvI
    cases (splitP x).neg <;> cases (splitP y).neg <;> simp only [bne_self_eq_false, Bool.true_bne, Bool.false_bne, Bool.not_false, Bool.not_true, if_true, if_false, Bool.false_eq_true, Int.neg_mul, Int.mul_neg, Int.neg_neg] <;> rw [ei]
theorem thv_prod_lt {x y : Nat} (hx : (splitP x).cls ≤ 2) (hy : (splitP y).cls ≤ 2) : (thv (prodP x y)).natAbs < 2 ^ 4196 := by
  have h := thv_prod hx hy
  have h1 := fvN_lt x
  have h2 := fvN_lt y
  have h3 : (fvI x * fvI y).natAbs = fvN x * fvN y := by
    rw [Int.natAbs_mul]
    unfold fvI
    split <;> split <;> simp
  have h4 : fvN x * fvN y < 2 ^ 3172 * 2 ^ 3172 := Nat.mul_lt_mul_of_lt_of_lt h1 h2
  rw [← Nat.pow_add] at h4
  rw [← h3, ← h, Int.natAbs_mul, Int.natAbs_natCast] at h4
  apply Nat.lt_of_mul_lt_mul_right (a := 2 ^ 2148)
  rw [← Nat.pow_add]; exact h4
/-- A list's sum. -/
def sumI (l : List Nat) : Int := (l.map fvI).sum
theorem sum_snoc (l : List Int) (x : Int) : (l ++ [x]).sum = l.sum + x := by
  induction l with
  | nil => simp
  | cons a l ih => simp only [List.cons_append, List.sum_cons, ih]; omega
theorem sumI_step {l : List Nat} {i : Nat} (h : i < l.length) : sumI (l.take (i + 1)) = sumI (l.take i) + fvI (l.getD i 0) := by
  unfold sumI
  rw [take_step h, List.map_append, List.map_cons, List.map_nil, sum_snoc]
theorem fvI_abs (x : Nat) : (fvI x).natAbs = fvN x := by unfold fvI; split <;> simp
theorem sumI_le : ∀ (l : List Nat), (sumI l).natAbs ≤ l.length * 2 ^ 3172
  | [] => by simp [sumI]
  | x :: l => by
    have h1 := sumI_le l
    have h2 := fvN_lt x
    have h3 := fvI_abs x
    have e : sumI (x :: l) = fvI x + sumI l := by simp [sumI]
    rw [e, List.length_cons, Nat.add_mul, Nat.one_mul]
    generalize 2 ^ 3172 = B at *
    generalize l.length * B = C at *
    omega
theorem BB_pow : 16384 * BB = 2 ^ 4238 := by
  unfold BB
  rw [show (18446744073709551616 : Nat) = 2 ^ 64 from rfl, ← Nat.pow_mul, show (16384 : Nat) = 2 ^ 14 from rfl, ← Nat.pow_add]
theorem sumI_in {l : List Nat} (h : l.length ≤ 1099511627776) : -((16384 * BB : Nat) : Int) < sumI l ∧ sumI l < (16384 * BB : Nat) := by
  have h1 := sumI_le l
  have h2 : l.length * 2 ^ 3172 < 2 ^ 41 * 2 ^ 3172 := Nat.mul_lt_mul_of_pos_right (by omega) (Nat.two_pow_pos _)
  rw [← Nat.pow_add] at h2
  have h3 : 2 ^ (41 + 3172) ≤ 16384 * BB := by rw [BB_pow]; exact Nat.pow_le_pow_right (by decide) (by decide)
  generalize 16384 * BB = M at *
  generalize 2 ^ (41 + 3172) = M2 at *
  omega
/-- A sum of products, in units of 2^-2148. -/
def sumP : List Nat → List Nat → Int
  | x :: l, y :: k => thv (prodP x y) + sumP l k
  | _, _ => 0
theorem sumP_step : ∀ {l k : List Nat} {i : Nat}, i < l.length → l.length = k.length → sumP (l.take (i + 1)) (k.take (i + 1)) = sumP (l.take i) (k.take i) + thv (prodP (l.getD i 0) (k.getD i 0))
  | x :: l, y :: k, 0, _, _ => by simp [sumP]
  | x :: l, y :: k, i + 1, h, e => by
    have := sumP_step (l := l) (k := k) (i := i) (by simpa using h) (by simpa using e)
    simp only [List.take_succ_cons, List.getD_cons_succ, sumP] at this ⊢
    rw [this]; omega
  | _ :: _, [], _, _, e => by simp at e
theorem sumP_le : ∀ {l k : List Nat}, (∀ x ∈ l, (splitP x).cls ≤ 2) → (∀ x ∈ k, (splitP x).cls ≤ 2) → (sumP l k).natAbs ≤ l.length * 2 ^ 4196
  | [], k, _, _ => by simp [sumP]
  | x :: l, [], _, _ => by simp [sumP]
  | x :: l, y :: k, hl, hk => by
    have h1 := sumP_le (l := l) (k := k) (fun z hz => hl z (List.mem_cons_of_mem _ hz)) (fun z hz => hk z (List.mem_cons_of_mem _ hz))
    have h2 := thv_prod_lt (hl x (List.mem_cons_self ..)) (hk y (List.mem_cons_self ..))
    simp only [sumP, List.length_cons]
    rw [Nat.add_mul, Nat.one_mul]
    generalize 2 ^ 4196 = B at *
    generalize l.length * B = C at *
    omega
theorem sumP_in {l k : List Nat} (hl : ∀ x ∈ l, (splitP x).cls ≤ 2) (hk : ∀ x ∈ k, (splitP x).cls ≤ 2) (h : l.length ≤ 1099511627776) : -((16384 * BB : Nat) : Int) < sumP l k ∧ sumP l k < (16384 * BB : Nat) := by
  have h1 := sumP_le hl hk
  have h2 : l.length * 2 ^ 4196 < 2 ^ 41 * 2 ^ 4196 := Nat.mul_lt_mul_of_pos_right (by omega) (Nat.two_pow_pos _)
  rw [← Nat.pow_add] at h2
  have h3 : 2 ^ (41 + 4196) ≤ 16384 * BB := by rw [BB_pow]; exact Nat.pow_le_pow_right (by decide) (by decide)
  generalize 16384 * BB = M at *
  generalize 2 ^ (41 + 4196) = M2 at *
  omega
theorem cnt1_le {s : SP} {n : Nat} (h : s.le n) (c : Nat) (neg : Bool) : (cnt1 s c neg).le (n + 1) := by
  obtain ⟨a, b, c2, d, e, f⟩ := h
  unfold cnt1
  repeat' split
  all_goals (refine ⟨?_, ?_, ?_, ?_, ?_, ?_⟩ <;> dsimp only <;> omega)
end Go.Proofs.YtphnpchmdpjabaaGreatDoor

/- Package mean: clean, right, told, all. No condition. -/
namespace Go.Proofs.YtphnpchmdpjabaaGreatDoor
open Go Sx Wd
set_option exponentiation.threshold 5000

set_option maxRecDepth 8000 in
theorem clean_spec (b6 b7 x : Nat) (e : Int) (w : World) (h6 : BK w b6 28 [.float .f64 x]) (h7 : BK w b7 29 [.int .i64 e]) (hne : b6 ≠ b7) : RetD Tryz.prog 31 [.pointer (some ⟨b6, 0, none⟩), .pointer (some ⟨b7, 0, none⟩)] w fun u w' => BK w' b6 28 [.float .f64 (if e = 0 then x else 0)] ∧ BK w' b7 29 [.int .i64 e] ∧ Chg [b6] w w' := by
  have hch : Chg [b6] w w := Chg.refl _ _
  refine RetD.enter Tryz.func31 rfl rfl ?_
  simp only [args0, Nat.zero_add, Nat.reduceAdd]
  refine Sq fun _ kh1 _ kr2 => ?_
  refine Mv rfl rfl ?_
  refine WL.ev (Ev.nilPtr rfl) rfl ?_
  refine WL.ev (Ev.load rfl rfl (h7.at_ rfl)) rfl ?_
  refine WL.ev (Ev.neq rfl rfl) rfl ?_
  refine WL.nil (kr2 _ _ _ (kh1 _ _ _ ?_))
  refine CW.cond rfl (fun hc1 => ?_) (fun hc1 => ?_)
  ·
    try simp only [qs] at hc1
    have he0 : e ≠ 0 := hc1
    refine CW.region fun kR3 kr3 => ?_
    refine Mv rfl rfl ?_
    refine WL.ev (Ev.nilPtr rfl) rfl ?_
    refine WL.storeC rfl rfl o1 h6 (by simp) rfl fun ws1 h6_ hcs1 => ?_
    try simp only [Sx.splice, qt] at h6_
    have hch := hch.s1 hcs1
    have h7 := h7.keep hcs1 (by simp; omega)
    have h6 := h6_
    refine WL.nil (kr3 _ _ _ ?_)
    refine bodyA.norm0 rfl ?_
    refine ⟨?_, h7, hch⟩
    rw [if_neg he0]; exact h6
  ·
    try simp only [qs] at hc1
    have he0 : e = 0 := by have := hc1; omega
    refine CW.skip ?_
    refine bodyA.norm0 rfl ?_
    refine ⟨?_, h7, hch⟩
    rw [if_pos he0]; exact h6

/-- The door of a function that defers clean. -/
theorem clean_door {fn : Func} {n : Nat} {s : Sl} {w : World} {R : Value → World → Prop} {t6 t7 b6 b7 x : Nat} {e : Int} (hr : fn.results = #[.cell t6 28, .cell t7 29]) (l6 : Sx.look s t6 = some (.pointer (some ⟨b6, 0, none⟩))) (l7 : Sx.look s t7 = some (.pointer (some ⟨b7, 0, none⟩)))
    (h6 : BK w b6 28 [.float .f64 x]) (h7 : BK w b7 29 [.int .i64 e]) (hne : b6 ≠ b7) (h : ∀ w', Chg [b6] w w' → R (.tuple [.float .f64 (if e = 0 then x else 0), .int .i64 e].toArray) w') :
    bodyD Tryz.prog fn n 31 R .ret [⟨.fn (.func 31) #[], [.pointer (some ⟨b6, 0, none⟩), .pointer (some ⟨b7, 0, none⟩)].toArray⟩] s w :=
  bodyD.retR2 hr rfl ((clean_spec b6 b7 x e w h6 h7 hne).mono fun _ w' ⟨q6, q7, hc⟩ => ⟨_, _, RVal.cell l6 (q6.var1 rfl rfl), RVal.cell l7 (q7.var1 rfl rfl), h w' hc⟩)

theorem right_spec (mode : Int) (w : World) : Ret Tryz.prog 32 [.int .i64 mode] w fun u w' => u = .bool (decide (0 ≤ mode ∧ mode ≤ 4)) ∧ w = w' := by
 refine Ret.enter Tryz.func32 rfl rfl ?_
 simp only [args0, Nat.zero_add, Nat.reduceAdd]
 refine Sr fun _ kh1 => za rfl (zz (kh1 (Sr fun _ kh3 => zm rfl ?_)))
 refine WL.ev (Ev.geq rfl rfl) rfl ?_
 refine zm rfl ?_
 refine WL.boolCase (fun hg1 => ?_) (fun hg1 => ?_)
 ·
  try simp only [qs] at hg1
  have h1 : 0 ≤ mode := hg1
  refine zw rfl (zm rfl (zw rfl ?_))
  refine WL.ev (Ev.leq rfl rfl) rfl ?_
  refine zt rfl rfl (za rfl (zz (kh3 ?_)))
  refine CW.ret ?_
  refine bodyA.ret1 rfl rfl ?_
  refine ⟨congrArg Value.bool (decide_eq_decide.2 (by omega)), rfl⟩
 ·
  try simp only [qs] at hg1
  have h1 : ¬ 0 ≤ mode := by have := hg1; omega
  refine zv rfl (zv rfl (ze rfl rfl (za rfl (zz (kh3 ?_)))))
  refine CW.ret ?_
  refine bodyA.ret1 rfl rfl ?_
  refine ⟨?_, rfl⟩
  rw [decide_eq_false (by omega)]

/-- What told answers. -/
def toldR (d : Dy) (n : Nat) (s : SP) (mode : Int) (bits : Nat) (e : Int) : Prop :=
  (d.m = 0 ∧ bits = noughtP s mode ∧ e = 0) ∨ (d.m ≠ 0 ∧ QuotP d.neg (intD n).neg d.m (intD n).m d.e (intD n).e mode bits e)
theorem intD_ok {n : Int} (h : n.natAbs < 18446744073709551616) : (intD n).ok := formD_ok (intD_eq h)
theorem ok_e {d : Dy} (h : d.ok) : -9223372036854775808 ≤ d.e ∧ d.e ≤ 9223372036854775807 := by have := h.e; omega

set_option maxRecDepth 8000 in
set_option maxHeartbeats 1000000 in
theorem told_spec (d : Dy) (r : Value) (n : Nat) (s : SP) (mode : Int) (w : World) (hr : NU w r (wd d.m)) (hok : d.ok) (hn : n ≤ 1099511627776) (hs : s.le 1000000000000000) (hg : GW w) : Ret Tryz.prog 34 [.agg [.bool d.neg, r, .int .i64 d.e].toArray, .int .i64 (n : Int), .agg [.int .i64 (s.na : Int), .int .i64 (s.up : Int), .int .i64 (s.dn : Int), .int .i64 (s.mi : Int), .int .i64 (s.pl : Int), .int .i64 (s.al : Int)].toArray, .int .i64 mode] w fun u w' => (∃ bits e, u = .tuple [.float .f64 bits, .int .i64 e].toArray ∧ toldR d n s mode bits e) ∧ Chg [] w w' := by
 have hch : Chg [] w w := Chg.refl _ _
 have hor := hr.one
 have hg0 := hg
 refine Ret.enter Tryz.func34 rfl rfl ?_
 simp only [args0, Nat.zero_add, Nat.reduceAdd]
 refine Sr fun _ kh1 => ?_
 refine WL.boxB rfl rfl rfl fun b4 wm4 hb4 hcm4 hge4 => ?_
 have hgehch4 := Nat.le_trans hch.size hge4
 have hch := hch.trans (Chg.any hcm4)
 have hr := hr.keep0 hcm4
 refine WL.boxB rfl rfl rfl fun b6 wm6 hb6 hcm6 hge6 => ?_
 have hgehch6 := Nat.le_trans hch.size hge6
 have hch := hch.trans (Chg.any hcm6)
 have hr := hr.keep0 hcm6
 have hneb46 : b4 ≠ b6 := by have := hb4.lt; omega
 have hb4 := hb4.keep0 hcm6
 refine za rfl (za rfl (zz (kh1 (zc fun _ kh3 => Sr fun _ kh4 => zg hb4 rfl ?_))))
 refine WL.call hasF58 rfl rfl (Sign_dspec d.neg r (wd d.m) d.e _ hr) fun v w1 h' => ?_
 obtain ⟨rfl, hC11⟩ := h'
 rw [val_wd]
 have hch := hch.trans (Chg.any hC11)
 have hb4 := hb4.keep0 hC11
 have hb6 := hb6.keep0 hC11
 have hr := hr.keep0 hC11
 refine zq rfl rfl (zz (kh4 ?_))
 refine CW.cond rfl (fun hc1 => ?_) (fun hc1 => ?_)
 ·
  try simp only [qs] at hc1
  have h0 : d.m = 0 := sgD_zero.1 hc1
  refine Sr fun _ kh6 => zg hb6 rfl (zm rfl ?_)
  refine WL.call hasF79 rfl rfl (Nought_spec s mode _ hs) fun v w2 h' => ?_
  obtain ⟨rfl, hC15⟩ := h'
  have hch := hch.trans (Chg.any hC15)
  have hb4 := hb4.keep0 hC15
  have hb6 := hb6.keep0 hC15
  have hr := hr.keep0 hC15
  refine za rfl (za rfl (zz (kh6 ?_)))
  refine CW.ret ?_
  refine bodyA.ret2 rfl rfl rfl ?_
  exact ⟨⟨_, _, rfl, .inl ⟨h0, rfl, rfl⟩⟩, hch⟩
 ·
  try simp only [qs] at hc1
  have h0 : d.m ≠ 0 := fun e => hc1 (sgD_zero.2 e)
  refine CW.skip ?_
  refine kh3 (zc fun _ kh8 => ?_)
  refine CW.regionHC 10 rfl hmix fun kR9 kr9 hS hdr => ?_
  have hch := hch.trans (Chg.any hdr)
  have hb4 := hb4.keep0 hdr
  have hb6 := hb6.keep0 hdr
  have hr := hr.keep0 hdr
  have hch_r := hch
  have hb4_r := hb4
  have hb6_r := hb6
  refine wh 0 rfl hS (fun _ hw' => Ev.loadA rfl rfl (hb4_r.keep0 hw') rfl) (wh 1 rfl hS (fun _ _ => Ev.move rfl) (wh 4 rfl hS (fun _ _ => Ev.move rfl) ?_))
  refine WH.oneCall 2 rfl (by kernel_rfl) hasF56 rfl rfl (Int_spec (n : Int) _ (hg0.keep0 hch) (by omega)) fun v w3 h' => ?_
  obtain ⟨⟨rn, rfl, hN18⟩, hC18⟩ := h'
  have hch := hch.trans (Chg.any hC18)
  have hb4 := hb4.keep0 hC18
  have hb6 := hb6.keep0 hC18
  have hr := hr.keep0 hC18
  have hS := hS.trans hC18
  refine ⟨hS, ?_⟩
  refine wh 3 rfl hS (fun _ _ => Ev.build (vs := _) (cs := [_, _, _, _, _, _]) rfl rfl) ?_
  refine WH.oneCall 5 rfl (by kernel_rfl) hasF73 rfl rfl (Quot_spec d.neg (intD n).neg r rn (wd d.m) (wd (intD n).m) d.e (intD n).e mode _ hr hN18 (hg0.keep0 hch) (ok_e hok) (ok_e (intD_ok (by omega)))) fun v w4 h' => ?_
  obtain ⟨⟨bits, e, rfl, hQ⟩, hC21⟩ := h'
  rw [val_wd, val_wd] at hQ
  have hch := hch.trans (Chg.any hC21)
  have hb4 := hb4.keep0 hC21
  have hb6 := hb6.keep0 hC21
  have hr := hr.keep0 hC21
  have hN18 := hN18.keep0 hC21
  have hS := hS.trans hC21
  refine ⟨hS, ?_⟩
  refine wh 6 rfl hS (fun _ _ => Ev.extract rfl rfl) (wh 7 rfl hS (fun _ _ => Ev.extract rfl rfl) (wh 8 rfl hS (fun _ _ => Ev.assign rfl) (wh 9 rfl hS (fun _ _ => Ev.assign rfl) ?_)))
  refine WH.done (by kernel_rfl) (kr9 _ _ _ ?_)
  refine kh8 ?_
  refine CW.ret ?_
  refine bodyA.ret2 rfl rfl rfl ?_
  exact ⟨⟨_, _, rfl, .inr ⟨h0, hQ⟩⟩, hch⟩

structure KAll (l : List Nat) (b : Nat) (w0 : World) (g : Nat × List Nat × SP) (w : World) : Prop where
  hi : g.1 ≤ l.length
  hB : TB w b 107 g.2.1 g.2.2.cells
  hr : Rep g.2.1 (sumI (l.take g.1))
  hs : g.2.2.le g.1
  ch : Chg [] w0 w

set_option maxRecDepth 8000 in
theorem all_spec (v : Value) (l : List Nat) (w : World) (hv : NF w v l) (hl : l.length ≤ 65536) : Ret Tryz.prog 43 [v] w fun u w' => (∃ b C, ∃ s : SP, u = .pointer (some ⟨b, 0, none⟩) ∧ TB w' b 107 C s.cells ∧ Rep C (sumI l) ∧ s.le 65536) ∧ Chg [] w w' := by
 obtain ⟨⟨al, cl, rfl, hcap, hrl⟩, hWl, hll⟩ := hv
 have hch : Chg [] w w := Chg.refl _ _
 refine Ret.enter Tryz.func43 rfl rfl ?_
 simp only [args0, Nat.zero_add, Nat.reduceAdd]
 refine Sr fun _ kh1 => za rfl (zz (kh1 (Sr fun _ kh3 => ?_)))
 refine WL.call hasF26 rfl rfl (New_spec _) fun v w1 h' => ?_
 obtain ⟨b, rfl, hB6, hge6, hC6⟩ := h'
 have hch := hch.trans hC6
 have hbge : w.heap.size ≤ b := hge6
 refine za rfl (zz (kh3 (zc fun _ kh5 => Sr fun _ kh6 => zm rfl (zn rfl (zm rfl (zz (kh6 ?_)))))))
 refine CW.block ?_
 refine CW.loop (S := fun g : Nat × List Nat × SP => [(3, .pointer (some ⟨b, 0, none⟩)), (7, .slice al l.length cl), (8, .int .i64 (l.length : Int)), (9, .int .i64 (g.1 : Int))]) (Inv := KAll l b w) (mu := fun g => l.length - g.1) ((0, List.replicate 67 0, SP.zero)) ?_ ?_ ?_
 ·
  exact ⟨Nat.zero_le _, hB6, by rw [List.take_zero]; exact Rep.zero, ⟨by decide, by decide, by decide, by decide, by decide, by decide⟩, hch⟩
 ·
  exact SLp
 ·
  rintro ⟨i, C, s⟩ wr ⟨hi, hB, hr, hs, hch⟩
  dsimp only at hi hB hr hs hch
  dsimp only
  have hx := D_getD hWl i
  refine Sr fun _ kh8 => ?_
  refine WL.ev (Ev.lss rfl rfl) rfl ?_
  refine zz (kh8 (zc fun _ kh10 => ?_))
  refine CW.cond rfl (fun hc1 => ?_) (fun hc1 => ?_)
  ·
   try simp only [qs] at hc1
   have hst := sumI_step (l := l) (i := i) (by omega)
   have hin := sumI_in (l := l.take (i + 1)) (by rw [List.length_take]; omega)
   rw [hst, ← thv_one] at hin
   refine CW.skip ?_
   refine kh10 (zc fun _ kh11 => ?_)
   refine CW.block ?_
   refine Sr fun _ kh12 => ?_
   refine WL.ev (Ev.ixR (i) rfl rfl (hrl.keep0 hch) (by omega) (by omega) (by simp; omega)) rfl ?_
   refine WL.ev (Ev.load rfl rfl ((hrl.keep0 hch).f64 (by first | omega | (simp; omega)))) rfl ?_
   refine za rfl (zz (kh12 ?_))
   refine CW.region fun kR14 kr14 => ?_
   refine zm rfl (zm rfl ?_)
   refine WL.call hasF27 rfl rfl (acAdd_spec b C (l.getD i 0) s (sumI (l.take i)) _ hB hr hx (hs.mono (by omega)) hin.1 hin.2) fun v w2 h' => ?_
   obtain ⟨rfl, C2, hB2, hr2, hC15⟩ := h'
   rw [thv_one, ← hst] at hr2
   have hch := hch.step hC15 (fun y hy => by simp only [List.mem_singleton] at hy; subst hy; exact .inr hbge)
   refine WL.nil (kr14 _ _ _ (kh11 ?_))
   refine CW.region fun kR15 kr15 => ?_
   first | refine WL.ev (Ev.addIn rfl rfl (by omega)) rfl ?_ | refine WL.ev (Ev.add rfl rfl) rfl ?_
   refine zm rfl ?_
   refine WL.nil (kr15 _ _ _ ?_)
   refine ⟨rfl, (i + 1, C2, cnt1 s (splitP (l.getD i 0)).cls (splitP (l.getD i 0)).neg), ?_, ?_, ?_⟩
   ·
    exact SLp
   ·
    exact ⟨by show i + 1 ≤ l.length; omega, hB2, hr2, cnt1_le hs _ _, hch⟩
   ·
    show l.length - (i + 1) < l.length - i; omega
  ·
   try simp only [qs] at hc1
   have hiX : i = l.length := by omega
   subst hiX
   rw [List.take_length] at hr
   refine CW.exit ?_
   refine kh5 (Sr fun _ kh16 => zm rfl (za rfl (zz (kh16 ?_))))
   refine CW.ret ?_
   refine bodyA.ret1 rfl rfl ?_
   exact ⟨⟨b, C, s, rfl, hB, hr, hs.mono hl⟩, hch⟩

end Go.Proofs.YtphnpchmdpjabaaGreatDoor

/- Package mean: Mean. No condition. -/
namespace Go.Proofs.YtphnpchmdpjabaaGreatDoor
open Go Sx Wd
set_option exponentiation.threshold 5000

def isF64 : Value → Bool
  | .float .f64 _ => true
  | _ => false
theorem NF.one {w : World} {v : Value} {l : List Nat} (h : NF w v l) : v.oneCell' = true := by
  obtain ⟨⟨a, c, rfl, _⟩, _⟩ := h; rfl
/-- A list stays where a block turns that holds no numbers. -/
theorem NF.keepBK {w w' : World} {v : Value} {l : List Nat} {b : Nat} {T : TypeId} {cs : List Value} (h : NF w v l) (hb : BK w b T cs) (hc : Chg [b] w w') (hn : ∀ c ∈ cs, isF64 c = false) : NF w' v l := by
  obtain ⟨⟨a, c, h1, h2, h3⟩, h4, h5⟩ := h
  refine ⟨⟨a, c, h1, h2, fun i u hu => ?_⟩, h4, h5⟩
  obtain ⟨ad, e, hcell⟩ := h3 i u hu
  refine ⟨ad, e, hc.cell hcell fun hm => ?_⟩
  simp only [List.mem_singleton] at hm
  have hx : isF64 u = true := by
    rw [List.getElem?_map] at hu
    cases hq : l[i]? with
    | none => rw [hq] at hu; cases hu
    | some y => rw [hq] at hu; cases hu; rfl
  have hlk := hcell
  cases had : ad.add i with
  | mk b' o' sp =>
    rw [had] at hlk hm
    simp only at hm
    subst hm
    cases sp with
    | none =>
      rw [cell_at hb] at hlk
      have := hn u (List.mem_of_getElem? hlk)
      rw [hx] at this; cases this
    | some q =>
      have : w.cell? ⟨b', o', some q⟩ = none := by simp [World.cell?, show w.heap[b']? = _ from hb]
      rw [this] at hlk; cases hlk
theorem QuotP.err {nn nd : Bool} {ln ld : Nat} {en ed mode : Int} {bits : Nat} {e : Int} (h : QuotP nn nd ln ld en ed mode bits e) : (if e = 0 then bits else 0) = bits := by
  rcases h with ⟨_, rfl, rfl⟩ | ⟨_, ⟨_, rfl, rfl⟩ | ⟨_, _, rfl, rfl⟩ | ⟨_, x, y, _, _, ⟨_, rfl, rfl⟩ | ⟨_, r, _, _, _, rfl⟩⟩⟩ <;> simp
theorem toldR.err {d : Dy} {n : Nat} {s : SP} {mode : Int} {bits : Nat} {e : Int} (h : toldR d n s mode bits e) : (if e = 0 then bits else 0) = bits := by
  rcases h with ⟨_, _, rfl⟩ | ⟨_, h⟩
  · simp
  · exact h.err
/-- What Mean answers. -/
def meanR (l : List Nat) (mode pn pi : Int) (bits : Nat) (e : Int) : Prop :=
  (¬ (0 ≤ mode ∧ mode ≤ 4) ∧ bits = 0 ∧ e = 1) ∨ ((0 ≤ mode ∧ mode ≤ 4) ∧
    ((siftE l pn pi ≠ 0 ∧ bits = 0 ∧ e = siftE l pn pi) ∨ (siftE l pn pi = 0 ∧
      ((verdP (cntP l) pn pi = some bits ∧ e = 0) ∨ (verdP (cntP l) pn pi = none ∧
        ((filP l = [] ∧ bits = 0 ∧ e = 3) ∨ (filP l ≠ [] ∧ toldR (sumD (sumI (filP l))) (filP l).length (cntP l) mode bits e)))))))
theorem filP_le (l : List Nat) : (filP l).length ≤ l.length := List.length_filter_le _ _
theorem siftE_len {l : List Nat} {pn pi : Int} (h : siftE l pn pi = 0) : l.length ≤ 65536 ∧ mayQ pn pi := by
  unfold siftE at h
  split at h
  · cases h
  · split at h
    · cases h
    · rename_i h1 h2; exact ⟨by omega, Classical.not_not.1 h1⟩
theorem sumD_ok {S : Int} (h1 : -((16384 * BB : Nat) : Int) < S) (h2 : S < (16384 * BB : Nat)) : (sumD S).ok := by
  have := sumD_eq h1 h2 (decide (S < 0))
  unfold sumD; rw [this]; exact formD_ok this

set_option maxRecDepth 8000 in
set_option maxHeartbeats 1000000 in
theorem Mean_spec (v : Value) (l : List Nat) (mode pn pi : Int) (w : World) (hv : NF w v l) (hg : GW w) : Ret Tryz.prog 15 [v, .int .i64 mode, .agg [.int .i64 pn, .int .i64 pi].toArray] w fun u w' => (∃ bits e, u = .tuple [.float .f64 bits, .int .i64 e].toArray ∧ meanR l mode pn pi bits e) ∧ Chg [] w w' := by
 have hch : Chg [] w w := Chg.refl _ _
 have hv0 := hv
 have hg0 := hg
 have hov := hv.one
 refine Ret.enterD 31 hasF31 Tryz.func15 rfl rfl ?_
 simp only [args0, Nat.zero_add, Nat.reduceAdd]
 refine Sr fun _ kh1 => ?_
 refine WL.boxB rfl rfl rfl fun b5 wm5 hb5 hcm5 hge5 => ?_
 have hgehch5 := Nat.le_trans hch.size hge5
 have hch := hch.trans (Chg.any hcm5)
 refine WL.allocB (l := [.float .f64 0]) rfl rfl fun b6 wm6 hb6 hcm6 hge6 => ?_
 have hgehch6 := Nat.le_trans hch.size hge6
 have hch := hch.trans (Chg.any hcm6)
 have hneb56 : b5 ≠ b6 := by have := hb5.lt; omega
 have hb5 := hb5.keep0 hcm6
 refine WL.allocB (l := [.int .i64 0]) rfl rfl fun b7 wm7 hb7 hcm7 hge7 => ?_
 have hgehch7 := Nat.le_trans hch.size hge7
 have hch := hch.trans (Chg.any hcm7)
 have hneb57 : b5 ≠ b7 := by have := hb5.lt; omega
 have hb5 := hb5.keep0 hcm7
 have hneb67 : b6 ≠ b7 := by have := hb6.lt; omega
 have hb6 := hb6.keep0 hcm7
 refine zz (kh1 (Sr fun _ kh3 => ?_))
 refine WL.defer rfl ?_
 refine zz (kh3 (zc fun _ kh5 => Sr fun _ kh6 => zm rfl ?_))
 refine WL.call hasF32 rfl rfl (right_spec mode _) fun v w1 h' => ?_
 obtain ⟨rfl, rfl⟩ := h'
 refine WL.ev (Ev.not rfl) rfl ?_
 refine zz (kh6 ?_)
 refine CW.cond rfl (fun hc1 => ?_) (fun hc1 => ?_)
 ·
  try simp only [qs] at hc1
  have hmode : ¬ (0 ≤ mode ∧ mode ≤ 4) := by simpa using hc1
  refine Sr fun _ kh8 => ?_
  refine WL.storeC rfl rfl o1 hb6 (by simp) rfl fun ws2 hb6_ hcs2 => ?_
  try simp only [Sx.splice, qt] at hb6_
  have hch := hch.s1 hcs2
  have hb5 := hb5.keep hcs2 (by simp; omega)
  have hb7 := hb7.keep hcs2 (by simp; omega)
  have hb6 := hb6_
  refine WL.storeC rfl rfl o1 hb7 (by simp) rfl fun ws3 hb7_ hcs3 => ?_
  try simp only [Sx.splice, qt] at hb7_
  have hch := hch.s1 hcs3
  have hb5 := hb5.keep hcs3 (by simp; omega)
  have hb6 := hb6.keep hcs3 (by simp; omega)
  have hb7 := hb7_
  refine zz (kh8 ?_)
  refine CW.ret ?_
  refine clean_door rfl rfl rfl hb6 hb7 hneb67 fun w9 hc9 => ?_
  have hch := hch.step hc9 (fun y hy => by simp only [List.mem_singleton] at hy; subst hy; exact .inr (by omega))
  exact ⟨⟨_, _, rfl, .inl ⟨hmode, rfl, rfl⟩⟩, hch⟩
 ·
  try simp only [qs] at hc1
  have hmode : 0 ≤ mode ∧ mode ≤ 4 := by simpa using hc1
  refine CW.skip ?_
  refine kh5 (Sr fun _ kh10 => zm rfl (zg hb5 rfl ?_))
  refine WL.call hasF41 rfl rfl (Sift_spec v l pn pi _ (hv0.keep0 hch)) fun v w2 h' => ?_
  have hsz18 := hch.size
  rcases h' with ⟨hse, rfl, hC18⟩ | ⟨hse, v2, hNf, rfl, hC18⟩
  ·
   have hch := hch.trans hC18
   have hb5 := hb5.keep0 hC18
   have hb6 := hb6.keep0 hC18
   have hb7 := hb7.keep0 hC18
   unfold SP.cells
   refine zm rfl (zx rfl rfl (zx rfl rfl (zx rfl rfl ?_)))
   refine WL.allocB (l := [.int .i64 0, .int .i64 0, .int .i64 0, .int .i64 0, .int .i64 0, .int .i64 0]) rfl rfl fun b9 wm9 hb9 hcm9 hge9 => ?_
   have hgehch9 := Nat.le_trans hch.size hge9
   have hch := hch.trans (Chg.any hcm9)
   have hneb59 : b5 ≠ b9 := by have := hb5.lt; omega
   have hb5 := hb5.keep0 hcm9
   have hneb69 : b6 ≠ b9 := by have := hb6.lt; omega
   have hb6 := hb6.keep0 hcm9
   have hneb79 : b7 ≠ b9 := by have := hb7.lt; omega
   have hb7 := hb7.keep0 hcm9
   refine za rfl ?_
   refine WL.storeB rfl rfl rfl ao hb9 (by simp) rfl fun ws4 hb9_ hcs4 => ?_
   try simp only [Sx.splice, qt] at hb9_
   have hch := hch.s1 hcs4
   have hb5 := hb5.keep hcs4 (by simp; omega)
   have hb6 := hb6.keep hcs4 (by simp; omega)
   have hb7 := hb7.keep hcs4 (by simp; omega)
   have hb9 := hb9_
   refine WL.storeC rfl rfl o1 hb7 (by simp) rfl fun ws5 hb7_ hcs5 => ?_
   try simp only [Sx.splice, qt] at hb7_
   have hch := hch.s1 hcs5
   have hb5 := hb5.keep hcs5 (by simp; omega)
   have hb6 := hb6.keep hcs5 (by simp; omega)
   have hb9 := hb9.keep hcs5 (by simp; omega)
   have hb7 := hb7_
   refine zz (kh10 (zc fun _ kh12 => Sr fun _ kh13 => zl hb7 rfl rfl ?_))
   refine WL.ev (Ev.neq rfl rfl) rfl ?_
   refine zz (kh13 ?_)
   refine CW.cond rfl (fun hc2 => ?_) (fun hc2 => ?_)
   ·
    try simp only [qs] at hc2
    refine Sr fun _ kh15 => zl hb7 rfl rfl ?_
    refine WL.storeC rfl rfl o1 hb6 (by simp) rfl fun ws6 hb6_ hcs6 => ?_
    try simp only [Sx.splice, qt] at hb6_
    have hch := hch.s1 hcs6
    have hb5 := hb5.keep hcs6 (by simp; omega)
    have hb7 := hb7.keep hcs6 (by simp; omega)
    have hb9 := hb9.keep hcs6 (by simp; omega)
    have hb6 := hb6_
    refine WL.storeC rfl rfl o1 hb7 (by simp) rfl fun ws7 hb7_ hcs7 => ?_
    try simp only [Sx.splice, qt] at hb7_
    have hch := hch.s1 hcs7
    have hb5 := hb5.keep hcs7 (by simp; omega)
    have hb6 := hb6.keep hcs7 (by simp; omega)
    have hb9 := hb9.keep hcs7 (by simp; omega)
    have hb7 := hb7_
    refine zz (kh15 ?_)
    refine CW.ret ?_
    refine clean_door rfl rfl rfl hb6 hb7 hneb67 fun w9 hc9 => ?_
    have hch := hch.step hc9 (fun y hy => by simp only [List.mem_singleton] at hy; subst hy; exact .inr (by omega))
    refine ⟨⟨_, _, rfl, .inr ⟨hmode, .inl ⟨hse, ?_, rfl⟩⟩⟩, hch⟩
    simp
   ·
    try simp only [qs] at hc2
    exact absurd hc2 hse
  ·
   have hch := hch.trans hC18
   have hb5 := hb5.keep0 hC18
   have hb6 := hb6.keep0 hC18
   have hb7 := hb7.keep0 hC18
   unfold SP.cells
   obtain ⟨hl65, hmay⟩ := siftE_len hse
   have hfl := filP_le l
   have hof := hNf.one
   refine zm rfl (zx rfl rfl (zx rfl rfl (zx rfl rfl ?_)))
   refine WL.allocB (l := [.int .i64 0, .int .i64 0, .int .i64 0, .int .i64 0, .int .i64 0, .int .i64 0]) rfl rfl fun b9 wm9 hb9 hcm9 hge9 => ?_
   have hgehch9 := Nat.le_trans hch.size hge9
   have hch := hch.trans (Chg.any hcm9)
   have hNf := hNf.keep0 hcm9
   have hneb59 : b5 ≠ b9 := by have := hb5.lt; omega
   have hb5 := hb5.keep0 hcm9
   have hneb69 : b6 ≠ b9 := by have := hb6.lt; omega
   have hb6 := hb6.keep0 hcm9
   have hneb79 : b7 ≠ b9 := by have := hb7.lt; omega
   have hb7 := hb7.keep0 hcm9
   refine za rfl ?_
   refine WL.storeB rfl rfl rfl ao hb9 (by simp) rfl fun ws8 hb9_ hcs8 => ?_
   try simp only [Sx.splice, qt] at hb9_
   have hch := hch.s1 hcs8
   have hb5 := hb5.keep hcs8 (by simp; omega)
   have hb6 := hb6.keep hcs8 (by simp; omega)
   have hb7 := hb7.keep hcs8 (by simp; omega)
   have hNf := hNf.keepBK hb9 hcs8 an
   have hb9 := hb9_
   refine WL.storeC rfl rfl o1 hb7 (by simp) rfl fun ws9 hb7_ hcs9 => ?_
   try simp only [Sx.splice, qt] at hb7_
   have hch := hch.s1 hcs9
   have hb5 := hb5.keep hcs9 (by simp; omega)
   have hb6 := hb6.keep hcs9 (by simp; omega)
   have hb9 := hb9.keep hcs9 (by simp; omega)
   have hNf := hNf.keepBK hb7 hcs9 an
   have hb7 := hb7_
   refine zz (kh10 (zc fun _ kh17 => Sr fun _ kh18 => zl hb7 rfl rfl ?_))
   refine WL.ev (Ev.neq rfl rfl) rfl ?_
   refine zz (kh18 ?_)
   refine CW.condF rfl ?_
   refine CW.skip ?_
   refine kh17 (zc fun _ kh20 => Sr fun _ kh21 => zg hb9 rfl (zg hb5 rfl ?_))
   refine WL.call hasF42 rfl rfl (Verdict_spec (cntP l) pn pi _ ((cnt_le l).mono (by omega))) fun v w3 h' => ?_
   obtain ⟨rfl, hC28⟩ := h'
   have hch := hch.trans (Chg.any hC28)
   have hb5 := hb5.keep0 hC28
   have hb6 := hb6.keep0 hC28
   have hb7 := hb7.keep0 hC28
   have hb9 := hb9.keep0 hC28
   have hNf := hNf.keep0 hC28
   refine zm rfl (zx rfl rfl (zx rfl rfl (za rfl (za rfl (zz (kh21 (Sr fun _ kh23 => zm rfl (zz (kh23 ?_)))))))))
   refine CW.cond rfl (fun hc3 => ?_) (fun hc3 => ?_)
   ·
    try simp only [qs] at hc3
    obtain ⟨vb, hvb⟩ := Option.isSome_iff_exists.1 hc3
    refine Sr fun _ kh25 => zm rfl ?_
    refine WL.storeC rfl rfl o1 hb6 (by simp) rfl fun ws10 hb6_ hcs10 => ?_
    try simp only [Sx.splice, qt] at hb6_
    have hch := hch.s1 hcs10
    have hb5 := hb5.keep hcs10 (by simp; omega)
    have hb7 := hb7.keep hcs10 (by simp; omega)
    have hb9 := hb9.keep hcs10 (by simp; omega)
    have hb6 := hb6_
    refine WL.storeC rfl rfl o1 hb7 (by simp) rfl fun ws11 hb7_ hcs11 => ?_
    try simp only [Sx.splice, qt] at hb7_
    have hch := hch.s1 hcs11
    have hb5 := hb5.keep hcs11 (by simp; omega)
    have hb6 := hb6.keep hcs11 (by simp; omega)
    have hb9 := hb9.keep hcs11 (by simp; omega)
    have hb7 := hb7_
    refine zz (kh25 ?_)
    refine CW.ret ?_
    refine clean_door rfl rfl rfl hb6 hb7 hneb67 fun w9 hc9 => ?_
    have hch := hch.step hc9 (fun y hy => by simp only [List.mem_singleton] at hy; subst hy; exact .inr (by omega))
    refine ⟨⟨_, _, rfl, .inr ⟨hmode, .inr ⟨hse, .inl ⟨?_, rfl⟩⟩⟩⟩, hch⟩
    rw [hvb]; rfl
   ·
    try simp only [qs] at hc3
    have hvn : verdP (cntP l) pn pi = none := by cases q : verdP (cntP l) pn pi with | none => rfl | some z => rw [q] at hc3; cases hc3
    refine CW.skip ?_
    refine kh20 (zc fun _ kh27 => Sr fun _ kh28 => zm rfl ?_)
    obtain ⟨ap, cp, rfl, hcapp, hrp⟩ := hNf.ex
    refine zn rfl (zq rfl rfl (zz (kh28 ?_)))
    refine CW.cond rfl (fun hc4 => ?_) (fun hc4 => ?_)
    ·
     try simp only [qs] at hc4
     have hnil : filP l = [] := List.length_eq_zero_iff.1 (by omega)
     refine Sr fun _ kh30 => ?_
     refine WL.storeC rfl rfl o1 hb6 (by simp) rfl fun ws12 hb6_ hcs12 => ?_
     try simp only [Sx.splice, qt] at hb6_
     have hch := hch.s1 hcs12
     have hb5 := hb5.keep hcs12 (by simp; omega)
     have hb7 := hb7.keep hcs12 (by simp; omega)
     have hb9 := hb9.keep hcs12 (by simp; omega)
     have hb6 := hb6_
     refine WL.storeC rfl rfl o1 hb7 (by simp) rfl fun ws13 hb7_ hcs13 => ?_
     try simp only [Sx.splice, qt] at hb7_
     have hch := hch.s1 hcs13
     have hb5 := hb5.keep hcs13 (by simp; omega)
     have hb6 := hb6.keep hcs13 (by simp; omega)
     have hb9 := hb9.keep hcs13 (by simp; omega)
     have hb7 := hb7_
     refine zz (kh30 ?_)
     refine CW.ret ?_
     refine clean_door rfl rfl rfl hb6 hb7 hneb67 fun w9 hc9 => ?_
     have hch := hch.step hc9 (fun y hy => by simp only [List.mem_singleton] at hy; subst hy; exact .inr (by omega))
     exact ⟨⟨_, _, rfl, .inr ⟨hmode, .inr ⟨hse, .inr ⟨hvn, .inl ⟨hnil, rfl, rfl⟩⟩⟩⟩⟩, hch⟩
    ·
     try simp only [qs] at hc4
     have hnn : filP l ≠ [] := fun e => by rw [e] at hc4; exact hc4 rfl
     have hin := sumI_in (l := filP l) (by omega)
     have hok := sumD_ok hin.1 hin.2
     refine CW.skip ?_
     refine kh27 (zc fun _ kh32 => ?_)
     refine CW.regionKC 10 12 rfl hmix fun kR33 kr33 hS hdr => ?_
     have hch := hch.trans (Chg.any hdr)
     have hb5 := hb5.keep0 hdr
     have hb6 := hb6.keep0 hdr
     have hb7 := hb7.keep0 hdr
     have hb9 := hb9.keep0 hdr
     have hNf := hNf.keep0 hdr
     have hch_r := hch
     have hb5_r := hb5
     have hb6_r := hb6
     have hb7_r := hb7
     have hb9_r := hb9
     refine wk 0 rfl hS (fun _ _ => Ev.move rfl) (wk 3 rfl hS (fun _ _ => Ev.move rfl) (wk 4 rfl hS (fun _ _ => Ev.len rfl) (wk 5 rfl hS (fun _ hw' => Ev.loadA rfl rfl (hb9_r.keep0 hw') rfl) (wk 6 rfl hS (fun _ _ => Ev.move rfl) ?_))))
     refine WK.oneCall 1 rfl (by kernel_rfl) hasF43 rfl rfl (all_spec _ (filP l) _ hNf (by omega)) fun v w4 h' => ?_
     obtain ⟨⟨ba, C, sa, rfl, hBa, hRa, hsa⟩, hC37⟩ := h'
     have hch := hch.trans (Chg.any hC37)
     have hb5 := hb5.keep0 hC37
     have hb6 := hb6.keep0 hC37
     have hb7 := hb7.keep0 hC37
     have hb9 := hb9.keep0 hC37
     have hNf := hNf.keep0 hC37
     have hS := hS.trans hC37
     refine ⟨hS, ?_⟩
     refine WK.oneCall 2 rfl (by kernel_rfl) hasF28 rfl rfl (Exact_spec ba C (sumI (filP l)) _ hBa hRa (hg0.keep0 hch) hin.1 hin.2) fun v w5 h' => ?_
     obtain ⟨⟨rx, rfl, hNx⟩, hC38⟩ := h'
     have hch := hch.trans (Chg.any hC38)
     have hb5 := hb5.keep0 hC38
     have hb6 := hb6.keep0 hC38
     have hb7 := hb7.keep0 hC38
     have hb9 := hb9.keep0 hC38
     have hNf := hNf.keep0 hC38
     have hS := hS.trans hC38
     refine ⟨hS, ?_⟩
     refine WK.oneCall 7 rfl (by kernel_rfl) hasF34 rfl rfl (told_spec (sumD (sumI (filP l))) rx (filP l).length (cntP l) mode _ hNx hok (by omega) ((cnt_le l).mono (by omega)) (hg0.keep0 hch)) fun v w6 h' => ?_
     obtain ⟨⟨bits, e, rfl, hT⟩, hC43⟩ := h'
     have hch := hch.trans (Chg.any hC43)
     have hb5 := hb5.keep0 hC43
     have hb6 := hb6.keep0 hC43
     have hb7 := hb7.keep0 hC43
     have hb9 := hb9.keep0 hC43
     have hNf := hNf.keep0 hC43
     have hNx := hNx.keep0 hC43
     have hS := hS.trans hC43
     refine ⟨hS, ?_⟩
     refine wk 8 rfl hS (fun _ _ => Ev.extract rfl rfl) (wk 9 rfl hS (fun _ _ => Ev.extract rfl rfl) ?_)
     refine WK.storeC 10 rfl (by kernel_rfl) (by kernel_rfl) rfl rfl o1 hb6 (by simp) rfl fun ws14 hb6_ hcs14 => ?_
     try simp only [Sx.splice, qt] at hb6_
     have hch := hch.s1 hcs14
     have hb5 := hb5.keep hcs14 (by simp; omega)
     have hb7 := hb7.keep hcs14 (by simp; omega)
     have hb9 := hb9.keep hcs14 (by simp; omega)
     have hb6 := hb6_
     refine WK.storeC 11 rfl (by kernel_rfl) (by kernel_rfl) rfl rfl o1 hb7 (by simp) rfl fun ws15 hb7_ hcs15 => ?_
     try simp only [Sx.splice, qt] at hb7_
     have hch := hch.s1 hcs15
     have hb5 := hb5.keep hcs15 (by simp; omega)
     have hb6 := hb6.keep hcs15 (by simp; omega)
     have hb9 := hb9.keep hcs15 (by simp; omega)
     have hb7 := hb7_
     refine WK.done (by kernel_rfl) (kr33 _ _ _ ?_)
     refine kh32 ?_
     refine CW.ret ?_
     refine clean_door rfl rfl rfl hb6 hb7 hneb67 fun w9 hc9 => ?_
     have hch := hch.step hc9 (fun y hy => by simp only [List.mem_singleton] at hy; subst hy; exact .inr (by omega))
     refine ⟨⟨_, _, rfl, .inr ⟨hmode, .inr ⟨hse, .inr ⟨hvn, .inr ⟨hnn, ?_⟩⟩⟩⟩⟩, hch⟩
     rw [hT.err]; exact hT

end Go.Proofs.YtphnpchmdpjabaaGreatDoor

/- Numbers of 64 bits as plain numbers: which are NaN, their order. No condition. -/
namespace Go.Proofs.YtphnpchmdpjabaaGreatDoor.Fl
open Go

def isNaN (b : Nat) : Bool := decide (9218868437227405312 < b % 9223372036854775808)
def canon (b : Nat) : Nat := if isNaN b then 9221120237041090560 else b
/-- The program's key. -/
def key (b : Nat) : Int := if isNaN b then 9223372036854775807 else if 9223372036854775808 ≤ b then -1 - ((b : Int) - 9223372036854775808) else b
/-- The reference's place. -/
def place (b : Nat) : Int := if 9223372036854775808 ≤ canon b then -1 - ((canon b : Int) - 9223372036854775808) else canon b
def cmpI (a b : Int) : Int := if a < b then -1 else if b < a then 1 else 0

theorem double_sign : Ieee.double.signWeight = 9223372036854775808 := by decide
theorem double_inf : Ieee.double.infRung = 9218868437227405312 := by decide
theorem double_bin : Ieee.double.binade = 4503599627370496 := by decide

theorem cmp_self (x : Int) : compare x x = .eq := by simp
theorem cmpN_self (x : Nat) : compare x x = .eq := by simp
theorem order_self (b : Nat) : (FloatKind.f64.format.order b b != some .eq) = isNaN b := by
  show ((Ieee.double.read b).order (Ieee.double.read b) != some .eq) = isNaN b
  unfold Ieee.Format.read isNaN
  simp only [double_sign, double_inf, double_bin]
  split
  · rename_i h
    have h2 : decide (9218868437227405312 < b % 9223372036854775808) = false := by simp; omega
    rw [h2]
    simp [Ieee.Datum.order, cmp_self]
  · split
    · rename_i h h'
      have h2 : decide (9218868437227405312 < b % 9223372036854775808) = false := by simp; omega
      rw [h2]
      simp [Ieee.Datum.order, cmp_self]
    · split
      · rename_i h h' h3
        have h2 : decide (9218868437227405312 < b % 9223372036854775808) = false := by simp; omega
        rw [h2]
        simp [Ieee.Datum.order, cmpN_self]
      · rename_i h h' h3
        have h2 : decide (9218868437227405312 < b % 9223372036854775808) = true := by simp; omega
        rw [h2]
        simp [Ieee.Datum.order]
theorem order_self_eq (b : Nat) : (FloatKind.f64.format.order b b == some .eq) = !isNaN b := by
  rw [← order_self b]; simp [bne]

theorem signed_zero (k : Nat) : Ieee.signed false 0 k = 0 := by simp [Ieee.signed]
theorem signed_eq (s : Bool) (m k : Nat) : Ieee.signed s m k = 0 ↔ m = 0 := by
  have hp : 0 < 2 ^ k := Nat.two_pow_pos k
  have hz : m * 2 ^ k = 0 ↔ m = 0 := by
    constructor
    · intro h; rcases Nat.mul_eq_zero.1 h with h | h
      · exact h
      · omega
    · intro h; simp [h]
  unfold Ieee.signed
  rw [Nat.shiftLeft_eq]
  split <;> omega
theorem cmp_eq (x y : Int) : (some (compare x y) == some Ordering.eq) = decide (x = y) := by
  rw [Bool.eq_iff_iff]; simp
theorem order_num (s : Bool) (m : Nat) (i : Int) (j : Int) : (Ieee.Datum.order (.number s m i) (.number false 0 j) == some .eq) = decide (m = 0) := by
  unfold Ieee.Datum.order
  simp only [signed_zero]
  rw [cmp_eq, Bool.eq_iff_iff]
  simp [signed_eq]
theorem read_zero : Ieee.double.read 0 = .number false 0 Ieee.double.leastPlace := by decide
theorem order_zero (b : Nat) : (FloatKind.f64.format.order b 0 == some .eq) = decide (b % 9223372036854775808 = 0) := by
  show ((Ieee.double.read b).order (Ieee.double.read 0) == some .eq) = _
  rw [read_zero]
  unfold Ieee.Format.read
  simp only [double_sign, double_inf, double_bin]
  split
  · rw [order_num]
  · split
    · rename_i h h'
      rw [order_num, Bool.eq_iff_iff]
      simp; omega
    · split
      · rename_i h h' h3
        have h2 : decide (b % 9223372036854775808 = 0) = false := by simp; omega
        rw [h2]
        simp only [Ieee.Datum.order]
        split <;> rfl
      · rename_i h h' h3
        have h2 : decide (b % 9223372036854775808 = 0) = false := by simp; omega
        rw [h2]
        rfl
theorem key_pos_eq {b : Nat} (hn : isNaN b = false) (h : b < 9223372036854775808) : key b = b := by
  unfold key; rw [hn]; simp; omega
theorem key_neg_eq {b : Nat} (hn : isNaN b = false) (h : 9223372036854775808 ≤ b) : key b = -1 - ((b : Int) - 9223372036854775808) := by
  unfold key; rw [hn]; simp; omega
end Go.Proofs.YtphnpchmdpjabaaGreatDoor.Fl

/- Numbers as the machine's: a number less itself; which are finite. No condition. -/
namespace Go.Proofs.YtphnpchmdpjabaaGreatDoor
open Go Sx Wd

theorem cls_le2 (x : Nat) : (splitP x).cls ≤ 2 ↔ x % 9223372036854775808 < 9218868437227405312 := by
  have e : x % 9223372036854775808 < 9218868437227405312 ↔ x / 4503599627370496 % 2048 ≠ 2047 := by omega
  rw [e]
  unfold splitP
  split
  · rename_i h; simp; exact h.1
  · split
    · rename_i h1 h; simp; exact h
    · split
      · rename_i h2 h1 h; simp; exact h1
      · split
        · rename_i h2 h1 h; simp; exact h2
        · rename_i h2 h1 h; simp; exact h2
theorem signed_opp (s : Bool) (m k : Nat) : Ieee.signed s m k + Ieee.signed (!s) m k = 0 := by
  unfold Ieee.signed
  cases s <;> simp <;> omega
theorem sub_self_fin {b : Nat} (h : b % 9223372036854775808 < 9218868437227405312) : Ieee.double.sub b b = some 0 := by
  unfold Ieee.Format.sub Ieee.Format.read
  simp only [Fl.double_sign, Fl.double_inf, Fl.double_bin]
  have key : ∀ (s : Bool) (m : Nat) (i : Int), Option.map Ieee.double.write ((Ieee.Datum.number s m i).sum (Ieee.Datum.number s m i).opposite) = some 0 := by
    intro s m i
    unfold Ieee.Datum.opposite Ieee.Datum.sum
    simp only [Int.min_self, Int.sub_self, Int.toNat_zero, signed_opp, if_true, Int.natAbs_zero, Option.map_some]
    cases s <;> rfl
  split
  · exact key ..
  · exact key ..
theorem sub_self_not {b : Nat} (h : ¬ b % 9223372036854775808 < 9218868437227405312) : Ieee.double.sub b b = none := by
  unfold Ieee.Format.sub Ieee.Format.read
  simp only [Fl.double_sign, Fl.double_inf, Fl.double_bin]
  rw [if_neg (by omega), if_neg h]
  split
  · unfold Ieee.Datum.opposite Ieee.Datum.sum
    generalize (b / 9223372036854775808 % 2 == 1) = s
    cases s <;> rfl
  · rfl
/-- The bits that are drawn for a NaN are a NaN's. -/
theorem nan_form (x y t : Nat) : ∃ p q, p ≤ 1 ∧ q < 4503599627370495 ∧ (Question.nanBits .f64 x y).cut t = p * 9223372036854775808 + 9218868437227405312 + 1 + q :=
  ⟨t % 2, t / 2 % 4503599627370495, by omega, Nat.mod_lt _ (by decide), rfl⟩
theorem nan_cut (x y t : Nat) : Fl.isNaN ((Question.nanBits .f64 x y).cut t) = true := by
  obtain ⟨p, q, h1, h2, e⟩ := nan_form x y t
  rw [e]
  unfold Fl.isNaN
  simp only [decide_eq_true_eq]
  omega
theorem nan_lt (x y t : Nat) : (Question.nanBits .f64 x y).cut t < 18446744073709551616 := by
  obtain ⟨p, q, h1, h2, e⟩ := nan_form x y t
  rw [e]; omega
theorem order_nan {b : Nat} (h : Fl.isNaN b = true) : (FloatKind.f64.format.order b 0 == some .eq) = false := by
  rw [Fl.order_zero]
  unfold Fl.isNaN at h
  simp only [decide_eq_true_eq] at h
  simp; omega
section
variable {P : Program} {n : Nat} {D : List Deferred} {s : Sl} {w : World} {ops : Array Oper} {K : KK} {rest : List Oper} {ty : TypeId} {pos : String} {af : Array Edge} {d : Nat} {x y : Operand}
theorem ev_fsubSelf {t t' : TypeId} {b : Nat} (hx : opnd s x = some (.float .f64 b)) (hy : opnd s y = some (.float .f64 b)) :
    ∃ r w', Ev P s (.binOp .sub t x y t') ty w (.float .f64 r) w' ∧ Chg [] w w' ∧ r < 18446744073709551616 ∧ (FloatKind.f64.format.order r 0 == some .eq) = decide ((splitP b).cls ≤ 2) := by
  by_cases h : b % 9223372036854775808 < 9218868437227405312
  · refine ⟨0, w, run_bin hx hy (fun x y => eqGuard_float ..) ?_, Chg.refl _ _, by decide, ?_⟩
    · simp [binOp, Op.floatArith, show FloatKind.f64.format.sub b b = some 0 from sub_self_fin h]
    · rw [decide_eq_true ((cls_le2 b).2 h), Fl.order_zero]; decide
  · refine ⟨(Question.nanBits .f64 b b).cut (w.tape w.drawn (.nanBits .f64 b b)), w.drew, fun ρ d' pos af g hρ => ?_, Chg.drew _ _, nan_lt _ _ _, ?_⟩
    · have e1 := hρ x _ hx
      have e2 := hρ y _ hy
      simp [execOp, e1, e2, eqGuard_float, binOp, Op.floatArith, show FloatKind.f64.format.sub b b = none from sub_self_not h, Question.forced]
      try rfl
    · rw [order_nan (nan_cut _ _ _), decide_eq_false (fun hh => h ((cls_le2 b).1 hh))]
theorem WL.fsubSelf {t t' : TypeId} {b : Nat} (hx : opnd s x = some (.float .f64 b)) (hy : opnd s y = some (.float .f64 b)) (hd : Nat.blt d n = true)
    (k : ∀ r w', Chg [] w w' → r < 18446744073709551616 → (FloatKind.f64.format.order r 0 == some .eq) = decide ((splitP b).cls ≤ 2) → WL P ops K rest n D ((d, .float .f64 r) :: s) w') : WL P ops K (⟨some d, .binOp .sub t x y t', ty, pos, af, none⟩ :: rest) n D s w := by
  obtain ⟨r, w', he, hc, h1, h2⟩ := ev_fsubSelf (P := P) (ty := ty) (w := w) (t := t) (t' := t') hx hy
  exact WL.ev he hd (k r w' hc h1 h2)
end
end Go.Proofs.YtphnpchmdpjabaaGreatDoor

/- Package mean: finite. No condition. -/
namespace Go.Proofs.YtphnpchmdpjabaaGreatDoor
open Go Sx Wd
set_option exponentiation.threshold 5000

def finL (l : List Nat) : Prop := ∀ x ∈ l, (splitP x).cls ≤ 2
instance (l : List Nat) : Decidable (finL l) := by unfold finL; exact inferInstance
theorem finL_step {l : List Nat} {i : Nat} (h : i < l.length) : finL (l.take (i + 1)) ↔ finL (l.take i) ∧ (splitP (l.getD i 0)).cls ≤ 2 := by
  rw [take_step h]
  unfold finL
  constructor
  · intro hh; exact ⟨fun x hx => hh x (List.mem_append_left _ hx), hh _ (by simp)⟩
  · rintro ⟨h1, h2⟩ x hx
    rcases List.mem_append.1 hx with q | q
    · exact h1 x q
    · simp at q; rw [q]; exact h2
theorem finL_take {l : List Nat} {i : Nat} (h : finL l) : finL (l.take i) := fun x hx => h x (List.mem_of_mem_take hx)

theorem finite1_spec (x : Nat) (w : World) : Ret Tryz.prog 107 [.float .f64 x] w fun u w' => u = .bool (!decide ((splitP x).cls ≤ 2)) ∧ Chg [] w w' := by
 have hch : Chg [] w w := Chg.refl _ _
 refine Ret.enter Tryz.func107 rfl rfl ?_
 simp only [args0, Nat.zero_add, Nat.reduceAdd]
 refine Sr fun _ kh1 => za rfl (zz (kh1 (Sr fun _ kh3 => zm rfl (zm rfl ?_))))
 refine WL.fsubSelf rfl rfl rfl fun r5 w5 hc5 hr5 ho5 => ?_
 have hch := hch.trans hc5
 refine WL.ev (Ev.fneq rfl rfl) rfl ?_
 refine za rfl (zz (kh3 ?_))
 refine CW.ret ?_
 refine bodyA.ret1 rfl rfl ?_
 refine ⟨?_, hch⟩
 rw [← ho5]; rfl

structure KIx (l : List Nat) (w0 : World) (i : Nat) (w : World) : Prop where
  hi : i ≤ l.length
  f : finL (l.take i)
  ch : Chg [] w0 w

set_option maxRecDepth 8000 in
theorem IndexFunc_spec (v : Value) (l : List Nat) (w : World) (hv : NF w v l) : Ret Tryz.prog 135 [v, .func (.func 107) #[] #[]] w fun u w' => (∃ r : Int, u = .int .i64 r ∧ (0 ≤ r ↔ ¬ finL l)) ∧ Chg [] w w' := by
 obtain ⟨⟨al, cl, rfl, hcap, hrl⟩, hWl, hll⟩ := hv
 have hch : Chg [] w w := Chg.refl _ _
 refine Ret.enter Tryz.func135 rfl rfl ?_
 simp only [args0, Nat.zero_add, Nat.reduceAdd]
 refine Sr fun _ kh1 => za rfl (zz (kh1 (zc fun _ kh3 => Sr fun _ kh4 => zm rfl (zn rfl (zm rfl (zz (kh4 ?_)))))))
 refine CW.block ?_
 refine CW.loop (S := fun i : Nat => [(0, .slice al l.length cl), (1, .func (.func 107) #[] #[]), (7, .int .i64 (l.length : Int)), (8, .int .i64 (i : Int))]) (Inv := KIx l w) (mu := fun i => l.length - i) (0) ?_ ?_ ?_
 ·
  exact ⟨Nat.zero_le _, fun x hx => (by simp at hx), hch⟩
 ·
  exact SLp
 ·
  rintro i wr ⟨hi, hf, hch⟩
  refine Sr fun _ kh6 => ?_
  refine WL.ev (Ev.lss rfl rfl) rfl ?_
  refine zz (kh6 (zc fun _ kh8 => ?_))
  refine CW.cond rfl (fun hc1 => ?_) (fun hc1 => ?_)
  ·
   try simp only [qs] at hc1
   have hst := finL_step (l := l) (i := i) (by omega)
   refine CW.skip ?_
   refine kh8 (zc fun _ kh9 => ?_)
   refine CW.block ?_
   refine Sr fun _ kh10 => zm rfl (za rfl (zz (kh10 (Sr fun _ kh12 => zm rfl (zm rfl (zm rfl ?_))))))
   refine WL.ev (Ev.ixR (i) rfl rfl (hrl.keep0 hch) (by omega) (by omega) (by simp; omega)) rfl ?_
   refine WL.ev (Ev.load rfl rfl ((hrl.keep0 hch).f64 (by first | omega | (simp; omega)))) rfl ?_
   refine WL.callV (cap := []) hasF107 rfl rfl rfl (by rw [List.append_nil]; exact finite1_spec (l.getD i 0) _) fun v16 w16 h16 => ?_
   obtain ⟨rfl, hC16⟩ := h16
   have hch := hch.trans hC16
   refine zz (kh12 ?_)
   refine CW.cond rfl (fun hc2 => ?_) (fun hc2 => ?_)
   ·
    try simp only [qs] at hc2
    have hfx : ¬ (splitP (l.getD i 0)).cls ≤ 2 := by simpa using hc2
    refine Sr fun _ kh14 => zm rfl (za rfl (zz (kh14 ?_)))
    refine CW.ret ?_
    refine bodyA.ret1 rfl rfl ?_
    refine ⟨⟨_, rfl, ⟨fun _ h => hfx (hst.1 (finL_take h)).2, fun _ => by omega⟩⟩, hch⟩
   ·
    try simp only [qs] at hc2
    have hfx : (splitP (l.getD i 0)).cls ≤ 2 := by simpa using hc2
    refine CW.skip ?_
    refine kh9 ?_
    refine CW.region fun kR16 kr16 => ?_
    first | refine WL.ev (Ev.addIn rfl rfl (by omega)) rfl ?_ | refine WL.ev (Ev.add rfl rfl) rfl ?_
    refine zm rfl ?_
    refine WL.nil (kr16 _ _ _ ?_)
    refine ⟨rfl, i + 1, ?_, ?_, ?_⟩
    ·
     exact SLp
    ·
     exact ⟨by omega, hst.2 ⟨hf, hfx⟩, hch⟩
    ·
     omega
  ·
   try simp only [qs] at hc1
   have hiX : i = l.length := by omega
   subst hiX
   rw [List.take_length] at hf
   refine CW.exit ?_
   refine kh3 (Sr fun _ kh17 => za rfl (zz (kh17 ?_)))
   refine CW.ret ?_
   refine bodyA.ret1 rfl rfl ?_
   exact ⟨⟨_, rfl, ⟨fun h => absurd h (by decide), fun h => absurd hf h⟩⟩, hch⟩

theorem ContainsFunc_spec (v : Value) (l : List Nat) (w : World) (hv : NF w v l) : Ret Tryz.prog 106 [v, .func (.func 107) #[] #[]] w fun u w' => u = .bool (!decide (finL l)) ∧ Chg [] w w' := by
 have hch : Chg [] w w := Chg.refl _ _
 refine Ret.enter Tryz.func106 rfl rfl ?_
 simp only [args0, Nat.zero_add, Nat.reduceAdd]
 refine Sr fun _ kh1 => za rfl (zz (kh1 (Sr fun _ kh3 => zm rfl (zm rfl ?_))))
 refine WL.call hasF135 rfl rfl (IndexFunc_spec v l _ hv) fun v w1 h' => ?_
 obtain ⟨⟨r, rfl, hr⟩, hC7⟩ := h'
 have hch := hch.trans (Chg.any hC7)
 refine WL.ev (Ev.geq rfl rfl) rfl ?_
 refine za rfl (zz (kh3 ?_))
 refine CW.ret ?_
 refine bodyA.ret1 rfl rfl ?_
 refine ⟨?_, hch⟩
 rw [← decide_not]
 exact congrArg Value.bool (decide_eq_decide.2 hr)

theorem mfinite_spec (v : Value) (l : List Nat) (w : World) (hv : NF w v l) : Ret Tryz.prog 62 [v] w fun u w' => u = .bool (decide (finL l)) ∧ Chg [] w w' := by
 have hch : Chg [] w w := Chg.refl _ _
 refine Ret.enter Tryz.func62 rfl rfl ?_
 simp only [args0, Nat.zero_add, Nat.reduceAdd]
 refine Sr fun _ kh1 => za rfl (zz (kh1 (Sr fun _ kh3 => zm rfl ?_)))
 refine WL.call hasF106 rfl rfl (ContainsFunc_spec v l _ hv) fun v w1 h' => ?_
 obtain ⟨rfl, hC4⟩ := h'
 have hch := hch.trans (Chg.any hC4)
 refine WL.ev (Ev.not rfl) rfl ?_
 refine za rfl (zz (kh3 ?_))
 refine CW.ret ?_
 refine bodyA.ret1 rfl rfl ?_
 refine ⟨?_, hch⟩
 rw [Bool.not_not]

end Go.Proofs.YtphnpchmdpjabaaGreatDoor

/- Package mean: Weighted. No condition. -/
namespace Go.Proofs.YtphnpchmdpjabaaGreatDoor
open Go Sx Wd
set_option exponentiation.threshold 5000

theorem sumD_zero : sumD 0 = Dy.zero := rfl
theorem sumD_form {S : Int} (h1 : -((16384 * BB : Nat) : Int) < S) (h2 : S < (16384 * BB : Nat)) (h0 : S ≠ 0) : sumD S = ⟨decide (S < 0), S.natAbs / 2 ^ tz S.natAbs, -2148 + tz S.natAbs⟩ := by
  unfold sumD
  rw [sumD_eq h1 h2, if_neg h0]; rfl
theorem sumD_m0 {S : Int} (h1 : -((16384 * BB : Nat) : Int) < S) (h2 : S < (16384 * BB : Nat)) : (sumD S).m = 0 ↔ S = 0 := by
  constructor
  · intro h
    apply Classical.byContradiction
    intro h0
    rw [sumD_form h1 h2 h0] at h
    have := (tz_spec (n := S.natAbs) (by omega)).1
    simp only at h
    rw [h] at this; cases this
  · intro h; rw [h]; rfl
theorem sumD_sg {S : Int} (h1 : -((16384 * BB : Nat) : Int) < S) (h2 : S < (16384 * BB : Nat)) : sgD (sumD S).neg (sumD S).m = if S < 0 then -1 else if S = 0 then 0 else 1 := by
  by_cases h0 : S = 0
  · subst h0; rfl
  · have hm : (sumD S).m ≠ 0 := fun e => h0 ((sumD_m0 h1 h2).1 e)
    unfold sgD
    rw [if_neg hm, sumD_form h1 h2 h0]
    by_cases h : S < 0
    · simp [h]
    · simp [h, h0]
theorem sumD_neg {S : Int} (h1 : -((16384 * BB : Nat) : Int) < S) (h2 : S < (16384 * BB : Nat)) : negD (formD (!(sumD S).neg) (sumD S).m (sumD S).e) = sumD (-S) := by
  by_cases h0 : S = 0
  · subst h0; rfl
  · have hok := sumD_ok h1 h2
    have h3 := formD_self hok
    have hm : (sumD S).m ≠ 0 := fun e => h0 ((sumD_m0 h1 h2).1 e)
    rw [sumD_form (S := -S) (by omega) (by omega) (by omega), Int.natAbs_neg]
    unfold formD at h3 ⊢
    rw [if_neg hm] at h3 ⊢
    unfold negD
    split at h3
    · cases h3
    · rename_i hq
      rw [if_neg hq]
      have h4 := Option.some.inj h3
      have h5 := congrArg Dy.m h4
      have h6 := congrArg Dy.e h4
      simp only at h5 h6
      show (⟨!(sumD S).neg, (sumD S).m / 2 ^ tz (sumD S).m, (sumD S).e + tz (sumD S).m⟩ : Dy) = _
      rw [h5, h6, sumD_form h1 h2 h0]
      have : (!decide (S < 0)) = decide (-S < 0) := by
        by_cases q : S < 0
        · rw [decide_eq_true q, decide_eq_false (by omega)]; rfl
        · rw [decide_eq_false q, decide_eq_true (by omega)]; rfl
      rw [this]
def QuoD (N W : Int) (mode : Int) (bits : Nat) (e : Int) : Prop := QuotP (sumD N).neg (sumD W).neg (sumD N).m (sumD W).m (sumD N).e (sumD W).e mode bits e
/-- What Weighted answers. -/
def wtR (l k : List Nat) (mode : Int) (bits : Nat) (e : Int) : Prop :=
  (¬ (0 ≤ mode ∧ mode ≤ 4) ∧ bits = 0 ∧ e = 1) ∨ ((0 ≤ mode ∧ mode ≤ 4) ∧
    (((65536 < l.length ∨ 65536 < k.length) ∧ bits = 0 ∧ e = 2) ∨ (¬ (65536 < l.length ∨ 65536 < k.length) ∧
      ((l.length ≠ k.length ∧ bits = 0 ∧ e = 4) ∨ (l.length = k.length ∧
        ((¬ (finL l ∧ finL k) ∧ bits = 0 ∧ e = 30) ∨ ((finL l ∧ finL k) ∧
          ((l = [] ∧ bits = 0 ∧ e = 3) ∨ (l ≠ [] ∧ QuoD (if sumI k < 0 then -sumP l k else sumP l k) (if sumI k < 0 then -sumI k else sumI k) mode bits e)))))))))
structure KWt (l k : List Nat) (b b6 b7 : Nat) (w0 : World) (g : Nat × List Nat × SP) (w : World) : Prop where
  hi : g.1 ≤ l.length
  hB : TB w b 107 g.2.1 g.2.2.cells
  hr : Rep g.2.1 (sumP (l.take g.1) (k.take g.1))
  hs : g.2.2.le g.1
  h6 : BK w b6 28 [.float .f64 0]
  h7 : BK w b7 29 [.int .i64 0]
  ch : Chg [] w0 w

set_option maxRecDepth 8000 in
set_option maxHeartbeats 2000000 in
theorem Weighted_spec (v1 v2 : Value) (l k : List Nat) (mode : Int) (w : World) (hv : NF w v1 l) (hk : NF w v2 k) (hg : GW w) : Ret Tryz.prog 25 [v1, v2, .int .i64 mode] w fun u w' => (∃ bits e, u = .tuple [.float .f64 bits, .int .i64 e].toArray ∧ wtR l k mode bits e) ∧ Chg [] w w' := by
 have hch : Chg [] w w := Chg.refl _ _
 have hv0 := hv
 have hk0 := hk
 obtain ⟨⟨al, cl, rfl, hcapl, hrl⟩, hWl, hll⟩ := hv
 obtain ⟨⟨ak, ck, rfl, hcapk, hrk⟩, hWk, hlk⟩ := hk
 have hg0 := hg
 refine Ret.enterD 31 hasF31 Tryz.func25 rfl rfl ?_
 simp only [args0, Nat.zero_add, Nat.reduceAdd]
 refine Sr fun _ kh1 => ?_
 refine WL.allocB (l := [.float .f64 0]) rfl rfl fun b6 wm6 hb6 hcm6 hge6 => ?_
 have hgehch6 := Nat.le_trans hch.size hge6
 have hch := hch.trans (Chg.any hcm6)
 refine WL.allocB (l := [.int .i64 0]) rfl rfl fun b7 wm7 hb7 hcm7 hge7 => ?_
 have hgehch7 := Nat.le_trans hch.size hge7
 have hch := hch.trans (Chg.any hcm7)
 have hneb67 : b6 ≠ b7 := by have := hb6.lt; omega
 have hb6 := hb6.keep0 hcm7
 refine zz (kh1 (Sr fun _ kh3 => ?_))
 refine WL.defer rfl ?_
 refine zz (kh3 (zc fun _ kh5 => ?_))
 refine CW.block ?_
 refine Sr fun _ kh6 => zm rfl ?_
 refine WL.call hasF32 rfl rfl (right_spec mode _) fun v w1 h' => ?_
 obtain ⟨rfl, rfl⟩ := h'
 refine WL.ev (Ev.not rfl) rfl ?_
 refine za rfl (zz (kh6 ?_))
 refine CW.cond rfl (fun hc1 => ?_) (fun hc1 => ?_)
 ·
  try simp only [qs] at hc1
  have hmode : ¬ (0 ≤ mode ∧ mode ≤ 4) := by simpa using hc1
  refine Sr fun _ kh8 => ?_
  refine WL.storeC rfl rfl o1 hb6 (by simp) rfl fun ws16 hb6_ hcs16 => ?_
  try simp only [Sx.splice, qt] at hb6_
  have hch := hch.s1 hcs16
  have hb7 := hb7.keep hcs16 (by simp; omega)
  have hb6 := hb6_
  refine WL.storeC rfl rfl o1 hb7 (by simp) rfl fun ws17 hb7_ hcs17 => ?_
  try simp only [Sx.splice, qt] at hb7_
  have hch := hch.s1 hcs17
  have hb6 := hb6.keep hcs17 (by simp; omega)
  have hb7 := hb7_
  refine zz (kh8 ?_)
  refine CW.ret ?_
  refine clean_door rfl rfl rfl hb6 hb7 hneb67 fun w9 hc9 => ?_
  have hch := hch.step hc9 (fun y hy => by simp only [List.mem_singleton] at hy; subst hy; exact .inr (by omega))
  exact ⟨⟨_, _, rfl, .inl ⟨hmode, rfl, rfl⟩⟩, hch⟩
 ·
  try simp only [qs] at hc1
  have hmode : 0 ≤ mode ∧ mode ≤ 4 := by simpa using hc1
  refine CW.seqM 15 (decide (65536 < l.length ∨ 65536 < k.length)) ?_ ?_
  ·
   refine CW.region fun kR10 kr10 => ?_
   refine zm rfl (zn rfl ?_)
   refine WL.ev (Ev.gtr rfl rfl) rfl ?_
   refine zm rfl ?_
   refine WL.boolCase (fun hg2 => ?_) (fun hg2 => ?_)
   ·
    try simp only [qs] at hg2
    refine zv rfl (zv rfl (zv rfl (zt rfl rfl (za rfl ?_))))
    refine WL.nil (kr10 _ _ _ ?_)
    refine ⟨rfl, rfl, Subs.consB rfl ?_ ?_⟩
    ·
     first | (simp; omega) | (refine decide_eq_decide.2 ?_; omega)
    ·
     exact SMg
   ·
    try simp only [qs] at hg2
    refine zw rfl (zm rfl (zw rfl (zn rfl (zw rfl ?_))))
    refine WL.ev (Ev.gtr rfl rfl) rfl ?_
    refine ze rfl rfl (za rfl ?_)
    refine WL.nil (kr10 _ _ _ ?_)
    refine ⟨rfl, rfl, Subs.consB rfl ?_ ?_⟩
    ·
     first | (simp; omega) | (refine decide_eq_decide.2 ?_; omega)
    ·
     exact SMg
  ·
   refine CW.cond rfl (fun hc3 => ?_) (fun hc3 => ?_)
   ·
    try simp only [qs] at hc3
    have hlong : 65536 < l.length ∨ 65536 < k.length := hc3
    refine Sr fun _ kh11 => ?_
    refine WL.storeC rfl rfl o1 hb6 (by simp) rfl fun ws18 hb6_ hcs18 => ?_
    try simp only [Sx.splice, qt] at hb6_
    have hch := hch.s1 hcs18
    have hb7 := hb7.keep hcs18 (by simp; omega)
    have hb6 := hb6_
    refine WL.storeC rfl rfl o1 hb7 (by simp) rfl fun ws19 hb7_ hcs19 => ?_
    try simp only [Sx.splice, qt] at hb7_
    have hch := hch.s1 hcs19
    have hb6 := hb6.keep hcs19 (by simp; omega)
    have hb7 := hb7_
    refine zz (kh11 ?_)
    refine CW.ret ?_
    refine clean_door rfl rfl rfl hb6 hb7 hneb67 fun w9 hc9 => ?_
    have hch := hch.step hc9 (fun y hy => by simp only [List.mem_singleton] at hy; subst hy; exact .inr (by omega))
    exact ⟨⟨_, _, rfl, .inr ⟨hmode, .inl ⟨hlong, rfl, rfl⟩⟩⟩, hch⟩
   ·
    try simp only [qs] at hc3
    have hlong : ¬ (65536 < l.length ∨ 65536 < k.length) := by have := hc3; omega
    refine Sr fun _ kh13 => zm rfl (zn rfl (zm rfl (zn rfl ?_)))
    refine WL.ev (Ev.neq rfl rfl) rfl ?_
    refine za rfl (zz (kh13 ?_))
    refine CW.cond rfl (fun hc4 => ?_) (fun hc4 => ?_)
    ·
     try simp only [qs] at hc4
     have hlen : l.length ≠ k.length := by omega
     refine Sr fun _ kh15 => ?_
     refine WL.storeC rfl rfl o1 hb6 (by simp) rfl fun ws20 hb6_ hcs20 => ?_
     try simp only [Sx.splice, qt] at hb6_
     have hch := hch.s1 hcs20
     have hb7 := hb7.keep hcs20 (by simp; omega)
     have hb6 := hb6_
     refine WL.storeC rfl rfl o1 hb7 (by simp) rfl fun ws21 hb7_ hcs21 => ?_
     try simp only [Sx.splice, qt] at hb7_
     have hch := hch.s1 hcs21
     have hb6 := hb6.keep hcs21 (by simp; omega)
     have hb7 := hb7_
     refine zz (kh15 ?_)
     refine CW.ret ?_
     refine clean_door rfl rfl rfl hb6 hb7 hneb67 fun w9 hc9 => ?_
     have hch := hch.step hc9 (fun y hy => by simp only [List.mem_singleton] at hy; subst hy; exact .inr (by omega))
     exact ⟨⟨_, _, rfl, .inr ⟨hmode, .inr ⟨hlong, .inl ⟨hlen, rfl, rfl⟩⟩⟩⟩, hch⟩
    ·
     try simp only [qs] at hc4
     have hlen : l.length = k.length := by omega
     refine Sr fun _ kh17 => zm rfl ?_
     refine WL.call hasF62 rfl rfl (mfinite_spec _ l _ (hv0.keep0 hch)) fun v w2 h' => ?_
     obtain ⟨rfl, hC32⟩ := h'
     have hch := hch.trans (Chg.any hC32)
     have hb6 := hb6.keep0 hC32
     have hb7 := hb7.keep0 hC32
     refine WL.ev (Ev.not rfl) rfl ?_
     refine zm rfl ?_
     refine WL.boolCase (fun hg5 => ?_) (fun hg5 => ?_)
     ·
      try simp only [qs] at hg5
      have hf1 : ¬ finL l := by simpa using hg5
      refine zv rfl (zv rfl (zv rfl (zt rfl rfl (za rfl (zz (kh17 ?_))))))
      refine CW.condT rfl ?_
      refine Sr fun _ kh19 => ?_
      refine WL.storeC rfl rfl o1 hb6 (by simp) rfl fun ws22 hb6_ hcs22 => ?_
      try simp only [Sx.splice, qt] at hb6_
      have hch := hch.s1 hcs22
      have hb7 := hb7.keep hcs22 (by simp; omega)
      have hb6 := hb6_
      refine WL.storeC rfl rfl o1 hb7 (by simp) rfl fun ws23 hb7_ hcs23 => ?_
      try simp only [Sx.splice, qt] at hb7_
      have hch := hch.s1 hcs23
      have hb6 := hb6.keep hcs23 (by simp; omega)
      have hb7 := hb7_
      refine zz (kh19 ?_)
      refine CW.ret ?_
      refine clean_door rfl rfl rfl hb6 hb7 hneb67 fun w9 hc9 => ?_
      have hch := hch.step hc9 (fun y hy => by simp only [List.mem_singleton] at hy; subst hy; exact .inr (by omega))
      exact ⟨⟨_, _, rfl, .inr ⟨hmode, .inr ⟨hlong, .inr ⟨hlen, .inl ⟨fun h => hf1 h.1, rfl, rfl⟩⟩⟩⟩⟩, hch⟩
     ·
      try simp only [qs] at hg5
      have hf1 : finL l := by simpa using hg5
      refine zw rfl (zm rfl (zw rfl ?_))
      refine WL.call hasF62 rfl rfl (mfinite_spec _ k _ (hk0.keep0 hch)) fun v w3 h' => ?_
      obtain ⟨rfl, hC36⟩ := h'
      have hch := hch.trans (Chg.any hC36)
      have hb6 := hb6.keep0 hC36
      have hb7 := hb7.keep0 hC36
      refine zw rfl ?_
      refine WL.ev (Ev.not rfl) rfl ?_
      refine ze rfl rfl (za rfl (zz (kh17 ?_)))
      refine CW.cond rfl (fun hc6 => ?_) (fun hc6 => ?_)
      ·
       try simp only [qs] at hc6
       have hf2 : ¬ finL k := by simpa using hc6
       refine Sr fun _ kh21 => ?_
       refine WL.storeC rfl rfl o1 hb6 (by simp) rfl fun ws24 hb6_ hcs24 => ?_
       try simp only [Sx.splice, qt] at hb6_
       have hch := hch.s1 hcs24
       have hb7 := hb7.keep hcs24 (by simp; omega)
       have hb6 := hb6_
       refine WL.storeC rfl rfl o1 hb7 (by simp) rfl fun ws25 hb7_ hcs25 => ?_
       try simp only [Sx.splice, qt] at hb7_
       have hch := hch.s1 hcs25
       have hb6 := hb6.keep hcs25 (by simp; omega)
       have hb7 := hb7_
       refine zz (kh21 ?_)
       refine CW.ret ?_
       refine clean_door rfl rfl rfl hb6 hb7 hneb67 fun w9 hc9 => ?_
       have hch := hch.step hc9 (fun y hy => by simp only [List.mem_singleton] at hy; subst hy; exact .inr (by omega))
       exact ⟨⟨_, _, rfl, .inr ⟨hmode, .inr ⟨hlong, .inr ⟨hlen, .inl ⟨fun h => hf2 h.2, rfl, rfl⟩⟩⟩⟩⟩, hch⟩
      ·
       try simp only [qs] at hc6
       have hf2 : finL k := by simpa using hc6
       have hfin : finL l ∧ finL k := ⟨hf1, hf2⟩
       refine Sr fun _ kh23 => zm rfl (zn rfl (zq rfl rfl (za rfl (zz (kh23 ?_)))))
       refine CW.cond rfl (fun hc7 => ?_) (fun hc7 => ?_)
       ·
        try simp only [qs] at hc7
        have hnil : l = [] := List.length_eq_zero_iff.1 (by omega)
        refine Sr fun _ kh25 => ?_
        refine WL.storeC rfl rfl o1 hb6 (by simp) rfl fun ws26 hb6_ hcs26 => ?_
        try simp only [Sx.splice, qt] at hb6_
        have hch := hch.s1 hcs26
        have hb7 := hb7.keep hcs26 (by simp; omega)
        have hb6 := hb6_
        refine WL.storeC rfl rfl o1 hb7 (by simp) rfl fun ws27 hb7_ hcs27 => ?_
        try simp only [Sx.splice, qt] at hb7_
        have hch := hch.s1 hcs27
        have hb6 := hb6.keep hcs27 (by simp; omega)
        have hb7 := hb7_
        refine zz (kh25 ?_)
        refine CW.ret ?_
        refine clean_door rfl rfl rfl hb6 hb7 hneb67 fun w9 hc9 => ?_
        have hch := hch.step hc9 (fun y hy => by simp only [List.mem_singleton] at hy; subst hy; exact .inr (by omega))
        exact ⟨⟨_, _, rfl, .inr ⟨hmode, .inr ⟨hlong, .inr ⟨hlen, .inr ⟨hfin, .inl ⟨hnil, rfl, rfl⟩⟩⟩⟩⟩⟩, hch⟩
       ·
        try simp only [qs] at hc7
        have hnn : l ≠ [] := fun e => by rw [e] at hc7; exact hc7 rfl
        have hinN := sumP_in hf1 hf2 (by omega)
        have hinW := sumI_in (l := k) (by omega)
        refine CW.skip ?_
        refine kh5 (Sr fun _ kh27 => ?_)
        refine WL.call hasF26 rfl rfl (New_spec _) fun v w4 h' => ?_
        obtain ⟨b, rfl, hB6, hge6, hC43⟩ := h'
        have hbge : w.heap.size ≤ b := Nat.le_trans hch.size hge6
        have hnb6 : b6 ≠ b := by have := hb6.lt; omega
        have hnb7 : b7 ≠ b := by have := hb7.lt; omega
        have hch := hch.trans (Chg.any hC43)
        have hb6 := hb6.keep0 hC43
        have hb7 := hb7.keep0 hC43
        refine za rfl (zz (kh27 (zc fun _ kh29 => Sr fun _ kh30 => zm rfl (zn rfl (zm rfl (zz (kh30 ?_)))))))
        refine CW.block ?_
        refine CW.loop (S := fun g : Nat × List Nat × SP => [(0, .slice al l.length cl), (1, .slice ak k.length ck), (2, .int .i64 mode), (6, .pointer (some ⟨b6, 0, none⟩)), (7, .pointer (some ⟨b7, 0, none⟩)), (8, .pointer (some ⟨b, 0, none⟩)), (45, .int .i64 (l.length : Int)), (46, .int .i64 (g.1 : Int))]) (Inv := KWt l k b b6 b7 w) (mu := fun g => l.length - g.1) ((0, List.replicate 67 0, SP.zero)) ?_ ?_ ?_
        ·
         exact ⟨Nat.zero_le _, hB6, by rw [List.take_zero, List.take_zero]; exact Rep.zero, ⟨by decide, by decide, by decide, by decide, by decide, by decide⟩, hb6, hb7, hch⟩
        ·
         exact SLp
        ·
         rintro ⟨i, C, s⟩ wr ⟨hi, hB, hr, hs, hb6, hb7, hch⟩
         dsimp only at hi hB hr hs hb6 hb7 hch
         dsimp only
         have hx := D_getD hWl i
         have hy := D_getD hWk i
         refine Sr fun _ kh32 => ?_
         refine WL.ev (Ev.lss rfl rfl) rfl ?_
         refine zz (kh32 (zc fun _ kh34 => ?_))
         refine CW.cond rfl (fun hc8 => ?_) (fun hc8 => ?_)
         ·
          try simp only [qs] at hc8
          have hst := sumP_step (l := l) (k := k) (i := i) (by omega) hlen
          have hin := sumP_in (l := l.take (i + 1)) (k := k.take (i + 1)) (finL_take hf1) (finL_take hf2) (by rw [List.length_take]; omega)
          rw [hst] at hin
          have hmx : (splitP (l.getD i 0)).cls ≤ 2 := ((finL_step (by omega)).1 (finL_take (i := i + 1) hf1)).2
          have hmy : (splitP (k.getD i 0)).cls ≤ 2 := ((finL_step (by omega)).1 (finL_take (i := i + 1) hf2)).2
          refine CW.skip ?_
          refine kh34 (zc fun _ kh35 => ?_)
          refine CW.block ?_
          refine Sr fun _ kh36 => zm rfl (za rfl (zz (kh36 ?_)))
          refine CW.regionTC 9 hmix (by kernel_rfl) fun kR38 kr38 hdr => ?_
          have hch := hch.trans (Chg.any hdr)
          have hB := hB.keep0 hdr
          have hb6 := hb6.keep0 hdr
          have hb7 := hb7.keep0 hdr
          refine ym rfl (ym rfl (ym rfl ?_))
          refine WS.ev (Ev.ixR (i) rfl rfl (hrl.keep0 hch) (by omega) (by omega) (by simp; omega)) rfl ?_
          refine WS.ev (Ev.load rfl rfl ((hrl.keep0 hch).f64 (by first | omega | (simp; omega)))) rfl ?_
          refine ym rfl (ym rfl ?_)
          refine WS.ev (Ev.ixR (i) rfl rfl (hrk.keep0 hch) (by omega) (by omega) (by simp; omega)) rfl ?_
          refine WS.ev (Ev.load rfl rfl ((hrk.keep0 hch).f64 (by first | omega | (simp; omega)))) rfl ?_
          refine WS.nil ?_
          refine WL.call hasF72 rfl rfl (acAddProduct_spec b C (l.getD i 0) (k.getD i 0) s (sumP (l.take i) (k.take i)) _ hB hr hx hy hmx hmy (hs.mono (by omega)) hin.1 hin.2) fun v w5 h' => ?_
          obtain ⟨rfl, C2, hB2, hr2, hC58⟩ := h'
          rw [← hst] at hr2
          have hch := hch.step hC58 (fun y hy => by simp only [List.mem_singleton] at hy; subst hy; exact .inr hbge)
          have hb6 := hb6.keep hC58 (by simp; omega)
          have hb7 := hb7.keep hC58 (by simp; omega)
          refine WL.nil (kr38 _ _ _ (kh35 ?_))
          refine CW.region fun kR39 kr39 => ?_
          first | refine WL.ev (Ev.addIn rfl rfl (by omega)) rfl ?_ | refine WL.ev (Ev.add rfl rfl) rfl ?_
          refine zm rfl ?_
          refine WL.nil (kr39 _ _ _ ?_)
          refine ⟨rfl, (i + 1, C2, cnt1 s (prodP (l.getD i 0) (k.getD i 0)).cls (prodP (l.getD i 0) (k.getD i 0)).neg), ?_, ?_, ?_⟩
          ·
           exact SLp
          ·
           exact ⟨by show i + 1 ≤ l.length; omega, hB2, hr2, cnt1_le hs _ _, hb6, hb7, hch⟩
          ·
           show l.length - (i + 1) < l.length - i; omega
         ·
          try simp only [qs] at hc8
          have hiX : i = l.length := by omega
          subst hiX
          rw [List.take_length, List.take_of_length_le (by omega)] at hr
          refine CW.exit ?_
          refine kh29 (Sr fun _ kh40 => zm rfl ?_)
          refine WL.call hasF28 rfl rfl (Exact_spec b C (sumP l k) _ hB hr (hg0.keep0 hch) hinN.1 hinN.2) fun v w6 h' => ?_
          obtain ⟨⟨rN, rfl, hNN⟩, hC61⟩ := h'
          have hch := hch.trans (Chg.any hC61)
          have hB := hB.keep0 hC61
          have hb6 := hb6.keep0 hC61
          have hb7 := hb7.keep0 hC61
          refine zm rfl ?_
          refine WL.call hasF43 rfl rfl (all_spec _ k _ (hk0.keep0 hch) (by omega)) fun v w7 h' => ?_
          obtain ⟨⟨ba, C3, sa, rfl, hBa, hRa, hsa⟩, hC63⟩ := h'
          have hch := hch.trans (Chg.any hC63)
          have hB := hB.keep0 hC63
          have hb6 := hb6.keep0 hC63
          have hb7 := hb7.keep0 hC63
          have hNN := hNN.keep0 hC63
          refine WL.call hasF28 rfl rfl (Exact_spec ba C3 (sumI k) _ hBa hRa (hg0.keep0 hch) hinW.1 hinW.2) fun v w8 h' => ?_
          obtain ⟨⟨rW, rfl, hNW⟩, hC64⟩ := h'
          have hch := hch.trans (Chg.any hC64)
          have hB := hB.keep0 hC64
          have hb6 := hb6.keep0 hC64
          have hb7 := hb7.keep0 hC64
          have hNN := hNN.keep0 hC64
          refine WL.ev (Ev.build (vs := _) (cs := [_, _, _, _, _, _]) rfl rfl) rfl ?_
          refine WL.allocB (l := [.bool false, .slice none 0 0, .int .i64 0, .bool false, .slice none 0 0, .int .i64 0]) rfl rfl fun b10 wm10 hb10 hcm10 hge10 => ?_
          have hgehch10 := Nat.le_trans hch.size hge10
          have hch := hch.trans (Chg.any hcm10)
          have hNN := hNN.keep0 hcm10
          have hNW := hNW.keep0 hcm10
          have hneb10 : b ≠ b10 := by have := hB.lt; omega
          have hB := hB.keep0 hcm10
          have hneb610 : b6 ≠ b10 := by have := hb6.lt; omega
          have hb6 := hb6.keep0 hcm10
          have hneb710 : b7 ≠ b10 := by have := hb7.lt; omega
          have hb7 := hb7.keep0 hcm10
          refine WL.storeB rfl rfl rfl ao hb10 (by simp) rfl fun ws28 hb10_ hcs28 => ?_
          try simp only [Sx.splice, qt] at hb10_
          have hch := hch.s1 hcs28
          have hB := hB.keep hcs28 (by simp; omega)
          have hb6 := hb6.keep hcs28 (by simp; omega)
          have hb7 := hb7.keep hcs28 (by simp; omega)
          have hNN := hNN.keepBK hb10 hcs28 an
          have hNW := hNW.keepBK hb10 hcs28 an
          have hb10 := hb10_
          refine zz (kh40 (zc fun _ kh42 => Sr fun _ kh43 => zf rfl ?_))
          refine WL.ev (Ev.loadB rfl rfl hb10 rfl rfl) rfl ?_
          try simp only [List.drop_succ_cons, List.drop_zero, List.take_succ_cons, List.take_zero]
          refine WL.call hasF58 rfl rfl (Sign_dspec (sumD (sumI k)).neg rW (wd (sumD (sumI k)).m) (sumD (sumI k)).e _ hNW) fun v w9 h' => ?_
          obtain ⟨rfl, hC68⟩ := h'
          rw [val_wd, sumD_sg hinW.1 hinW.2]
          have hch := hch.trans (Chg.any hC68)
          have hB := hB.keep0 hC68
          have hb6 := hb6.keep0 hC68
          have hb7 := hb7.keep0 hC68
          have hb10 := hb10.keep0 hC68
          have hNN := hNN.keep0 hC68
          have hNW := hNW.keep0 hC68
          refine WL.ev (Ev.lss rfl rfl) rfl ?_
          refine zz (kh43 ?_)
          refine CW.cond rfl (fun hc9 => ?_) (fun hc9 => ?_)
          ·
           try simp only [qs] at hc9
           have hneg : sumI k < 0 := Classical.byContradiction fun q => by rw [if_neg q] at hc9; split at hc9 <;> omega
           refine CW.regionKC 7 10 rfl hmix fun kR45 kr45 hS hdr => ?_
           have hch := hch.trans (Chg.any hdr)
           have hB := hB.keep0 hdr
           have hb6 := hb6.keep0 hdr
           have hb7 := hb7.keep0 hdr
           have hb10 := hb10.keep0 hdr
           have hNN := hNN.keep0 hdr
           have hNW := hNW.keep0 hdr
           have hch_r := hch
           have hB_r := hB
           have hb6_r := hb6
           have hb7_r := hb7
           have hb10_r := hb10
           refine wk 0 rfl hS (fun _ _ => Ev.fieldAddr rfl) (wk 1 rfl hS (fun _ hw' => Ev.loadB rfl rfl (hb10_r.keep0 hw') rfl rfl) ?_)
           try simp only [List.drop_succ_cons, List.drop_zero, List.take_succ_cons, List.take_zero]
           refine wk 3 rfl hS (fun _ _ => Ev.fieldAddr rfl) (wk 4 rfl hS (fun _ hw' => Ev.loadB rfl rfl (hb10_r.keep0 hw') rfl rfl) ?_)
           try simp only [List.drop_succ_cons, List.drop_zero, List.take_succ_cons, List.take_zero]
           refine WK.oneCall 2 rfl (by kernel_rfl) hasF59 rfl rfl (Neg_dspec (sumD (sumP l k)).neg rN (wd (sumD (sumP l k)).m) (sumD (sumP l k)).e _ hNN (hg0.keep0 hch) (ok_e (sumD_ok hinN.1 hinN.2))) fun v w10 h' => ?_
           obtain ⟨hD72, hC72⟩ := h'
           rw [val_wd, sumD_neg hinN.1 hinN.2] at hD72
           obtain ⟨rN, rfl, hNN2⟩ := hD72
           have hch := hch.trans (Chg.any hC72)
           have hB := hB.keep0 hC72
           have hb6 := hb6.keep0 hC72
           have hb7 := hb7.keep0 hC72
           have hb10 := hb10.keep0 hC72
           have hNN := hNN.keep0 hC72
           have hNW := hNW.keep0 hC72
           have hS := hS.trans hC72
           refine ⟨hS, ?_⟩
           refine wk 6 rfl hS (fun _ _ => Ev.fieldAddr rfl) ?_
           refine WK.oneCall 5 rfl (by kernel_rfl) hasF59 rfl rfl (Neg_dspec (sumD (sumI k)).neg rW (wd (sumD (sumI k)).m) (sumD (sumI k)).e _ hNW (hg0.keep0 hch) (ok_e (sumD_ok hinW.1 hinW.2))) fun v w11 h' => ?_
           obtain ⟨hD75, hC75⟩ := h'
           rw [val_wd, sumD_neg hinW.1 hinW.2] at hD75
           obtain ⟨rW, rfl, hNW2⟩ := hD75
           have hch := hch.trans (Chg.any hC75)
           have hB := hB.keep0 hC75
           have hb6 := hb6.keep0 hC75
           have hb7 := hb7.keep0 hC75
           have hb10 := hb10.keep0 hC75
           have hNN := hNN.keep0 hC75
           have hNW := hNW.keep0 hC75
           have hNN2 := hNN2.keep0 hC75
           have hS := hS.trans hC75
           refine ⟨hS, ?_⟩
           refine WK.storeB 7 rfl (by kernel_rfl) (by kernel_rfl) rfl rfl rfl ao hb10 (by simp) rfl fun ws29 hb10_ hcs29 => ?_
           try simp only [Sx.splice, qt] at hb10_
           have hch := hch.s1 hcs29
           have hB := hB.keep hcs29 (by simp; omega)
           have hb6 := hb6.keep hcs29 (by simp; omega)
           have hb7 := hb7.keep hcs29 (by simp; omega)
           have hNN := hNN.keepBK hb10 hcs29 an
           have hNW := hNW.keepBK hb10 hcs29 an
           have hNN2 := hNN2.keepBK hb10 hcs29 an
           have hNW2 := hNW2.keepBK hb10 hcs29 an
           have hb10 := hb10_
           refine WK.after 8 rfl (by kernel_rfl) (by kernel_rfl) (Ev.fieldAddr rfl) rfl ?_
           refine WK.storeB 9 rfl (by kernel_rfl) (by kernel_rfl) rfl rfl rfl ao hb10 (by simp) rfl fun ws30 hb10_ hcs30 => ?_
           try simp only [Sx.splice, qt] at hb10_
           have hch := hch.s1 hcs30
           have hB := hB.keep hcs30 (by simp; omega)
           have hb6 := hb6.keep hcs30 (by simp; omega)
           have hb7 := hb7.keep hcs30 (by simp; omega)
           have hNN := hNN.keepBK hb10 hcs30 an
           have hNW := hNW.keepBK hb10 hcs30 an
           have hNN2 := hNN2.keepBK hb10 hcs30 an
           have hNW2 := hNW2.keepBK hb10 hcs30 an
           have hb10 := hb10_
           refine WK.done (by kernel_rfl) (kr45 _ _ _ ?_)
           refine kh42 (zc fun _ kh46 => ?_)
           have hNN := hNN2
           have hNW := hNW2
           have hokN := sumD_ok (S := -sumP l k) (by omega) (by omega)
           have hokW := sumD_ok (S := -sumI k) (by omega) (by omega)
           refine CW.region fun kR47 kr47 => ?_
           refine zg hb10 rfl (zm rfl ?_)
           refine WL.call hasF73 rfl rfl (Quot_spec (sumD (-sumP l k)).neg (sumD (-sumI k)).neg rN rW (wd (sumD (-sumP l k)).m) (wd (sumD (-sumI k)).m) (sumD (-sumP l k)).e (sumD (-sumI k)).e mode _ hNN hNW (hg0.keep0 hch) (ok_e hokN) (ok_e hokW)) fun v w12 h' => ?_
           obtain ⟨⟨bits, e, rfl, hQ⟩, hC80⟩ := h'
           rw [val_wd, val_wd] at hQ
           have hch := hch.trans (Chg.any hC80)
           have hB := hB.keep0 hC80
           have hb6 := hb6.keep0 hC80
           have hb7 := hb7.keep0 hC80
           have hb10 := hb10.keep0 hC80
           have hNN := hNN.keep0 hC80
           have hNW := hNW.keep0 hC80
           have hNN2 := hNN2.keep0 hC80
           have hNW2 := hNW2.keep0 hC80
           refine zx rfl rfl (zx rfl rfl ?_)
           refine WL.storeC rfl rfl o1 hb6 (by simp) rfl fun ws31 hb6_ hcs31 => ?_
           try simp only [Sx.splice, qt] at hb6_
           have hch := hch.s1 hcs31
           have hB := hB.keep hcs31 (by simp; omega)
           have hb7 := hb7.keep hcs31 (by simp; omega)
           have hb10 := hb10.keep hcs31 (by simp; omega)
           have hNN2 := hNN2.keepBK hb6 hcs31 an
           have hNW2 := hNW2.keepBK hb6 hcs31 an
           have hb6 := hb6_
           refine WL.storeC rfl rfl o1 hb7 (by simp) rfl fun ws32 hb7_ hcs32 => ?_
           try simp only [Sx.splice, qt] at hb7_
           have hch := hch.s1 hcs32
           have hB := hB.keep hcs32 (by simp; omega)
           have hb6 := hb6.keep hcs32 (by simp; omega)
           have hb10 := hb10.keep hcs32 (by simp; omega)
           have hNN2 := hNN2.keepBK hb7 hcs32 an
           have hNW2 := hNW2.keepBK hb7 hcs32 an
           have hb7 := hb7_
           refine WL.nil (kr47 _ _ _ (kh46 ?_))
           refine CW.ret ?_
           refine clean_door rfl rfl rfl hb6 hb7 hneb67 fun w9 hc9 => ?_
           have hch := hch.step hc9 (fun y hy => by simp only [List.mem_singleton] at hy; subst hy; exact .inr (by omega))
           refine ⟨⟨_, _, rfl, .inr ⟨hmode, .inr ⟨hlong, .inr ⟨hlen, .inr ⟨hfin, .inr ⟨hnn, ?_⟩⟩⟩⟩⟩⟩, hch⟩
           rw [hQ.err]
           unfold QuoD
           rw [if_pos hneg, if_pos hneg]; exact hQ
          ·
           try simp only [qs] at hc9
           have hneg : ¬ sumI k < 0 := fun q => by rw [if_pos q] at hc9; omega
           refine CW.skip ?_
           refine kh42 (zc fun _ kh48 => ?_)
           have hokN := sumD_ok hinN.1 hinN.2
           have hokW := sumD_ok hinW.1 hinW.2
           refine CW.region fun kR49 kr49 => ?_
           refine zg hb10 rfl (zm rfl ?_)
           refine WL.call hasF73 rfl rfl (Quot_spec (sumD (sumP l k)).neg (sumD (sumI k)).neg rN rW (wd (sumD (sumP l k)).m) (wd (sumD (sumI k)).m) (sumD (sumP l k)).e (sumD (sumI k)).e mode _ hNN hNW (hg0.keep0 hch) (ok_e hokN) (ok_e hokW)) fun v w13 h' => ?_
           obtain ⟨⟨bits, e, rfl, hQ⟩, hC80⟩ := h'
           rw [val_wd, val_wd] at hQ
           have hch := hch.trans (Chg.any hC80)
           have hB := hB.keep0 hC80
           have hb6 := hb6.keep0 hC80
           have hb7 := hb7.keep0 hC80
           have hb10 := hb10.keep0 hC80
           have hNN := hNN.keep0 hC80
           have hNW := hNW.keep0 hC80
           refine zx rfl rfl (zx rfl rfl ?_)
           refine WL.storeC rfl rfl o1 hb6 (by simp) rfl fun ws33 hb6_ hcs33 => ?_
           try simp only [Sx.splice, qt] at hb6_
           have hch := hch.s1 hcs33
           have hB := hB.keep hcs33 (by simp; omega)
           have hb7 := hb7.keep hcs33 (by simp; omega)
           have hb10 := hb10.keep hcs33 (by simp; omega)
           have hb6 := hb6_
           refine WL.storeC rfl rfl o1 hb7 (by simp) rfl fun ws34 hb7_ hcs34 => ?_
           try simp only [Sx.splice, qt] at hb7_
           have hch := hch.s1 hcs34
           have hB := hB.keep hcs34 (by simp; omega)
           have hb6 := hb6.keep hcs34 (by simp; omega)
           have hb10 := hb10.keep hcs34 (by simp; omega)
           have hb7 := hb7_
           refine WL.nil (kr49 _ _ _ (kh48 ?_))
           refine CW.ret ?_
           refine clean_door rfl rfl rfl hb6 hb7 hneb67 fun w9 hc9 => ?_
           have hch := hch.step hc9 (fun y hy => by simp only [List.mem_singleton] at hy; subst hy; exact .inr (by omega))
           refine ⟨⟨_, _, rfl, .inr ⟨hmode, .inr ⟨hlong, .inr ⟨hlen, .inr ⟨hfin, .inr ⟨hnn, ?_⟩⟩⟩⟩⟩⟩, hch⟩
           rw [hQ.err]
           unfold QuoD
           rw [if_neg hneg, if_neg hneg]; exact hQ

end Go.Proofs.YtphnpchmdpjabaaGreatDoor

/- Package mean: Middle, Of. No condition. -/
namespace Go.Proofs.YtphnpchmdpjabaaGreatDoor
open Go Sx Wd
set_option exponentiation.threshold 5000

theorem NF.of_row {w : World} {a : Option Addr} {l : List Nat} {k c : Nat} (h : RW w a (l.map f64v)) (hw : ∀ x ∈ l, x < 18446744073709551616) (hl : l.length ≤ 70368744177664) (hk : k = l.length) (hc : k ≤ c) : NF w (.slice a k c) l := by
  subst hk
  exact ⟨⟨a, c, rfl, hc, h⟩, hw, hl⟩
theorem meanR.err {l : List Nat} {mode pn pi : Int} {bits : Nat} {e : Int} (h : meanR l mode pn pi bits e) : (if e = 0 then bits else 0) = bits := by
  rcases h with ⟨_, rfl, rfl⟩ | ⟨_, ⟨_, rfl, rfl⟩ | ⟨_, ⟨_, rfl⟩ | ⟨_, ⟨_, rfl, rfl⟩ | ⟨_, h⟩⟩⟩⟩
  · simp
  · simp
  · simp
  · simp
  · exact h.err
/-- What Middle answers. -/
def midR (x y : Nat) (mode : Int) (bits : Nat) (e : Int) : Prop :=
  (¬ (0 ≤ mode ∧ mode ≤ 4) ∧ bits = 0 ∧ e = 1) ∨ ((0 ≤ mode ∧ mode ≤ 4) ∧
    ((¬ ((splitP x).cls ≤ 2 ∧ (splitP y).cls ≤ 2) ∧ bits = 0 ∧ e = 30) ∨ (((splitP x).cls ≤ 2 ∧ (splitP y).cls ≤ 2) ∧ meanR [x, y] mode 0 0 bits e)))
/-- What Of answers. -/
def ofR (neg : Bool) (m : Nat) (ex n mode : Int) (bits : Nat) (e : Int) : Prop :=
  (¬ ((0 ≤ mode ∧ mode ≤ 4) ∧ 1 ≤ n ∧ n ≤ 1099511627776) ∧ bits = 0 ∧ e = 1) ∨ (((0 ≤ mode ∧ mode ≤ 4) ∧ 1 ≤ n ∧ n ≤ 1099511627776) ∧
    ((formD neg m ex = none ∧ bits = 0 ∧ e = 2) ∨ ∃ d, formD neg m ex = some d ∧ toldR d n.toNat SP.zero mode bits e))

set_option maxRecDepth 8000 in
set_option maxHeartbeats 1000000 in
theorem Middle_spec (x y : Nat) (mode : Int) (w : World) (hx : x < 18446744073709551616) (hy : y < 18446744073709551616) (hg : GW w) : Ret Tryz.prog 29 [.float .f64 x, .float .f64 y, .int .i64 mode] w fun u w' => (∃ bits e, u = .tuple [.float .f64 bits, .int .i64 e].toArray ∧ midR x y mode bits e) ∧ Chg [] w w' := by
 have hch : Chg [] w w := Chg.refl _ _
 have hg0 := hg
 refine Ret.enterD 31 hasF31 Tryz.func29 rfl rfl ?_
 simp only [args0, Nat.zero_add, Nat.reduceAdd]
 refine Sr fun _ kh1 => ?_
 refine WL.allocB (l := [.float .f64 0]) rfl rfl fun b6 wm6 hb6 hcm6 hge6 => ?_
 have hgehch6 := Nat.le_trans hch.size hge6
 have hch := hch.trans (Chg.any hcm6)
 refine WL.allocB (l := [.int .i64 0]) rfl rfl fun b7 wm7 hb7 hcm7 hge7 => ?_
 have hgehch7 := Nat.le_trans hch.size hge7
 have hch := hch.trans (Chg.any hcm7)
 have hneb67 : b6 ≠ b7 := by have := hb6.lt; omega
 have hb6 := hb6.keep0 hcm7
 refine zz (kh1 (Sr fun _ kh3 => ?_))
 refine WL.defer rfl ?_
 refine zz (kh3 (zc fun _ kh5 => Sr fun _ kh6 => zm rfl ?_))
 refine WL.call hasF32 rfl rfl (right_spec mode _) fun v w1 h' => ?_
 obtain ⟨rfl, rfl⟩ := h'
 refine WL.ev (Ev.not rfl) rfl ?_
 refine zz (kh6 ?_)
 refine CW.cond rfl (fun hc1 => ?_) (fun hc1 => ?_)
 ·
  try simp only [qs] at hc1
  have hmode : ¬ (0 ≤ mode ∧ mode ≤ 4) := by simpa using hc1
  refine Sr fun _ kh8 => ?_
  refine WL.storeC rfl rfl o1 hb6 (by simp) rfl fun ws35 hb6_ hcs35 => ?_
  try simp only [Sx.splice, qt] at hb6_
  have hch := hch.s1 hcs35
  have hb7 := hb7.keep hcs35 (by simp; omega)
  have hb6 := hb6_
  refine WL.storeC rfl rfl o1 hb7 (by simp) rfl fun ws36 hb7_ hcs36 => ?_
  try simp only [Sx.splice, qt] at hb7_
  have hch := hch.s1 hcs36
  have hb6 := hb6.keep hcs36 (by simp; omega)
  have hb7 := hb7_
  refine zz (kh8 ?_)
  refine CW.ret ?_
  refine clean_door rfl rfl rfl hb6 hb7 hneb67 fun w9 hc9 => ?_
  have hch := hch.step hc9 (fun y hy => by simp only [List.mem_singleton] at hy; subst hy; exact .inr (by omega))
  exact ⟨⟨_, _, rfl, .inl ⟨hmode, rfl, rfl⟩⟩, hch⟩
 ·
  try simp only [qs] at hc1
  have hmode : 0 ≤ mode ∧ mode ≤ 4 := by simpa using hc1
  refine CW.skip ?_
  refine kh5 (zc fun _ kh10 => Sr fun _ kh11 => zm rfl ?_)
  refine WL.call hasF78 rfl rfl (Class_spec x _ hx) fun v w2 h' => ?_
  obtain ⟨rfl, hC12⟩ := h'
  have hch := hch.trans (Chg.any hC12)
  have hb6 := hb6.keep0 hC12
  have hb7 := hb7.keep0 hC12
  refine WL.ev (Ev.gtr rfl rfl) rfl ?_
  refine zm rfl ?_
  refine WL.boolCase (fun hg2 => ?_) (fun hg2 => ?_)
  ·
   try simp only [qs] at hg2
   have h1 : 2 < (splitP x).cls := by have := hg2; omega
   refine zv rfl (zv rfl (zv rfl (zt rfl rfl (zz (kh11 ?_)))))
   refine CW.condT rfl ?_
   refine Sr fun _ kh13 => ?_
   refine WL.storeC rfl rfl o1 hb6 (by simp) rfl fun ws37 hb6_ hcs37 => ?_
   try simp only [Sx.splice, qt] at hb6_
   have hch := hch.s1 hcs37
   have hb7 := hb7.keep hcs37 (by simp; omega)
   have hb6 := hb6_
   refine WL.storeC rfl rfl o1 hb7 (by simp) rfl fun ws38 hb7_ hcs38 => ?_
   try simp only [Sx.splice, qt] at hb7_
   have hch := hch.s1 hcs38
   have hb6 := hb6.keep hcs38 (by simp; omega)
   have hb7 := hb7_
   refine zz (kh13 ?_)
   refine CW.ret ?_
   refine clean_door rfl rfl rfl hb6 hb7 hneb67 fun w9 hc9 => ?_
   have hch := hch.step hc9 (fun y hy => by simp only [List.mem_singleton] at hy; subst hy; exact .inr (by omega))
   exact ⟨⟨_, _, rfl, .inr ⟨hmode, .inl ⟨fun h => by have := h.1; omega, rfl, rfl⟩⟩⟩, hch⟩
  ·
   try simp only [qs] at hg2
   have h1 : (splitP x).cls ≤ 2 := by have := hg2; omega
   refine zw rfl (zm rfl (zw rfl ?_))
   refine WL.call hasF78 rfl rfl (Class_spec y _ hy) fun v w3 h' => ?_
   obtain ⟨rfl, hC16⟩ := h'
   have hch := hch.trans (Chg.any hC16)
   have hb6 := hb6.keep0 hC16
   have hb7 := hb7.keep0 hC16
   refine zw rfl ?_
   refine WL.ev (Ev.gtr rfl rfl) rfl ?_
   refine ze rfl rfl (zz (kh11 ?_))
   refine CW.cond rfl (fun hc3 => ?_) (fun hc3 => ?_)
   ·
    try simp only [qs] at hc3
    have h2 : 2 < (splitP y).cls := by have := hc3; omega
    refine Sr fun _ kh15 => ?_
    refine WL.storeC rfl rfl o1 hb6 (by simp) rfl fun ws39 hb6_ hcs39 => ?_
    try simp only [Sx.splice, qt] at hb6_
    have hch := hch.s1 hcs39
    have hb7 := hb7.keep hcs39 (by simp; omega)
    have hb6 := hb6_
    refine WL.storeC rfl rfl o1 hb7 (by simp) rfl fun ws40 hb7_ hcs40 => ?_
    try simp only [Sx.splice, qt] at hb7_
    have hch := hch.s1 hcs40
    have hb6 := hb6.keep hcs40 (by simp; omega)
    have hb7 := hb7_
    refine zz (kh15 ?_)
    refine CW.ret ?_
    refine clean_door rfl rfl rfl hb6 hb7 hneb67 fun w9 hc9 => ?_
    have hch := hch.step hc9 (fun y hy => by simp only [List.mem_singleton] at hy; subst hy; exact .inr (by omega))
    exact ⟨⟨_, _, rfl, .inr ⟨hmode, .inl ⟨fun h => by have := h.2; omega, rfl, rfl⟩⟩⟩, hch⟩
   ·
    try simp only [qs] at hc3
    have h2 : (splitP y).cls ≤ 2 := by have := hc3; omega
    refine CW.skip ?_
    refine kh10 (Sr fun _ kh17 => zm rfl (zm rfl ?_))
    refine WL.buildSlice (m := 2) (cs := [f64v (x), f64v (y)]) (by decide) (by decide) rfl (by kernel_rfl) rfl fun b21 w21 hn21 => ?_
    have hcm21 := hn21.chg
    have hge21 := hn21.ge
    have hb21 : FB w21 b21 _ [x, y] := hn21.at_
    have hgehch21 := Nat.le_trans hch.size hge21
    have hch := hch.trans (Chg.any hcm21)
    have hneb621 : b6 ≠ b21 := by have := hb6.lt; omega
    have hb6 := hb6.keep0 hcm21
    have hneb721 : b7 ≠ b21 := by have := hb7.lt; omega
    have hb7 := hb7.keep0 hcm21
    refine zm rfl ?_
    refine WL.call hasF66 rfl rfl (Plain_spec _) fun v w4 h' => ?_
    obtain ⟨rfl, hC23⟩ := h'
    have hch := hch.trans (Chg.any hC23)
    have hb6 := hb6.keep0 hC23
    have hb7 := hb7.keep0 hC23
    have hb21 := hb21.keep0 hC23
    refine WL.call hasF15 rfl rfl (Mean_spec _ [x, y] mode 0 0 _ (NF.of_row hb21.row (by intro z hz; simp at hz; rcases hz with rfl | rfl <;> assumption) (by simp) rfl (by simp)) (hg0.keep0 hch)) fun v w5 h' => ?_
    obtain ⟨⟨bits, e, rfl, hM⟩, hC24⟩ := h'
    have hch := hch.trans (Chg.any hC24)
    have hb6 := hb6.keep0 hC24
    have hb7 := hb7.keep0 hC24
    have hb21 := hb21.keep0 hC24
    refine zx rfl rfl (zx rfl rfl ?_)
    refine WL.storeC rfl rfl o1 hb6 (by simp) rfl fun ws41 hb6_ hcs41 => ?_
    try simp only [Sx.splice, qt] at hb6_
    have hch := hch.s1 hcs41
    have hb7 := hb7.keep hcs41 (by simp; omega)
    have hb21 := hb21.keep hcs41 (by simp; omega)
    have hb6 := hb6_
    refine WL.storeC rfl rfl o1 hb7 (by simp) rfl fun ws42 hb7_ hcs42 => ?_
    try simp only [Sx.splice, qt] at hb7_
    have hch := hch.s1 hcs42
    have hb6 := hb6.keep hcs42 (by simp; omega)
    have hb21 := hb21.keep hcs42 (by simp; omega)
    have hb7 := hb7_
    refine zz (kh17 ?_)
    refine CW.ret ?_
    refine clean_door rfl rfl rfl hb6 hb7 hneb67 fun w9 hc9 => ?_
    have hch := hch.step hc9 (fun y hy => by simp only [List.mem_singleton] at hy; subst hy; exact .inr (by omega))
    refine ⟨⟨_, _, rfl, .inr ⟨hmode, .inr ⟨⟨h1, h2⟩, ?_⟩⟩⟩, hch⟩
    rw [hM.err]; exact hM

set_option maxRecDepth 8000 in
set_option maxHeartbeats 1000000 in
theorem mOf_spec (na : Bool) (va : Value) (la : List Nat) (ea n mode : Int) (w : World) (ha : NU w va la) (hg : GW w) (hea : -9223372036854775808 ≤ ea ∧ ea ≤ 9223372036854775807) : Ret Tryz.prog 10 [.agg [.bool na, va, .int .i64 ea].toArray, .int .i64 n, .int .i64 mode] w fun u w' => (∃ bits e, u = .tuple [.float .f64 bits, .int .i64 e].toArray ∧ ofR na (val la) ea n mode bits e) ∧ Chg [] w w' := by
 have hch : Chg [] w w := Chg.refl _ _
 have hg0 := hg
 have hoa := ha.one
 have ha0 := ha
 refine Ret.enterD 31 hasF31 Tryz.func10 rfl rfl ?_
 simp only [args0, Nat.zero_add, Nat.reduceAdd]
 refine Sr fun _ kh1 => ?_
 refine WL.boxB rfl rfl rfl fun b3 wm3 hb3 hcm3 hge3 => ?_
 have hgehch3 := Nat.le_trans hch.size hge3
 have hch := hch.trans (Chg.any hcm3)
 have ha := ha.keep0 hcm3
 refine WL.allocB (l := [.float .f64 0]) rfl rfl fun b6 wm6 hb6 hcm6 hge6 => ?_
 have hgehch6 := Nat.le_trans hch.size hge6
 have hch := hch.trans (Chg.any hcm6)
 have ha := ha.keep0 hcm6
 have hneb36 : b3 ≠ b6 := by have := hb3.lt; omega
 have hb3 := hb3.keep0 hcm6
 refine WL.allocB (l := [.int .i64 0]) rfl rfl fun b7 wm7 hb7 hcm7 hge7 => ?_
 have hgehch7 := Nat.le_trans hch.size hge7
 have hch := hch.trans (Chg.any hcm7)
 have ha := ha.keep0 hcm7
 have hneb37 : b3 ≠ b7 := by have := hb3.lt; omega
 have hb3 := hb3.keep0 hcm7
 have hneb67 : b6 ≠ b7 := by have := hb6.lt; omega
 have hb6 := hb6.keep0 hcm7
 refine zz (kh1 (Sr fun _ kh3 => ?_))
 refine WL.defer rfl ?_
 refine zz (kh3 (zc fun _ kh5 => ?_))
 refine CW.seqM 18 (decide (¬ ((0 ≤ mode ∧ mode ≤ 4) ∧ 1 ≤ n ∧ n ≤ 1099511627776))) ?_ ?_
 ·
  refine CW.region fun kR6 kr6 => ?_
  refine zm rfl ?_
  refine WL.call hasF32 rfl rfl (right_spec mode _) fun v w1 h' => ?_
  obtain ⟨rfl, rfl⟩ := h'
  refine WL.ev (Ev.not rfl) rfl ?_
  refine zm rfl ?_
  refine WL.boolCase (fun hg1 => ?_) (fun hg1 => ?_)
  ·
   try simp only [qs] at hg1
   have hq : ¬ (0 ≤ mode ∧ mode ≤ 4) := by simpa using hg1
   refine zv rfl (zv rfl (zt rfl rfl (zm rfl (zv rfl (zv rfl (zt rfl rfl ?_))))))
   refine WL.nil (kr6 _ _ _ ?_)
   refine ⟨rfl, rfl, Subs.consB rfl ?_ ?_⟩
   ·
    first | (simp; omega) | (refine decide_eq_decide.2 ?_; omega)
   ·
    exact SMg
  ·
   try simp only [qs] at hg1
   have hq : 0 ≤ mode ∧ mode ≤ 4 := by simpa using hg1
   refine zw rfl (zm rfl (zw rfl ?_))
   refine WL.ev (Ev.lss rfl rfl) rfl ?_
   refine ze rfl rfl (zm rfl ?_)
   refine WL.boolCase (fun hg2 => ?_) (fun hg2 => ?_)
   ·
    try simp only [qs] at hg2
    refine zv rfl (zv rfl (zt rfl rfl ?_))
    refine WL.nil (kr6 _ _ _ ?_)
    refine ⟨rfl, rfl, Subs.consB rfl ?_ ?_⟩
    ·
     first | (simp; omega) | (refine decide_eq_decide.2 ?_; omega)
    ·
     exact SMg
   ·
    try simp only [qs] at hg2
    refine zw rfl (zm rfl (zw rfl ?_))
    refine WL.ev (Ev.gtr rfl rfl) rfl ?_
    refine ze rfl rfl ?_
    refine WL.nil (kr6 _ _ _ ?_)
    refine ⟨rfl, rfl, Subs.consB rfl ?_ ?_⟩
    ·
     first | (simp; omega) | (refine decide_eq_decide.2 ?_; omega)
    ·
     exact SMg
 ·
  refine CW.cond rfl (fun hc3 => ?_) (fun hc3 => ?_)
  ·
   try simp only [qs] at hc3
   have hbad : ¬ ((0 ≤ mode ∧ mode ≤ 4) ∧ 1 ≤ n ∧ n ≤ 1099511627776) := hc3
   refine Sr fun _ kh7 => ?_
   refine WL.storeC rfl rfl o1 hb6 (by simp) rfl fun ws43 hb6_ hcs43 => ?_
   try simp only [Sx.splice, qt] at hb6_
   have hch := hch.s1 hcs43
   have hb3 := hb3.keep hcs43 (by simp; omega)
   have hb7 := hb7.keep hcs43 (by simp; omega)
   have ha := ha.keepBK hb6 hcs43 an
   have hb6 := hb6_
   refine WL.storeC rfl rfl o1 hb7 (by simp) rfl fun ws44 hb7_ hcs44 => ?_
   try simp only [Sx.splice, qt] at hb7_
   have hch := hch.s1 hcs44
   have hb3 := hb3.keep hcs44 (by simp; omega)
   have hb6 := hb6.keep hcs44 (by simp; omega)
   have ha := ha.keepBK hb7 hcs44 an
   have hb7 := hb7_
   refine zz (kh7 ?_)
   refine CW.ret ?_
   refine clean_door rfl rfl rfl hb6 hb7 hneb67 fun w9 hc9 => ?_
   have hch := hch.step hc9 (fun y hy => by simp only [List.mem_singleton] at hy; subst hy; exact .inr (by omega))
   exact ⟨⟨_, _, rfl, .inl ⟨hbad, rfl, rfl⟩⟩, hch⟩
  ·
   try simp only [qs] at hc3
   have hgood : (0 ≤ mode ∧ mode ≤ 4) ∧ 1 ≤ n ∧ n ≤ 1099511627776 := by have := hc3; omega
   refine CW.skip ?_
   refine kh5 (Sr fun _ kh9 => zf rfl (zl hb3 rfl rfl (zf rfl (zl hb3 rfl rfl (zf rfl (zl hb3 rfl rfl ?_))))))
   refine WL.call hasF33 rfl rfl (Make_spec na va la ea _ ha (hg0.keep0 hch) hea) fun v w2 h' => ?_
   obtain ⟨hD26, hC26⟩ := h'
   have hch := hch.trans (Chg.any hC26)
   have hb3 := hb3.keep0 hC26
   have hb6 := hb6.keep0 hC26
   have hb7 := hb7.keep0 hC26
   have ha := ha.keep0 hC26
   rcases hD26 with ⟨r, d, hd, rfl, hNr⟩ | ⟨hd, rfl⟩
   ·
    have hok := formD_ok hd
    refine zm rfl (zx rfl rfl (zx rfl rfl ?_))
    refine WL.storeB rfl rfl rfl ao hb3 (by simp) rfl fun ws45 hb3_ hcs45 => ?_
    try simp only [Sx.splice, qt] at hb3_
    have hch := hch.s1 hcs45
    have hb6 := hb6.keep hcs45 (by simp; omega)
    have hb7 := hb7.keep hcs45 (by simp; omega)
    have ha := ha.keepBK hb3 hcs45 an
    have hNr := hNr.keepBK hb3 hcs45 an
    have hb3 := hb3_
    refine WL.storeC rfl rfl o1 hb7 (by simp) rfl fun ws46 hb7_ hcs46 => ?_
    try simp only [Sx.splice, qt] at hb7_
    have hch := hch.s1 hcs46
    have hb3 := hb3.keep hcs46 (by simp; omega)
    have hb6 := hb6.keep hcs46 (by simp; omega)
    have ha := ha.keepBK hb7 hcs46 an
    have hNr := hNr.keepBK hb7 hcs46 an
    have hb7 := hb7_
    refine zz (kh9 (zc fun _ kh11 => Sr fun _ kh12 => zl hb7 rfl rfl ?_))
    refine WL.ev (Ev.neq rfl rfl) rfl ?_
    refine zz (kh12 ?_)
    refine CW.condF rfl ?_
    refine CW.skip ?_
    refine kh11 (Sr fun _ kh14 => zg hb3 rfl (zm rfl ?_))
    rw [show n = ((n.toNat : Nat) : Int) by omega]
    refine WL.ev (Ev.build (vs := _) (cs := [_, _, _, _, _, _]) rfl rfl) rfl ?_
    refine zm rfl ?_
    refine WL.call hasF34 rfl rfl (told_spec d r n.toNat SP.zero mode _ hNr hok (by omega) ⟨by decide, by decide, by decide, by decide, by decide, by decide⟩ (hg0.keep0 hch)) fun v w3 h' => ?_
    obtain ⟨⟨bits, e, rfl, hT⟩, hC36⟩ := h'
    have hch := hch.trans (Chg.any hC36)
    have hb3 := hb3.keep0 hC36
    have hb6 := hb6.keep0 hC36
    have hb7 := hb7.keep0 hC36
    have ha := ha.keep0 hC36
    have hNr := hNr.keep0 hC36
    refine zx rfl rfl (zx rfl rfl ?_)
    refine WL.storeC rfl rfl o1 hb6 (by simp) rfl fun ws47 hb6_ hcs47 => ?_
    try simp only [Sx.splice, qt] at hb6_
    have hch := hch.s1 hcs47
    have hb3 := hb3.keep hcs47 (by simp; omega)
    have hb7 := hb7.keep hcs47 (by simp; omega)
    have hb6 := hb6_
    refine WL.storeC rfl rfl o1 hb7 (by simp) rfl fun ws48 hb7_ hcs48 => ?_
    try simp only [Sx.splice, qt] at hb7_
    have hch := hch.s1 hcs48
    have hb3 := hb3.keep hcs48 (by simp; omega)
    have hb6 := hb6.keep hcs48 (by simp; omega)
    have hb7 := hb7_
    refine zz (kh14 ?_)
    refine CW.ret ?_
    refine clean_door rfl rfl rfl hb6 hb7 hneb67 fun w9 hc9 => ?_
    have hch := hch.step hc9 (fun y hy => by simp only [List.mem_singleton] at hy; subst hy; exact .inr (by omega))
    refine ⟨⟨_, _, rfl, .inr ⟨hgood, .inr ⟨d, hd, ?_⟩⟩⟩, hch⟩
    rw [hT.err]; exact hT
   ·
    refine zm rfl (zx rfl rfl (zx rfl rfl ?_))
    refine WL.storeB rfl rfl rfl ao hb3 (by simp) rfl fun ws49 hb3_ hcs49 => ?_
    try simp only [Sx.splice, qt] at hb3_
    have hch := hch.s1 hcs49
    have hb6 := hb6.keep hcs49 (by simp; omega)
    have hb7 := hb7.keep hcs49 (by simp; omega)
    have hb3 := hb3_
    refine WL.storeC rfl rfl o1 hb7 (by simp) rfl fun ws50 hb7_ hcs50 => ?_
    try simp only [Sx.splice, qt] at hb7_
    have hch := hch.s1 hcs50
    have hb3 := hb3.keep hcs50 (by simp; omega)
    have hb6 := hb6.keep hcs50 (by simp; omega)
    have hb7 := hb7_
    refine zz (kh9 (zc fun _ kh16 => Sr fun _ kh17 => zl hb7 rfl rfl ?_))
    refine WL.ev (Ev.neq rfl rfl) rfl ?_
    refine zz (kh17 ?_)
    refine CW.condT rfl ?_
    refine Sr fun _ kh19 => zl hb7 rfl rfl ?_
    refine WL.storeC rfl rfl o1 hb6 (by simp) rfl fun ws51 hb6_ hcs51 => ?_
    try simp only [Sx.splice, qt] at hb6_
    have hch := hch.s1 hcs51
    have hb3 := hb3.keep hcs51 (by simp; omega)
    have hb7 := hb7.keep hcs51 (by simp; omega)
    have hb6 := hb6_
    refine WL.storeC rfl rfl o1 hb7 (by simp) rfl fun ws52 hb7_ hcs52 => ?_
    try simp only [Sx.splice, qt] at hb7_
    have hch := hch.s1 hcs52
    have hb3 := hb3.keep hcs52 (by simp; omega)
    have hb6 := hb6.keep hcs52 (by simp; omega)
    have hb7 := hb7_
    refine zz (kh19 ?_)
    refine CW.ret ?_
    refine clean_door rfl rfl rfl hb6 hb7 hneb67 fun w9 hc9 => ?_
    have hch := hch.step hc9 (fun y hy => by simp only [List.mem_singleton] at hy; subst hy; exact .inr (by omega))
    exact ⟨⟨_, _, rfl, .inr ⟨hgood, .inl ⟨hd, rfl, rfl⟩⟩⟩, hch⟩

end Go.Proofs.YtphnpchmdpjabaaGreatDoor

/- Means as plain numbers: what told and Weighted come to; the values that the statements ask. No condition. -/
namespace Go.Proofs.YtphnpchmdpjabaaGreatDoor
open Go Sx Wd
set_option exponentiation.threshold 9000

theorem sgD_one (n : Nat) (neg : Bool) (h : n ≠ 0) (hn : neg = false) : sgD neg n = 1 := by unfold sgD; rw [if_neg h, hn]; rfl
theorem intD_form {n : Nat} (h0 : n ≠ 0) (hn : n < 18446744073709551616) : ∃ t : Nat, n = (intD (n : Int)).m * 2 ^ t ∧ (intD (n : Int)).e = t ∧ (intD (n : Int)).neg = false := by
  have h := intD_eq (n := (n : Int)) (by omega)
  rw [show decide ((n : Int) < 0) = false from decide_eq_false (by omega), Int.natAbs_natCast] at h
  obtain ⟨t, h1, h2, h3⟩ := formD_val h h0
  exact ⟨t, h1, by omega, h3⟩
/-- The exact sum S (in units of 2^-2148) through n, rounded. -/
def MeanQ (S : Int) (n : Nat) (mode : Int) (bits : Nat) : Prop :=
  ∃ r, IsNear S.natAbs (n * 2 ^ 1073) (decide (S < 0)) mode r ∧ r ≤ 9218868437227405312 ∧ bits = (if S < 0 then r + 9223372036854775808 else r)
/-- A ratio of forms by what they were made of. -/
theorem near_forms {x y : Nat} {ex ey : Int} {s t : Nat} {A B : Nat} {neg : Bool} {mode : Int} {r : Nat} {u v : Nat} (hy : y ≠ 0) (hA : A = x * 2 ^ s * 2 ^ u) (hB : B = y * 2 ^ t * 2 ^ v) (he : ex - ey + 1075 + (t : Int) + (v : Int) = (s : Int) + (u : Int)) :
    IsNear (dyA x (ex - ey)) (y * dyB (ex - ey)) neg mode r ↔ IsNear A B neg mode r := by
  have hB0 : 0 < B := by rw [hB]; exact Nat.mul_pos (Nat.mul_pos (by omega) (Nat.two_pow_pos _)) (Nat.two_pow_pos _)
  have hD0 : 0 < y * dyB (ex - ey) := Nat.mul_pos (by omega) (dyB_pos _)
  have hv : dyA x (ex - ey) * B = A * (y * dyB (ex - ey)) := by
    rw [hA, hB]
    unfold dyA dyB
    have e : (ex - ey + 1075).toNat + t + v = s + u + (-(ex - ey + 1075)).toNat := by omega
    calc x * 2 ^ (ex - ey + 1075).toNat * (y * 2 ^ t * 2 ^ v) = x * y * (2 ^ (ex - ey + 1075).toNat * 2 ^ t * 2 ^ v) := by ac_rfl
      _ = x * y * (2 ^ s * 2 ^ u * 2 ^ (-(ex - ey + 1075)).toNat) := by rw [← Nat.pow_add, ← Nat.pow_add, e, Nat.pow_add, Nat.pow_add]
      _ = _ := by ac_rfl
  exact ⟨fun h => h.congr hD0 hB0 hv, fun h => h.congr hB0 hD0 hv.symm⟩
theorem quot_sum {S : Int} {n : Nat} {mode : Int} {bits : Nat} {e : Int} (h1 : -((16384 * BB : Nat) : Int) < S) (h2 : S < (16384 * BB : Nat)) (hS : S ≠ 0) (hn : n ≠ 0) (hn2 : n ≤ 1099511627776) (hm : 0 ≤ mode ∧ mode ≤ 4)
    (h : QuotP (sumD S).neg (intD n).neg (sumD S).m (intD n).m (sumD S).e (intD n).e mode bits e) : e = 0 ∧ MeanQ S n mode bits := by
  have hokS := sumD_ok h1 h2
  have hokN := intD_ok (n := (n : Int)) (by omega)
  obtain ⟨t, q1, q2, q3⟩ := intD_form hn (by omega)
  have hm0 : (intD (n : Int)).m ≠ 0 := fun e => by rw [e, Nat.zero_mul] at q1; exact hn q1
  have hsg := sgD_one (intD (n : Int)).m (intD (n : Int)).neg hm0 q3
  have hf1 := formD_self hokS
  have hf2 := formD_self hokN
  have hform := sumD_form h1 h2 hS
  have htz := (tz_spec (n := S.natAbs) (by omega)).2
  rcases h with ⟨hh, _⟩ | ⟨_, ⟨hh, _⟩ | ⟨_, hh, _⟩ | ⟨_, x, y, hx, hy, ⟨hh, _⟩ | ⟨hy0, r, hN, hr, hb, he⟩⟩⟩
  · exact absurd hm hh
  · rw [hsg] at hh; exact absurd hh (by decide)
  · rw [hf1, hf2] at hh; rcases hh with hh | hh <;> cases hh
  · rw [hf2] at hy; cases hy; exact absurd hh hm0
  · rw [hf1] at hx; cases hx
    rw [hf2] at hy; cases hy
    have hneg : (sumD S).neg = decide (S < 0) := by rw [hform]
    have hmS : S.natAbs = (sumD S).m * 2 ^ tz S.natAbs := by rw [hform]; exact htz
    have heS : (sumD S).e = -2148 + tz S.natAbs := by rw [hform]
    rw [hneg] at hN hb
    refine ⟨he, r, (near_forms (s := tz S.natAbs) (t := t) (u := 0) (v := 1073) hy0 (A := S.natAbs) (B := n * 2 ^ 1073) (by rw [Nat.pow_zero, Nat.mul_one]; exact hmS) (by rw [← q1]) (by omega)).1 hN, hr, ?_⟩
    rw [hb]
    by_cases q : S < 0
    · simp [q]
    · simp [q]
/-- What told answers of a sum. -/
theorem told_sum {S : Int} {n : Nat} {s : SP} {mode : Int} {bits : Nat} {e : Int} (h1 : -((16384 * BB : Nat) : Int) < S) (h2 : S < (16384 * BB : Nat)) (hn : n ≠ 0) (hn2 : n ≤ 1099511627776) (hm : 0 ≤ mode ∧ mode ≤ 4)
    (h : toldR (sumD S) n s mode bits e) : e = 0 ∧ ((S = 0 ∧ bits = noughtP s mode) ∨ (S ≠ 0 ∧ MeanQ S n mode bits)) := by
  rcases h with ⟨hz, hb, he⟩ | ⟨hz, hq⟩
  · exact ⟨he, .inl ⟨(sumD_m0 h1 h2).1 hz, hb⟩⟩
  · have hS : S ≠ 0 := fun e => hz ((sumD_m0 h1 h2).2 e)
    obtain ⟨he, hM⟩ := quot_sum h1 h2 hS hn hn2 hm hq
    exact ⟨he, .inr ⟨hS, hM⟩⟩
theorem MeanQ.unique {S : Int} {n : Nat} {mode : Int} {b b' : Nat} (hn : n ≠ 0) (h : MeanQ S n mode b) (h' : MeanQ S n mode b') : b = b' := by
  obtain ⟨r, h1, _, rfl⟩ := h
  obtain ⟨r', h2, _, rfl⟩ := h'
  rw [h1.unique (Nat.mul_pos (by omega) (Nat.two_pow_pos _)) h2]
/-- Mean of a list of finite numbers. -/
theorem mean_fin {l : List Nat} {mode pn pi : Int} {bits : Nat} {e : Int} (h : meanR l mode pn pi bits e) (hm : 0 ≤ mode ∧ mode ≤ 4) (hs : siftE l pn pi = 0) (hv : verdP (cntP l) pn pi = none) (hf : filP l ≠ []) :
    e = 0 ∧ ((sumI (filP l) = 0 ∧ bits = noughtP (cntP l) mode) ∨ (sumI (filP l) ≠ 0 ∧ MeanQ (sumI (filP l)) (filP l).length mode bits)) := by
  have hl := (siftE_len hs).1
  have hfl := filP_le l
  have hin := sumI_in (l := filP l) (by omega)
  rcases h with ⟨hh, _⟩ | ⟨_, ⟨hh, _⟩ | ⟨_, ⟨hh, _⟩ | ⟨_, ⟨hh, _⟩ | ⟨_, hT⟩⟩⟩⟩
  · exact absurd hm hh
  · exact absurd hs hh
  · rw [hv] at hh; cases hh
  · exact absurd hh hf
  · exact told_sum hin.1 hin.2 (fun e => hf (List.length_eq_zero_iff.1 e)) (by omega) hm hT
/-- What a ratio of sums comes to. -/
theorem quo_sum {N W : Int} {mode : Int} {bits : Nat} {e : Int} (h1 : -((16384 * BB : Nat) : Int) < N) (h2 : N < (16384 * BB : Nat)) (h3 : 0 < W) (h4 : W < (16384 * BB : Nat)) (hm : 0 ≤ mode ∧ mode ≤ 4)
    (h : QuoD N W mode bits e) : e = 0 ∧ ∃ r, IsNear (N.natAbs * 2 ^ 1075) W.natAbs (decide (N < 0)) mode r ∧ r ≤ 9218868437227405312 ∧ bits = (if N < 0 then r + 9223372036854775808 else r) := by
  have hW : -((16384 * BB : Nat) : Int) < W := by omega
  have hokN := sumD_ok h1 h2
  have hokW := sumD_ok hW h4
  have hsg := sumD_sg hW h4
  rw [if_neg (by omega), if_neg (by omega)] at hsg
  have hm0 : (sumD W).m ≠ 0 := fun e => by have := (sumD_m0 hW h4).1 e; omega
  have hf1 := formD_self hokN
  have hf2 := formD_self hokW
  have hformW := sumD_form hW h4 (by omega)
  have htzW := (tz_spec (n := W.natAbs) (by omega)).2
  have hmW : W.natAbs = (sumD W).m * 2 ^ tz W.natAbs := by rw [hformW]; exact htzW
  have heW : (sumD W).e = -2148 + tz W.natAbs := by rw [hformW]
  unfold QuoD at h
  rcases h with ⟨hh, _⟩ | ⟨_, ⟨hh, _⟩ | ⟨_, hh, _⟩ | ⟨_, x, y, hx, hy, ⟨hh, _⟩ | ⟨hy0, r, hN, hr, hb, he⟩⟩⟩
  · exact absurd hm hh
  · rw [hsg] at hh; exact absurd hh (by decide)
  · rw [hf1, hf2] at hh; rcases hh with hh | hh <;> cases hh
  · rw [hf2] at hy; cases hy; exact absurd hh hm0
  · rw [hf1] at hx; cases hx
    rw [hf2] at hy; cases hy
    refine ⟨he, r, ?_, hr, ?_⟩
    · by_cases hN0 : N = 0
      · subst hN0
        have e1 : dyA (sumD 0).m ((sumD 0).e - (sumD W).e) = 0 := by unfold dyA; rw [sumD_zero]; simp [Dy.zero]
        rw [e1] at hN
        have : r = 0 := hN.unique (Nat.mul_pos (by omega) (dyB_pos _)) (near_zero (Nat.mul_pos (by omega) (dyB_pos _)) _ _)
        subst this
        simp only [Int.natAbs_zero, Nat.zero_mul]
        exact near_zero (by omega) _ _
      · have hform := sumD_form h1 h2 hN0
        have htz := (tz_spec (n := N.natAbs) (by omega)).2
        have hneg : (sumD N).neg = decide (N < 0) := by rw [hform]
        have hmN : N.natAbs = (sumD N).m * 2 ^ tz N.natAbs := by rw [hform]; exact htz
        have heN : (sumD N).e = -2148 + tz N.natAbs := by rw [hform]
        rw [hneg] at hN
        exact (near_forms (s := tz N.natAbs) (t := tz W.natAbs) (u := 1075) (v := 0) hy0 (A := N.natAbs * 2 ^ 1075) (B := W.natAbs) (by rw [← hmN]) (by rw [Nat.pow_zero, Nat.mul_one]; exact hmW) (by omega)).1 hN
    · rw [hb]
      by_cases hN0 : N = 0
      · subst hN0; rfl
      · rw [sumD_form h1 h2 hN0]
        by_cases q : N < 0
        · simp [q]
        · simp [q]
/-- A value that is the number r. -/
theorem near_is {A B : Nat} {neg : Bool} {mode : Int} {r : Nat} (hr : r < 9218868437227405312) (hB : 0 < B) (h : 2 * nz r * B = A) : IsNear A B neg mode r :=
  ⟨r, hr, Nat.le_of_eq h, .inl (by have := nz_lt_succ r; rw [← h]; exact Nat.mul_lt_mul_of_pos_right (by omega) hB), by rw [if_pos h]⟩
end Go.Proofs.YtphnpchmdpjabaaGreatDoor

/- The order of finite numbers, by their values; the least and the greatest of two. No condition. -/
namespace Go.Proofs.YtphnpchmdpjabaaGreatDoor
open Go Sx Wd
set_option exponentiation.threshold 9000
set_option maxRecDepth 4000

theorem signed_val (s : Bool) (m k : Nat) : Ieee.signed s m k = if s then -((m * 2 ^ k : Nat) : Int) else ((m * 2 ^ k : Nat) : Int) := by
  unfold Ieee.signed
  rw [Nat.shiftLeft_eq]
theorem splitP_small {x : Nat} (h1 : x % 9223372036854775808 < 4503599627370496) : splitP x = if 0 < x % 4503599627370496 then ⟨decide (x / 9223372036854775808 % 2 = 1), 1, -1074, x % 4503599627370496⟩ else ⟨decide (x / 9223372036854775808 % 2 = 1), 0, -1074, 0⟩ := by
  have e : x / 4503599627370496 % 2048 = 0 := by omega
  unfold splitP
  rw [e, if_neg (fun hh => absurd hh.1 (by decide)), if_neg (by decide), if_neg (by decide)]
theorem splitP_norm {x : Nat} (h1 : ¬ x % 9223372036854775808 < 4503599627370496) (h2 : x % 9223372036854775808 < 9218868437227405312) : splitP x = ⟨decide (x / 9223372036854775808 % 2 = 1), 2, -1074 + ((x / 4503599627370496 % 2048 : Nat) : Int) - 1, x % 4503599627370496 + 4503599627370496⟩ := by
  have e : x / 4503599627370496 % 2048 ≠ 2047 := by omega
  have e2 : 0 < x / 4503599627370496 % 2048 := by omega
  unfold splitP
  rw [if_neg (fun hh => e hh.1), if_neg e, if_pos e2]
theorem read_fin {x : Nat} (h : (splitP x).cls ≤ 2) : ∃ (m p : Nat), Ieee.double.read x = .number (x / 9223372036854775808 % 2 == 1) m ((p : Int) - 1074) ∧ fvN x = m * 2 ^ (p + 1074) ∧ nz (x % 9223372036854775808) = m * 2 ^ p ∧ (splitP x).neg = decide (x / 9223372036854775808 % 2 = 1) := by
  have hr := (cls_le2 x).1 h
  have hlp : Ieee.double.leastPlace = -1074 := by decide
  unfold Ieee.Format.read
  simp only [Fl.double_sign, Fl.double_inf, Fl.double_bin, hlp]
  by_cases h1 : x % 9223372036854775808 < 4503599627370496
  · rw [if_pos h1]
    have hs := splitP_small h1
    refine ⟨x % 9223372036854775808, 0, rfl, ?_, ?_, ?_⟩
    · unfold fvN
      rw [hs]
      by_cases h2 : 0 < x % 4503599627370496
      · rw [if_pos h2]
        dsimp only
        rw [if_pos (.inl rfl), show x % 9223372036854775808 = x % 4503599627370496 by omega]
        rfl
      · rw [if_neg h2]
        dsimp only
        rw [if_neg (by decide), show x % 9223372036854775808 = 0 by omega, Nat.zero_mul]
    · unfold nz; rw [if_pos h1]; simp
    · rw [hs]; split <;> rfl
  · rw [if_neg h1, if_pos hr]
    have hs := splitP_norm h1 hr
    refine ⟨4503599627370496 + x % 9223372036854775808 % 4503599627370496, x % 9223372036854775808 / 4503599627370496 - 1, ?_, ?_, ?_, ?_⟩
    · rw [show (-1074 : Int) + ((x % 9223372036854775808 / 4503599627370496 - 1 : Nat) : Int) = ((x % 9223372036854775808 / 4503599627370496 - 1 : Nat) : Int) - 1074 by omega]
    · unfold fvN
      rw [hs]
      dsimp only
      rw [if_pos (.inr rfl), show x % 4503599627370496 + 4503599627370496 = 4503599627370496 + x % 9223372036854775808 % 4503599627370496 by omega, show (-1074 + ((x / 4503599627370496 % 2048 : Nat) : Int) - 1 + 2148).toNat = x % 9223372036854775808 / 4503599627370496 - 1 + 1074 by omega]
    · unfold nz; rw [if_neg h1]
    · rw [hs]
theorem fvN_nz {x : Nat} (h : (splitP x).cls ≤ 2) : fvN x = nz (x % 9223372036854775808) * 2 ^ 1074 := by
  obtain ⟨m, p, _, h2, h3, _⟩ := read_fin h
  rw [h2, h3, Nat.pow_add, Nat.mul_assoc]
theorem fvI_nz {x : Nat} (h : (splitP x).cls ≤ 2) (hx : x < 18446744073709551616) : fvI x = if 9223372036854775808 ≤ x then -((nz (x % 9223372036854775808) * 2 ^ 1074 : Nat) : Int) else ((nz (x % 9223372036854775808) * 2 ^ 1074 : Nat) : Int) := by
  obtain ⟨m, p, _, _, _, h4⟩ := read_fin h
  unfold fvI
  rw [h4, fvN_nz h]
  by_cases q : 9223372036854775808 ≤ x
  · rw [if_pos (by simp; omega), if_pos q]
  · rw [if_neg (by simp; omega), if_neg q]
theorem cmp_scale {a b c : Int} (hc : 0 < c) : compare (a * c) (b * c) = compare a b := by
  show compareOfLessAndEq (a * c) (b * c) = compareOfLessAndEq a b
  unfold compareOfLessAndEq
  have h1 : a * c < b * c ↔ a < b := Int.mul_lt_mul_right hc
  have h2 : a * c = b * c ↔ a = b := ⟨fun h => Int.eq_of_mul_eq_mul_right (by omega) h, fun h => by rw [h]⟩
  by_cases q : a < b
  · rw [if_pos q, if_pos (h1.2 q)]
  · rw [if_neg q, if_neg (fun hh => q (h1.1 hh))]
    by_cases q2 : a = b
    · rw [if_pos q2, if_pos (h2.2 q2)]
    · rw [if_neg q2, if_neg (fun hh => q2 (h2.1 hh))]
theorem order_fin {x y : Nat} (hx : (splitP x).cls ≤ 2) (hy : (splitP y).cls ≤ 2) : FloatKind.f64.format.order x y = some (compare (fvI x) (fvI y)) := by
  obtain ⟨m, p, h1, h2, _, h4⟩ := read_fin hx
  obtain ⟨n, q, k1, k2, _, k4⟩ := read_fin hy
  show (Ieee.double.read x).order (Ieee.double.read y) = _
  rw [h1, k1]
  unfold Ieee.Datum.order
  dsimp only
  obtain ⟨b, hb⟩ : ∃ b : Nat, b = min p q := ⟨_, rfl⟩
  have e1 : ((p : Int) - 1074 - min ((p : Int) - 1074) ((q : Int) - 1074)).toNat = p - b := by omega
  have e2 : ((q : Int) - 1074 - min ((p : Int) - 1074) ((q : Int) - 1074)).toNat = q - b := by omega
  rw [e1, e2]
  have hc : (0 : Int) < ((2 ^ (b + 1074) : Nat) : Int) := by have := Nat.two_pow_pos (b + 1074); omega
  rw [← cmp_scale (a := Ieee.signed _ m _) (b := Ieee.signed _ n _) hc]
  have key : ∀ (s : Bool) (m p : Nat), b ≤ p → Ieee.signed s m (p - b) * ((2 ^ (b + 1074) : Nat) : Int) = if s = true then -((m * 2 ^ (p + 1074) : Nat) : Int) else ((m * 2 ^ (p + 1074) : Nat) : Int) := by
    intro s m p hbp
    have e : m * 2 ^ (p + 1074) = m * 2 ^ (p - b) * 2 ^ (b + 1074) := by
      rw [Nat.mul_assoc, ← Nat.pow_add]; congr 2; omega
    rw [signed_val, e]
    cases s
    · simp only [Bool.false_eq_true, if_false]; rw [← Int.natCast_mul]
    · simp only [if_true]; rw [Int.neg_mul, ← Int.natCast_mul]
  rw [key _ _ _ (by omega), key _ _ _ (by omega)]
  unfold fvI
  rw [h2, k2, h4, k4]
  have e5 : ∀ z : Nat, ((z / 9223372036854775808 % 2 == 1) = true) ↔ (decide (z / 9223372036854775808 % 2 = 1) = true) := fun z => by simp
  simp only [e5]
section
variable {P : Program} {s : Sl} {w : World} {ty : TypeId} {x y : Operand} {t t' : TypeId} {a b : Nat}
end
end Go.Proofs.YtphnpchmdpjabaaGreatDoor

/- Means of finite numbers: from the least to the greatest; of like numbers; signs turned. No condition. -/
namespace Go.Proofs.YtphnpchmdpjabaaGreatDoor
open Go Sx Wd
set_option exponentiation.threshold 9000

theorem near_ge {A B : Nat} {neg : Bool} {mode : Int} {r k0 : Nat} (h : IsNear A B neg mode r) (hB : 0 < B) (hk : k0 < 9218868437227405312) (hle : 2 * nz k0 * B ≤ A) : k0 ≤ r := by
  obtain ⟨k, h1, h2, h3, rfl⟩ := h
  have hkk : k0 ≤ k := by
    apply Nat.le_of_not_lt
    intro hlt
    rcases h3 with h3 | h3
    · have h4 := Nat.mul_le_mul_right B (Nat.mul_le_mul_left 2 (nz_le (show k + 1 ≤ k0 from hlt)))
      omega
    · omega
  split
  · exact hkk
  · split <;> omega
theorem near_le {A B : Nat} {neg : Bool} {mode : Int} {r k0 : Nat} (h : IsNear A B neg mode r) (hB : 0 < B) (hle : A ≤ 2 * nz k0 * B) : r ≤ k0 := by
  obtain ⟨k, h1, h2, h3, rfl⟩ := h
  have key : ∀ {a b : Nat}, 2 * nz a * B ≤ 2 * nz b * B → a ≤ b := by
    intro a b hab
    have h4 := Nat.le_of_mul_le_mul_right hab hB
    apply Nat.le_of_not_lt
    intro hlt
    have := nz_mono hlt
    omega
  split
  · rename_i he; exact key (by omega)
  · rename_i he
    have h5 : k < k0 := by
      apply Nat.lt_of_le_of_ne (key (by omega))
      rintro rfl; omega
    split <;> omega
theorem kind_fin (x : Nat) : kindP x ≤ 2 ↔ (splitP x).cls ≤ 2 := by
  have := splitP_cls x
  unfold kindP
  split
  · omega
  · split
    · omega
    · split
      · omega
      · split
        · omega
        · split <;> omega
theorem cnt_fin : ∀ (l : List Nat) (s : SP), finL l → (l.foldl (fun s x => countP s (kindP x)) s).na = s.na ∧ (l.foldl (fun s x => countP s (kindP x)) s).up = s.up ∧ (l.foldl (fun s x => countP s (kindP x)) s).dn = s.dn
  | [], s, _ => ⟨rfl, rfl, rfl⟩
  | x :: l, s, h => by
    have h1 := cnt_fin l (countP s (kindP x)) (fun z hz => h z (List.mem_cons_of_mem _ hz))
    have h2 := (kind_fin x).2 (h x (List.mem_cons_self ..))
    simp only [List.foldl_cons]
    obtain ⟨a, b, c⟩ := h1
    rw [a, b, c]
    unfold countP
    refine ⟨?_, ?_, ?_⟩ <;> dsimp only <;> rw [if_neg (by omega)] <;> rfl
theorem fil_fin {l : List Nat} (h : finL l) : filP l = l := by
  unfold filP
  rw [List.filter_eq_self]
  intro x hx
  unfold finP
  simpa using (kind_fin x).2 (h x hx)
theorem sift_fin {l : List Nat} {pn pi : Int} (h : finL l) (hl : l.length ≤ 65536) (hm : mayQ pn pi) : siftE l pn pi = 0 ∧ verdP (cntP l) pn pi = none := by
  obtain ⟨a, b, c⟩ := cnt_fin l SP.zero h
  have a' : (cntP l).na = 0 := a
  have b' : (cntP l).up = 0 := b
  have c' : (cntP l).dn = 0 := c
  constructor
  · unfold siftE
    rw [if_neg (fun q => q hm), if_neg (by omega), a', b', c', if_neg (by omega), if_neg (by omega)]
  · unfold verdP
    rw [a', b', c']
    split
    · rfl
    · rw [if_neg (by omega), if_neg (by omega), if_neg (by omega)]
/-- Mean of finite numbers. -/
theorem mean_fin2 {l : List Nat} {mode pn pi : Int} {bits : Nat} {e : Int} (h : meanR l mode pn pi bits e) (hf : finL l) (hl : l.length ≤ 65536) (hne : l ≠ []) (hm : 0 ≤ mode ∧ mode ≤ 4) (hp : mayQ pn pi) :
    e = 0 ∧ ((sumI l = 0 ∧ bits = noughtP (cntP l) mode) ∨ (sumI l ≠ 0 ∧ MeanQ (sumI l) l.length mode bits)) := by
  obtain ⟨h1, h2⟩ := sift_fin hf hl hp
  have := mean_fin h hm h1 h2 (by rw [fil_fin hf]; exact hne)
  rwa [fil_fin hf] at this
theorem nought_two (s : SP) (mode : Int) : noughtP s mode = 0 ∨ noughtP s mode = 9223372036854775808 := by
  unfold noughtP
  split
  · exact .inr rfl
  · exact .inl rfl
theorem fv_zero : fvI 0 = 0 ∧ fvI 9223372036854775808 = 0 ∧ (splitP 0).cls = 0 ∧ (splitP 9223372036854775808).cls = 0 := by decide +kernel
theorem sum_ge {v : Int} : ∀ {l : List Nat}, (∀ x ∈ l, v ≤ fvI x) → (l.length : Int) * v ≤ sumI l
  | [], _ => by simp [sumI]
  | x :: l, h => by
    have h1 := sum_ge (l := l) (fun z hz => h z (List.mem_cons_of_mem _ hz))
    have h2 := h x (List.mem_cons_self ..)
    have e : sumI (x :: l) = fvI x + sumI l := by simp [sumI]
    rw [e, List.length_cons, Int.natCast_add, Int.add_mul]
    have : ((1 : Nat) : Int) * v = v := by simp
    omega
theorem sum_le {v : Int} : ∀ {l : List Nat}, (∀ x ∈ l, fvI x ≤ v) → sumI l ≤ (l.length : Int) * v
  | [], _ => by simp [sumI]
  | x :: l, h => by
    have h1 := sum_le (l := l) (fun z hz => h z (List.mem_cons_of_mem _ hz))
    have h2 := h x (List.mem_cons_self ..)
    have e : sumI (x :: l) = fvI x + sumI l := by simp [sumI]
    rw [e, List.length_cons, Int.natCast_add, Int.add_mul]
    have : ((1 : Nat) : Int) * v = v := by simp
    omega
theorem fin_mod {x : Nat} (h : (splitP x).cls ≤ 2) : x % 9223372036854775808 < 9218868437227405312 := (cls_le2 x).1 h
theorem fin_of {r : Nat} (h : r < 9218868437227405312) : (splitP r).cls ≤ 2 ∧ (splitP (r + 9223372036854775808)).cls ≤ 2 := ⟨(cls_le2 r).2 (by omega), (cls_le2 _).2 (by omega)⟩
theorem fv_pos {r : Nat} (h : r < 9218868437227405312) : fvI r = (nz r * 2 ^ 1074 : Nat) := by
  rw [fvI_nz (fin_of h).1 (by omega), if_neg (by omega), Nat.mod_eq_of_lt (by omega)]
theorem fv_neg {r : Nat} (h : r < 9218868437227405312) : fvI (r + 9223372036854775808) = -((nz r * 2 ^ 1074 : Nat) : Int) := by
  rw [fvI_nz (fin_of h).2 (by omega), if_pos (by omega), show (r + 9223372036854775808) % 9223372036854775808 = r by omega]
theorem unit2 (k n : Nat) : 2 * nz k * (n * 2 ^ 1073) = n * (nz k * 2 ^ 1074) := by
  rw [show (2 : Nat) ^ 1074 = 2 * 2 ^ 1073 by rw [← Nat.pow_succ']]; ac_rfl
/-- The rounded mean lies where the exact one lies. -/
theorem meanQ_between {S : Int} {n : Nat} {mode : Int} {bits lo hi : Nat} (hn : n ≠ 0) (h : MeanQ S n mode bits) (hS : S ≠ 0) (hlo : (splitP lo).cls ≤ 2) (hhi : (splitP hi).cls ≤ 2) (hl64 : lo < 18446744073709551616) (hh64 : hi < 18446744073709551616)
    (h1 : (n : Int) * fvI lo ≤ S) (h2 : S ≤ (n : Int) * fvI hi) : bits < 18446744073709551616 ∧ (splitP bits).cls ≤ 2 ∧ fvI lo ≤ fvI bits ∧ fvI bits ≤ fvI hi := by
  obtain ⟨r, hN, hr, hb⟩ := h
  have hB : 0 < n * 2 ^ 1073 := Nat.mul_pos (by omega) (Nat.two_pow_pos _)
  have ml := fin_mod hlo
  have mh := fin_mod hhi
  have el := fvI_nz hlo hl64
  have eh := fvI_nz hhi hh64
  have hp := Nat.two_pow_pos 1074
  by_cases hneg : S < 0
  · rw [if_pos hneg] at hb
    have hl0 : fvI lo < 0 := by
      apply Int.lt_of_not_ge; intro q
      have : 0 ≤ (n : Int) * fvI lo := Int.mul_nonneg (by omega) q
      omega
    have hlb : 9223372036854775808 ≤ lo := by
      apply Nat.le_of_not_lt; intro q
      rw [if_neg (by omega)] at el; omega
    rw [if_pos hlb] at el
    have hle : S.natAbs ≤ 2 * nz (lo % 9223372036854775808) * (n * 2 ^ 1073) := by
      rw [unit2]
      rw [el, Int.mul_neg, ← Int.natCast_mul] at h1
      omega
    have hrk := near_le hN hB hle
    have hrf : r < 9218868437227405312 := by omega
    have e5 := fv_neg hrf
    rw [← hb] at e5
    refine ⟨by omega, by rw [hb]; exact (fin_of hrf).2, ?_, ?_⟩
    · rw [e5, el]
      have := Nat.mul_le_mul_right (2 ^ 1074) (nz_le hrk)
      omega
    · by_cases hh0 : 0 ≤ fvI hi
      · rw [e5]; omega
      · have hhb : 9223372036854775808 ≤ hi := by
          apply Nat.le_of_not_lt; intro q
          rw [if_neg (by omega)] at eh; omega
        rw [if_pos hhb] at eh
        have hge : 2 * nz (hi % 9223372036854775808) * (n * 2 ^ 1073) ≤ S.natAbs := by
          rw [unit2]
          rw [eh, Int.mul_neg, ← Int.natCast_mul] at h2
          omega
        have hkr := near_ge hN hB mh hge
        rw [e5, eh]
        have := Nat.mul_le_mul_right (2 ^ 1074) (nz_le hkr)
        omega
  · rw [if_neg hneg] at hb
    have hh0 : 0 < fvI hi := by
      apply Int.lt_of_not_ge; intro q
      have : (n : Int) * fvI hi ≤ 0 := Int.mul_nonpos_of_nonneg_of_nonpos (by omega) q
      omega
    have hhb : ¬ 9223372036854775808 ≤ hi := by
      intro q
      rw [if_pos q] at eh; omega
    rw [if_neg hhb] at eh
    have hle : S.natAbs ≤ 2 * nz (hi % 9223372036854775808) * (n * 2 ^ 1073) := by
      rw [unit2]
      rw [eh, ← Int.natCast_mul] at h2
      omega
    have hrk := near_le hN hB hle
    have hrf : r < 9218868437227405312 := by omega
    have e5 := fv_pos hrf
    subst hb
    refine ⟨by omega, (fin_of hrf).1, ?_, ?_⟩
    · by_cases hl0 : fvI lo ≤ 0
      · rw [e5]; omega
      · have hlb : ¬ 9223372036854775808 ≤ lo := by
          intro q
          rw [if_pos q] at el; omega
        rw [if_neg hlb] at el
        have hge : 2 * nz (lo % 9223372036854775808) * (n * 2 ^ 1073) ≤ S.natAbs := by
          rw [unit2]
          rw [el, ← Int.natCast_mul] at h1
          omega
        have hkr := near_ge hN hB ml hge
        rw [e5, el]
        have := Nat.mul_le_mul_right (2 ^ 1074) (nz_le hkr)
        omega
    · rw [e5, eh]
      have := Nat.mul_le_mul_right (2 ^ 1074) (nz_le hrk)
      omega
/-- A mean lies from the least to the greatest. -/
theorem mean_between {l : List Nat} {mode : Int} {bits lo hi : Nat} {e : Int} (h : meanR l mode 0 0 bits e) (hf : finL l) (hl : l.length ≤ 65536) (hne : l ≠ []) (hm : 0 ≤ mode ∧ mode ≤ 4)
    (hlo : (splitP lo).cls ≤ 2) (hhi : (splitP hi).cls ≤ 2) (hl64 : lo < 18446744073709551616) (hh64 : hi < 18446744073709551616) (h1 : ∀ x ∈ l, fvI lo ≤ fvI x) (h2 : ∀ x ∈ l, fvI x ≤ fvI hi) :
    e = 0 ∧ bits < 18446744073709551616 ∧ (splitP bits).cls ≤ 2 ∧ fvI lo ≤ fvI bits ∧ fvI bits ≤ fvI hi := by
  have hp : mayQ 0 0 := ⟨by decide, by decide⟩
  obtain ⟨he, hh⟩ := mean_fin2 h hf hl hne hm hp
  have hn : l.length ≠ 0 := fun q => hne (List.length_eq_zero_iff.1 q)
  have s1 := sum_ge h1
  have s2 := sum_le h2
  refine ⟨he, ?_⟩
  rcases hh with ⟨hz, hb⟩ | ⟨hz, hM⟩
  · rw [hz] at s1 s2
    have hlo0 : fvI lo ≤ 0 := by
      apply Int.le_of_not_gt; intro q
      have : 0 < (l.length : Int) * fvI lo := Int.mul_pos (by omega) q
      omega
    have hhi0 : 0 ≤ fvI hi := by
      apply Int.le_of_not_gt; intro q
      have : (l.length : Int) * fvI hi < 0 := Int.mul_neg_of_pos_of_neg (by omega) q
      omega
    obtain ⟨z1, z2, z3, z4⟩ := fv_zero
    rcases nought_two (cntP l) mode with q | q
    · rw [hb, q, z1, z3]; exact ⟨by decide, by decide, hlo0, hhi0⟩
    · rw [hb, q, z2, z4]; exact ⟨by decide, by decide, hlo0, hhi0⟩
  · exact meanQ_between hn hM hz hlo hhi hl64 hh64 s1 s2
theorem sum_like (n v : Nat) : sumI (List.replicate n v) = (n : Int) * fvI v := by
  induction n with
  | zero => simp [sumI]
  | succ n ih =>
    have e : sumI (v :: List.replicate n v) = fvI v + sumI (List.replicate n v) := by simp [sumI]
    rw [List.replicate_succ, e, ih, Int.natCast_add, Int.add_mul]
    simp; omega
theorem nz_zero {k : Nat} : nz k = 0 ↔ k = 0 := by
  constructor
  · intro h
    apply Classical.byContradiction
    intro h0
    have := nz_mono (show 0 < k by omega)
    omega
  · intro h; rw [h]; decide
end Go.Proofs.YtphnpchmdpjabaaGreatDoor

/- Reference of layer 6. No condition. -/
namespace Go.Proofs.YtphnpchmdpjabaaGreatDoor
open Go Sx Wd

end Go.Proofs.YtphnpchmdpjabaaGreatDoor

/- Drawn regions with two operations that may come up in either order. No condition. -/
namespace Go.Proofs.YtphnpchmdpjabaaGreatDoor.Sx
open Go

/-- Operation i comes up next. -/
def WHat (P : Program) (ops : Array Oper) (K : KK) (S : World → Prop) (fuel : Nat) (listed : Array Bool) (n : Nat) (D : List Deferred) (s : Sl) (w : World) (i : Nat) : Prop :=
  ∀ a, Fr n D s a → wpOp P ops (post n K) i (fun a' w' => S w' ∧ wpAnyH P .any ops (post n K) S fuel (listed.setIfInBounds i true) a' w') a w
section
variable {P : Program} {A : AQ} {n : Nat} {D : List Deferred} {s : Sl} {w : World} {ops : Array Oper} {K : KK} {S : World → Prop} {fuel : Nat} {listed : Array Bool}
variable {op : Op} {ty : TypeId} {pos : String} {af : Array Edge} {d : Nat} {v : Value}
theorem WH.buildSliceC (i : Nat) {w0 : World} {t e : TypeId} {de : TypeDesc} {sz by_ es be : Nat} {z ze : Value} {ps : List (Nat × Operand)} {vs : List (Nat × Value)} {cs : List Value} {m : Nat} [hT : HasT P t (.slice e) sz by_ z] [hE : HasT P e de es be ze]
    (hi : ops[i]? = some ⟨some d, .buildSlice t m ps.toArray, ty, pos, af, none⟩) (hr : Region.ready .any ops listed = [i]) (hS : Chg [] w0 w)
    (hm : m * es ≤ 2 ^ 24) (hp : 0 < m * es) (hx : opndP s ps = some vs) (hf : Instr.fill (fun i => some (i * es, es)) ((Array.range (m * es)).map (ze.cells[· % ze.cells.size]!)) vs = some cs.toArray) (hd : Nat.blt d n = true)
    (k : ∀ b w', New w b (.cells cs.toArray e) w' → Chg [] w0 w' → WH P ops K (Chg [] w0) fuel (listed.setIfInBounds i true) n D ((d, .slice (some ⟨b, 0, none⟩) m m) :: s) w') : WH P ops K (Chg [] w0) (fuel + 1) listed n D s w := by
  obtain ⟨b, w', he, hn⟩ := ev_buildSlice (P := P) (ty := ty) (w := w) (t := t) (hT := hT) (hE := hE) hm hp hx hf
  exact WH.one i hi hr he (hS.trans hn.chg) hd (k b w' hn (hS.trans hn.chg))
end
end Go.Proofs.YtphnpchmdpjabaaGreatDoor.Sx

/- What the reference of layer 2 computes, in plain numbers. No condition. -/
namespace Go.Proofs.YtphnpchmdpjabaaGreatDoor
open Go Sx Wd

structure PlusI (la lb : List Nat) (i : Nat) (L : List Nat) (c : Nat) : Prop where
  le : i ≤ max la.length lb.length ∨ i = max la.length lb.length + 1 ∧ c = 0
  len : L.length = i
  w : W L
  c1 : c ≤ 1
  v : val L + 2 ^ (32 * i) * c = val (la.take i) + val (lb.take i)
structure MinusI (la lb : List Nat) (i : Nat) (L : List Nat) (c : Nat) : Prop where
  le : i ≤ la.length
  len : L.length = i
  w : W L
  c1 : c ≤ 1
  v : val L + val (lb.take i) = val (la.take i) + 2 ^ (32 * i) * c
/-- Digit by digit, from above. -/
structure PartI (la : List Nat) (b k : Nat) (Q : List Nat) (r : Nat) : Prop where
  le : k ≤ la.length
  len : Q.length = la.length
  w : W Q
  z : ∀ j, j < k → Q.getD j 0 = 0
  rl : r < b
  v : val (la.drop k) = val (Q.drop k) * b + r
/-- v's memory is newer than w0. -/
def Fh (w0 : World) (v : Value) : Prop := ∀ ad m c, v = .slice (some ad) m c → w0.heap.size ≤ ad.block
/-- v lies in no word of block b. -/
def Av (b : Nat) (v : Value) : Prop := ∀ ad m c, v = .slice (some ad) m c → ad.block ≠ b
end Go.Proofs.YtphnpchmdpjabaaGreatDoor

/- Reference of layer 2: size, Norm, Of, at, Bit, Len, Low. No condition. -/
namespace Go.Proofs.YtphnpchmdpjabaaGreatDoor
open Go Sx Wd

end Go.Proofs.YtphnpchmdpjabaaGreatDoor

/- Reference of layer 2: Cmp, Plus, Minus, Times. No condition. -/
namespace Go.Proofs.YtphnpchmdpjabaaGreatDoor
open Go Sx Wd

end Go.Proofs.YtphnpchmdpjabaaGreatDoor

/- Reference of layer 2: digit, Parts, Moved. No condition. -/
namespace Go.Proofs.YtphnpchmdpjabaaGreatDoor
open Go Sx Wd

end Go.Proofs.YtphnpchmdpjabaaGreatDoor

/- Reference of layer 3: forms. No condition. -/
namespace Go.Proofs.YtphnpchmdpjabaaGreatDoor
open Go Sx Wd

end Go.Proofs.YtphnpchmdpjabaaGreatDoor

/- Reference of layer 3: Number, Bits, Of, Int, Neg, Sign. No condition. -/
namespace Go.Proofs.YtphnpchmdpjabaaGreatDoor
open Go Sx Wd

end Go.Proofs.YtphnpchmdpjabaaGreatDoor

/- Reference of layer 3: Add, Mul, Against. No condition. -/
namespace Go.Proofs.YtphnpchmdpjabaaGreatDoor
open Go Sx Wd

end Go.Proofs.YtphnpchmdpjabaaGreatDoor

/- Reference of layer 3: Against. No condition. -/
namespace Go.Proofs.YtphnpchmdpjabaaGreatDoor
open Go Sx Wd

end Go.Proofs.YtphnpchmdpjabaaGreatDoor

/- Sums of forms as whole numbers of the lowest unit. No condition. -/
namespace Go.Proofs.YtphnpchmdpjabaaGreatDoor
open Go Sx Wd

/-- Sums that an accumulator may have. -/
def InB (S : Int) : Prop := -((16384 * BB : Nat) : Int) < S ∧ S < (16384 * BB : Nat)
end Go.Proofs.YtphnpchmdpjabaaGreatDoor

/- Reference of layer 7: things, counts, sums. No condition. -/
namespace Go.Proofs.YtphnpchmdpjabaaGreatDoor
open Go Sx Wd

end Go.Proofs.YtphnpchmdpjabaaGreatDoor

/- Reference of layer 7: Whole. No condition. -/
namespace Go.Proofs.YtphnpchmdpjabaaGreatDoor
open Go Sx Wd

end Go.Proofs.YtphnpchmdpjabaaGreatDoor

/- Reference of layer 11: may. No condition. -/
namespace Go.Proofs.YtphnpchmdpjabaaGreatDoor
open Go Sx Wd

end Go.Proofs.YtphnpchmdpjabaaGreatDoor

/- Reference of layer 11: Against, half, Nearby. No condition. -/
namespace Go.Proofs.YtphnpchmdpjabaaGreatDoor
open Go Sx Wd

end Go.Proofs.YtphnpchmdpjabaaGreatDoor

/- Reference of layer 11: half, Nearby. No condition. -/
namespace Go.Proofs.YtphnpchmdpjabaaGreatDoor
open Go Sx Wd

end Go.Proofs.YtphnpchmdpjabaaGreatDoor

/- Reference of layer 11: Nearby. No condition. -/
namespace Go.Proofs.YtphnpchmdpjabaaGreatDoor
open Go Sx Wd

end Go.Proofs.YtphnpchmdpjabaaGreatDoor

/- Reference of layer 11: rounded, Quot. No condition. -/
namespace Go.Proofs.YtphnpchmdpjabaaGreatDoor
open Go Sx Wd

end Go.Proofs.YtphnpchmdpjabaaGreatDoor

/- Reference of layer 1: parts, classes. No condition. -/
namespace Go.Proofs.YtphnpchmdpjabaaGreatDoor
open Go Sx Wd

end Go.Proofs.YtphnpchmdpjabaaGreatDoor

/- Reference of layer 13: Told, finite. No condition. -/
namespace Go.Proofs.YtphnpchmdpjabaaGreatDoor
open Go Sx Wd

end Go.Proofs.YtphnpchmdpjabaaGreatDoor

/- Reference of layer 13: Mean. No condition. -/
namespace Go.Proofs.YtphnpchmdpjabaaGreatDoor
open Go Sx Wd

end Go.Proofs.YtphnpchmdpjabaaGreatDoor

/- Reference of layer 13: Middle, Of. No condition. -/
namespace Go.Proofs.YtphnpchmdpjabaaGreatDoor
open Go Sx Wd

end Go.Proofs.YtphnpchmdpjabaaGreatDoor

/- What the laws compare is determined: each answer is the only one. No condition. -/
namespace Go.Proofs.YtphnpchmdpjabaaGreatDoor
open Go Sx Wd

theorem quot_unique {nn nd : Bool} {ln ld : Nat} {en ed mode : Int} {b b' : Nat} {e e' : Int} (h : QuotP nn nd ln ld en ed mode b e) (h' : QuotP nn nd ln ld en ed mode b' e') : b = b' ∧ e = e' := by
  rcases h with ⟨a, b1, e1⟩ | ⟨a, h⟩ <;> rcases h' with ⟨a', b2, e2⟩ | ⟨a', h'⟩
  · exact ⟨b1.trans b2.symm, e1.trans e2.symm⟩
  · exact absurd a' a
  · exact absurd a a'
  · rcases h with ⟨s, b1, e1⟩ | ⟨s, n, b1, e1⟩ | ⟨s, x, y, hx, hy, h⟩ <;> rcases h' with ⟨s', b2, e2⟩ | ⟨s', n', b2, e2⟩ | ⟨s', x', y', hx', hy', h'⟩
    · exact ⟨b1.trans b2.symm, e1.trans e2.symm⟩
    · omega
    · omega
    · omega
    · exact ⟨b1.trans b2.symm, e1.trans e2.symm⟩
    · rcases n with n | n
      · rw [hx'] at n; cases n
      · rw [hy'] at n; cases n
    · omega
    · rcases n' with n | n
      · rw [hx] at n; cases n
      · rw [hy] at n; cases n
    · rw [hx] at hx'; cases hx'
      rw [hy] at hy'; cases hy'
      rcases h with ⟨z, b1, e1⟩ | ⟨z, r, N, _, b1, e1⟩ <;> rcases h' with ⟨z', b2, e2⟩ | ⟨z', r', N', _, b2, e2⟩
      · exact ⟨b1.trans b2.symm, e1.trans e2.symm⟩
      · exact absurd z z'
      · exact absurd z' z
      · have := N.unique (Nat.mul_pos (by omega) (dyB_pos _)) N'
        subst this
        exact ⟨b1.trans b2.symm, e1.trans e2.symm⟩
theorem told_unique {d : Dy} {n : Nat} {s : SP} {mode : Int} {b b' : Nat} {e e' : Int} (h : toldR d n s mode b e) (h' : toldR d n s mode b' e') : b = b' ∧ e = e' := by
  rcases h with ⟨a, b1, e1⟩ | ⟨a, h⟩ <;> rcases h' with ⟨a', b2, e2⟩ | ⟨a', h'⟩
  · exact ⟨b1.trans b2.symm, e1.trans e2.symm⟩
  · exact absurd a a'
  · exact absurd a' a
  · exact quot_unique h h'
theorem mean_unique {l : List Nat} {mode pn pi : Int} {b b' : Nat} {e e' : Int} (h : meanR l mode pn pi b e) (h' : meanR l mode pn pi b' e') : b = b' ∧ e = e' := by
  rcases h with ⟨a, b1, e1⟩ | ⟨a, h⟩ <;> rcases h' with ⟨a', b2, e2⟩ | ⟨a', h'⟩
  · exact ⟨b1.trans b2.symm, e1.trans e2.symm⟩
  · exact absurd a' a
  · exact absurd a a'
  · rcases h with ⟨s, b1, e1⟩ | ⟨s, h⟩ <;> rcases h' with ⟨s', b2, e2⟩ | ⟨s', h'⟩
    · exact ⟨b1.trans b2.symm, e1.trans e2.symm⟩
    · exact absurd s' s
    · exact absurd s s'
    · rcases h with ⟨v, e1⟩ | ⟨v, h⟩ <;> rcases h' with ⟨v', e2⟩ | ⟨v', h'⟩
      · rw [v] at v'; cases v'; exact ⟨rfl, e1.trans e2.symm⟩
      · rw [v] at v'; cases v'
      · rw [v] at v'; cases v'
      · rcases h with ⟨f, b1, e1⟩ | ⟨f, h⟩ <;> rcases h' with ⟨f', b2, e2⟩ | ⟨f', h'⟩
        · exact ⟨b1.trans b2.symm, e1.trans e2.symm⟩
        · exact absurd f f'
        · exact absurd f' f
        · exact told_unique h h'
end Go.Proofs.YtphnpchmdpjabaaGreatDoor

/- Numbers in order: the sorted list of a list's numbers is the only one. No condition. -/
namespace Go.Proofs.YtphnpchmdpjabaaGreatDoor
open Go Fl

theorem key_inj {a b : Nat} (ha : a < 18446744073709551616) (hb : b < 18446744073709551616) (na : isNaN a = false) (nb : isNaN b = false) (h : key a = key b) : a = b := by
  unfold key at h
  rw [na, nb] at h
  simp only [Bool.false_eq_true, if_false] at h
  split at h <;> split at h <;> omega
/-- In order. -/
def Srt (l : List Nat) : Prop := l.Pairwise fun a b => key a ≤ key b
/-- Numbers that are no NaN. -/
def Nums (l : List Nat) : Prop := ∀ x ∈ l, x < 18446744073709551616 ∧ isNaN x = false
theorem Nums.tail {x : Nat} {l : List Nat} (h : Nums (x :: l)) : Nums l := fun y hy => h y (List.mem_cons_of_mem _ hy)
theorem Nums.perm {a b : List Nat} (h : Nums a) (p : a.Perm b) : Nums b := fun y hy => h y (p.mem_iff.2 hy)
theorem sorted_unique : ∀ {a b : List Nat}, a.Perm b → Srt a → Srt b → Nums a → a = b
  | [], b, h, _, _, _ => (List.Perm.nil_eq h)
  | x :: a, [], h, _, _, _ => by have := h.length_eq; simp at this
  | x :: a, y :: b, h, ha, hb, hw => by
    have hx : x ∈ y :: b := h.mem_iff.1 (List.mem_cons_self ..)
    have hy : y ∈ x :: a := h.mem_iff.2 (List.mem_cons_self ..)
    have h1 : key y ≤ key x := by
      rcases List.mem_cons.1 hx with e | e
      · rw [e]; exact Int.le_refl _
      · exact (List.pairwise_cons.1 hb).1 x e
    have h2 : key x ≤ key y := by
      rcases List.mem_cons.1 hy with e | e
      · rw [e]; exact Int.le_refl _
      · exact (List.pairwise_cons.1 ha).1 y e
    have hx2 := hw x (List.mem_cons_self ..)
    have hy2 := hw y hy
    have e : x = y := key_inj hx2.1 hy2.1 hx2.2 hy2.2 (by omega)
    subst e
    rw [sorted_unique ((List.perm_cons x).1 h) (List.pairwise_cons.1 ha).2 (List.pairwise_cons.1 hb).2 hw.tail]
/-- A list in order. -/
def sortP (l : List Nat) : List Nat := l.mergeSort fun a b => decide (key a ≤ key b)
theorem sortP_perm (l : List Nat) : (sortP l).Perm l := List.mergeSort_perm ..
theorem sortP_srt (l : List Nat) : Srt (sortP l) := by
  have h := List.pairwise_mergeSort (le := fun a b => decide (key a ≤ key b)) (fun a b c h1 h2 => by simp at *; omega) (fun a b => by simp; omega) l
  exact h.imp (fun h => by simpa using h)
theorem sortP_length (l : List Nat) : (sortP l).length = l.length := (sortP_perm l).length_eq
theorem sortP_eq {a l : List Nat} (p : a.Perm l) (s : Srt a) (h : Nums l) : a = sortP l :=
  sorted_unique (p.trans (sortP_perm l).symm) s (sortP_srt l) (h.perm p.symm)
end Go.Proofs.YtphnpchmdpjabaaGreatDoor

/- Means of a list's numbers: put in another order, weighed alike, trimmed. No condition. -/
namespace Go.Proofs.YtphnpchmdpjabaaGreatDoor
open Go Sx Wd Fl
set_option exponentiation.threshold 9000

theorem perm_sumI {a b : List Nat} (h : a.Perm b) : sumI a = sumI b := by
  induction h with
  | nil => rfl
  | cons x _ ih => simp only [sumI, List.map_cons, List.sum_cons] at *; omega
  | swap x y l => simp only [sumI, List.map_cons, List.sum_cons]; omega
  | trans _ _ h1 h2 => exact h1.trans h2
theorem countP_comm (s : SP) (k m : Nat) : countP (countP s k) m = countP (countP s m) k := by
  unfold countP
  congr 1 <;> (dsimp only; omega)
theorem perm_fold {a b : List Nat} (h : a.Perm b) : ∀ s : SP, a.foldl (fun s x => countP s (kindP x)) s = b.foldl (fun s x => countP s (kindP x)) s := by
  induction h with
  | nil => intro s; rfl
  | cons x _ ih => intro s; exact ih _
  | swap x y l => intro s; simp only [List.foldl_cons]; rw [countP_comm]
  | trans _ _ h1 h2 => intro s; exact (h1 s).trans (h2 s)
theorem perm_cntP {a b : List Nat} (h : a.Perm b) : cntP a = cntP b := perm_fold h _
theorem mean_perm {a b : List Nat} {mode pn pi : Int} {bits : Nat} {e : Int} (h : a.Perm b) (hm : meanR a mode pn pi bits e) : meanR b mode pn pi bits e := by
  have h1 := perm_cntP h
  have h2 := h.length_eq
  have h3 : (filP a).Perm (filP b) := h.filter _
  have h4 := perm_sumI h3
  have h5 := h3.length_eq
  have h6 : (filP a = []) = (filP b = []) := propext (by rw [← List.length_eq_zero_iff, ← List.length_eq_zero_iff, h5])
  have h7 : siftE a pn pi = siftE b pn pi := by unfold siftE; rw [h1, h2]
  unfold meanR at hm ⊢
  simpa only [h7, h1, h4, h5, h6, ne_eq] using hm
theorem fin_num {x : Nat} (h : (splitP x).cls ≤ 2) : isNaN x = false := by
  have := fin_mod h
  unfold isNaN
  exact decide_eq_false (by omega)
theorem finL_nums {l : List Nat} (h : finL l) (hw : ∀ x ∈ l, x < 18446744073709551616) : Nums l := fun x hx => ⟨hw x hx, fin_num (h x hx)⟩
theorem sumP_rep {w : Nat} (hw : (splitP w).cls ≤ 2) : ∀ {l : List Nat}, finL l → sumP l (List.replicate l.length w) * (2 ^ 2148 : Nat) = sumI l * fvI w
  | [], _ => by simp [sumP, sumI]
  | x :: l, h => by
    have h1 := sumP_rep hw (l := l) (fun z hz => h z (List.mem_cons_of_mem _ hz))
    have h2 := thv_prod (h x (List.mem_cons_self ..)) hw
    rw [List.length_cons, List.replicate_succ]
    have e : sumP (x :: l) (w :: List.replicate l.length w) = thv (prodP x w) + sumP l (List.replicate l.length w) := rfl
    have e2 : sumI (x :: l) = fvI x + sumI l := by simp [sumI]
    rw [e, e2, Int.add_mul, Int.add_mul, h1, h2]
theorem low_of : ∀ {l : List Nat}, l ≠ [] → ∃ v ∈ l, ∀ x ∈ l, fvI v ≤ fvI x
  | [], h => absurd rfl h
  | [x], _ => ⟨x, by simp, fun y hy => by simp at hy; rw [hy]; exact Int.le_refl _⟩
  | x :: y :: l, _ => by
    obtain ⟨v, hv, h⟩ := low_of (l := y :: l) (by simp)
    by_cases q : fvI v ≤ fvI x
    · exact ⟨v, List.mem_cons_of_mem _ hv, fun z hz => by rcases List.mem_cons.1 hz with e | e; rw [e]; exact q; exact h z e⟩
    · exact ⟨x, List.mem_cons_self .., fun z hz => by rcases List.mem_cons.1 hz with e | e; rw [e]; exact Int.le_refl _; have := h z e; omega⟩
theorem high_of : ∀ {l : List Nat}, l ≠ [] → ∃ v ∈ l, ∀ x ∈ l, fvI x ≤ fvI v
  | [], h => absurd rfl h
  | [x], _ => ⟨x, by simp, fun y hy => by simp at hy; rw [hy]; exact Int.le_refl _⟩
  | x :: y :: l, _ => by
    obtain ⟨v, hv, h⟩ := high_of (l := y :: l) (by simp)
    by_cases q : fvI x ≤ fvI v
    · exact ⟨v, List.mem_cons_of_mem _ hv, fun z hz => by rcases List.mem_cons.1 hz with e | e; rw [e]; exact q; exact h z e⟩
    · exact ⟨x, List.mem_cons_self .., fun z hz => by rcases List.mem_cons.1 hz with e | e; rw [e]; exact Int.le_refl _; have := h z e; omega⟩
/-- The mean of finite numbers is one. -/
theorem mean_num {l : List Nat} {mode : Int} {bits : Nat} {e : Int} (h : meanR l mode 0 0 bits e) (hf : finL l) (hw : ∀ x ∈ l, x < 18446744073709551616) (hl : l.length ≤ 65536) (hne : l ≠ []) (hm : 0 ≤ mode ∧ mode ≤ 4) :
    e = 0 ∧ bits < 18446744073709551616 ∧ (splitP bits).cls ≤ 2 := by
  obtain ⟨lo, a1, a2⟩ := low_of hne
  obtain ⟨hi, b1, b2⟩ := high_of hne
  obtain ⟨h1, h2, h3, _⟩ := mean_between h hf hl hne hm (hf lo a1) (hf hi b1) (hw lo a1) (hw hi b1) a2 b2
  exact ⟨h1, h2, h3⟩
theorem wt_same {l : List Nat} {w : Nat} {mode : Int} {z x : Nat} {g e : Int} (hf : finL l) (hlw : ∀ x ∈ l, x < 18446744073709551616) (hl : l.length ≤ 65536) (hne : l ≠ []) (hm : 0 ≤ mode ∧ mode ≤ 4) (hw : (splitP w).cls ≤ 2) (hw0 : fvI w ≠ 0)
    (h : wtR l (List.replicate l.length w) mode z g) (hx : meanR l mode 0 0 x e) : g = 0 ∧ (splitP z).cls ≤ 2 ∧ (splitP x).cls ≤ 2 ∧ fvI z = fvI x := by
  have hn : l.length ≠ 0 := fun q => hne (List.length_eq_zero_iff.1 q)
  obtain ⟨_, hx64, hxf⟩ := mean_num hx hf hlw hl hne hm
  obtain ⟨-, hxx⟩ := mean_fin2 hx hf hl hne hm ⟨by decide, by decide⟩
  have hfr : finL (List.replicate l.length w) := fun y hy => by rw [List.eq_of_mem_replicate hy]; exact hw
  have hD := sum_like l.length w
  have hP := sumP_rep hw hf
  have hPin := sumP_in hf hfr (by omega)
  have hDin := sumI_in (l := List.replicate l.length w) (by simp; omega)
  rcases h with ⟨q, _⟩ | ⟨_, ⟨q, _⟩ | ⟨_, ⟨q, _⟩ | ⟨_, ⟨q, _⟩ | ⟨_, ⟨q, _⟩ | ⟨_, hQ⟩⟩⟩⟩⟩
  · exact absurd hm q
  · rw [List.length_replicate] at q; omega
  · rw [List.length_replicate] at q; exact absurd rfl q
  · exact absurd ⟨hf, hfr⟩ q
  · exact absurd q hne
  · generalize sumP l (List.replicate l.length w) = P at *
    generalize sumI (List.replicate l.length w) = D at *
    generalize sumI l = S at *
    generalize hWv : fvI w = W at *
    generalize hnn : l.length = n at *
    have hp : (0 : Int) < ((2 ^ 2148 : Nat) : Int) := by exact_mod_cast Nat.two_pow_pos _
    generalize hQ2 : ((2 ^ 2148 : Nat) : Int) = Q at *
    have hn0 : (0 : Int) < (n : Int) := by omega
    have hDneg : D < 0 ↔ W < 0 := by
      rw [hD]
      constructor
      · intro q
        apply Int.lt_of_not_ge; intro q2
        have := Int.mul_nonneg (Int.le_of_lt hn0) q2
        omega
      · intro q
        exact Int.mul_neg_of_pos_of_neg hn0 q
    have hD0 : D ≠ 0 := by
      rw [hD]; intro q
      rcases Int.mul_eq_zero.1 q with q | q
      · omega
      · exact hw0 q
    have hPS : P = 0 ↔ S = 0 := by
      constructor
      · intro q
        rw [q, Int.zero_mul] at hP
        rcases Int.mul_eq_zero.1 hP.symm with q | q
        · exact q
        · exact absurd q hw0
      · intro q
        rw [q, Int.zero_mul] at hP
        rcases Int.mul_eq_zero.1 hP with q | q
        · exact q
        · omega
    have hsgn : (if D < 0 then -P else P) < 0 ↔ S < 0 := by
      by_cases q : D < 0
      · rw [if_pos q]
        have hw1 := hDneg.1 q
        constructor
        · intro q2
          apply Int.lt_of_not_ge; intro q3
          have h1 : 0 < P * Q := Int.mul_pos (by omega) hp
          have h2 : S * W ≤ 0 := Int.mul_nonpos_of_nonneg_of_nonpos q3 (Int.le_of_lt hw1)
          omega
        · intro q2
          apply Int.lt_of_not_ge; intro q3
          have h1 : P * Q ≤ 0 := Int.mul_nonpos_of_nonpos_of_nonneg (by omega) (Int.le_of_lt hp)
          have h2 : 0 < S * W := Int.mul_pos_of_neg_of_neg q2 hw1
          omega
      · rw [if_neg q]
        have hw1 : 0 < W := by
          have := fun q2 => q (hDneg.2 q2)
          omega
        constructor
        · intro q2
          apply Int.lt_of_not_ge; intro q3
          have h1 : P * Q < 0 := Int.mul_neg_of_neg_of_pos q2 hp
          have h2 : 0 ≤ S * W := Int.mul_nonneg q3 (Int.le_of_lt hw1)
          omega
        · intro q2
          apply Int.lt_of_not_ge; intro q3
          have h1 : 0 ≤ P * Q := Int.mul_nonneg q3 (Int.le_of_lt hp)
          have h2 : S * W < 0 := Int.mul_neg_of_neg_of_pos q2 hw1
          omega
    have habs : P.natAbs * 2 ^ 2148 = S.natAbs * W.natAbs := by
      have := congrArg Int.natAbs hP
      rw [Int.natAbs_mul, Int.natAbs_mul, ← hQ2, Int.natAbs_natCast] at this
      exact this
    have hDa : D.natAbs = n * W.natAbs := by rw [hD, Int.natAbs_mul, Int.natAbs_natCast]
    have hNa : (if D < 0 then -P else P).natAbs = P.natAbs := by split <;> omega
    have hWa : (if D < 0 then -D else D).natAbs = D.natAbs := by split <;> omega
    have hWpos : 0 < (if D < 0 then -D else D) := by split <;> omega
    obtain ⟨hg, r, hN, hr, hb⟩ := quo_sum (by split <;> omega) (by split <;> omega) hWpos (by split <;> omega) hm hQ
    rw [hNa, hWa] at hN
    rw [show decide ((if D < 0 then -P else P) < 0) = decide (S < 0) from decide_eq_decide.2 hsgn] at hN
    have hb2 : z = if S < 0 then r + 9223372036854775808 else r := by
      rw [hb]
      by_cases q : S < 0
      · rw [if_pos q, if_pos (hsgn.2 q)]
      · rw [if_neg q, if_neg (fun q2 => q (hsgn.1 q2))]
    have hDpos : 0 < D.natAbs := by omega
    obtain ⟨z1, z2, z3, z4⟩ := fv_zero
    rcases hxx with ⟨hz, hbx⟩ | ⟨hz, hM⟩
    · have hP0 := hPS.2 hz
      rw [hP0, Int.natAbs_zero, Nat.zero_mul] at hN
      have hr0 : r = 0 := hN.unique hDpos (near_zero hDpos _ _)
      rw [hz, if_neg (by omega), hr0] at hb2
      subst hb2
      refine ⟨hg, by rw [z3]; omega, hxf, ?_⟩
      rcases nought_two (cntP l) mode with q | q
      · rw [hbx, q]
      · rw [hbx, q, z1, z2]
    · obtain ⟨r2, hN2, hr2, hb3⟩ := hM
      have hB2 : 0 < n * 2 ^ 1073 := Nat.mul_pos (by omega) (Nat.two_pow_pos _)
      have hN3 : IsNear S.natAbs (n * 2 ^ 1073) (decide (S < 0)) mode r := hN.congr hDpos hB2 (by
        rw [hDa, show S.natAbs * (n * W.natAbs) = n * (S.natAbs * W.natAbs) by ac_rfl, ← habs, show (2 : Nat) ^ 2148 = 2 ^ 1075 * 2 ^ 1073 by rw [← Nat.pow_add]]
        ac_rfl)
      have : r = r2 := hN3.unique hB2 hN2
      subst this
      have : z = x := hb2.trans hb3.symm
      subst this
      exact ⟨hg, hxf, hxf, rfl⟩
/-- What Trimmed answers. -/
def trimR (l : List Nat) (k mode : Int) (bits : Nat) (e : Int) : Prop :=
  (¬ ((0 ≤ mode ∧ mode ≤ 4) ∧ 0 ≤ k) ∧ bits = 0 ∧ e = 1) ∨ (((0 ≤ mode ∧ mode ≤ 4) ∧ 0 ≤ k) ∧
    ((65536 < l.length ∧ bits = 0 ∧ e = 2) ∨ (¬ 65536 < l.length ∧
      ((¬ finL l ∧ bits = 0 ∧ e = 30) ∨ (finL l ∧
        (((l.length : Int) ≤ 2 * k ∧ bits = 0 ∧ e = 3) ∨ (2 * k < (l.length : Int) ∧ meanR (((sortP l).drop k.toNat).take (l.length - 2 * k.toNat)) mode 0 0 bits e)))))))
end Go.Proofs.YtphnpchmdpjabaaGreatDoor

/- What the long lists' means and the ways to a mean come to. No condition. -/
namespace Go.Proofs.YtphnpchmdpjabaaGreatDoor
open Go Sx Wd Fl
set_option exponentiation.threshold 9000

theorem wt_odd {l k : List Nat} {mode : Int} {b : Nat} {e : Int} (h : wtR l k mode b e) (hm : 0 ≤ mode ∧ mode ≤ 4) (hl : l.length ≤ 65536) (hlk : l.length = k.length) (hk : ¬ finL k) : e = 30 := by
  rcases h with ⟨q, _⟩ | ⟨_, ⟨q, _⟩ | ⟨_, ⟨q, _⟩ | ⟨_, ⟨_, _, h⟩ | ⟨q, _⟩⟩⟩⟩
  · exact absurd hm q
  · omega
  · exact absurd hlk q
  · exact h
  · exact absurd q.2 hk
theorem finL_rep {n w : Nat} (hw : (splitP w).cls ≤ 2) : finL (List.replicate n w) := fun y hy => by rw [List.eq_of_mem_replicate hy]; exact hw
theorem quoD_none {N W mode : Int} {b : Nat} {e : Int} (h : QuoD N W mode b e) (hm : 0 ≤ mode ∧ mode ≤ 4) (hN : -((16384 * BB : Nat) : Int) < N ∧ N < (16384 * BB : Nat)) (hW : W = 0) : e = 21 := by
  subst hW
  unfold QuoD at h
  have hok := sumD_ok hN.1 hN.2
  have hf := formD_self hok
  have h0 : sumD 0 = Dy.zero := sumD_zero
  have hz : formD Dy.zero.neg Dy.zero.m Dy.zero.e = some Dy.zero := formD_zero _ _
  rcases h with ⟨q, _⟩ | ⟨_, ⟨q, _⟩ | ⟨_, q, _⟩ | ⟨_, x, y, hx, hy, ⟨_, _, h⟩ | ⟨q, _⟩⟩⟩
  · exact absurd hm q
  · rw [h0] at q; exact absurd q (by decide)
  · rw [h0, hz, hf] at q; rcases q with q | q <;> cases q
  · exact h
  · rw [h0, hz] at hy; cases hy; exact absurd rfl q
theorem wt_nought {l : List Nat} {w : Nat} {mode : Int} {b : Nat} {e : Int} (h : wtR l (List.replicate l.length w) mode b e) (hm : 0 ≤ mode ∧ mode ≤ 4) (hf : finL l) (hl : l.length ≤ 65536) (hne : l ≠ []) (hw : (splitP w).cls ≤ 2) (hw0 : fvI w = 0) : e = 21 := by
  have hfr := finL_rep (n := l.length) hw
  have hP := sumP_in hf hfr (by omega)
  have hD : sumI (List.replicate l.length w) = 0 := by rw [sum_like, hw0]; simp
  rcases h with ⟨q, _⟩ | ⟨_, ⟨q, _⟩ | ⟨_, ⟨q, _⟩ | ⟨_, ⟨q, _⟩ | ⟨_, ⟨q, _⟩ | ⟨_, hQ⟩⟩⟩⟩⟩
  · exact absurd hm q
  · rw [List.length_replicate] at q; omega
  · rw [List.length_replicate] at q; exact absurd rfl q
  · exact absurd ⟨hf, hfr⟩ q
  · exact absurd q hne
  · rw [hD] at hQ
    exact quoD_none hQ hm (by split <;> omega) (by split <;> omega)
/-- The order of numbers of one value. -/
theorem feq_val {z x : Nat} (hz : (splitP z).cls ≤ 2) (hx : (splitP x).cls ≤ 2) (h : fvI z = fvI x) : (FloatKind.f64.format.order z x == some .eq) = true := by
  rw [order_fin hz hx, h]; simp
theorem of_same {l : List Nat} {mode : Int} {b x : Nat} {e ex : Int} (hf : finL l) (hlw : ∀ x ∈ l, x < 18446744073709551616) (hl : l.length ≤ 65536) (hne : l ≠ []) (hm : 0 ≤ mode ∧ mode ≤ 4)
    (h : ofR (sumD (sumI l)).neg (sumD (sumI l)).m (sumD (sumI l)).e (l.length : Int) mode b e) (hx : meanR l mode 0 0 x ex) : e = 0 ∧ (splitP b).cls ≤ 2 ∧ fvI b = fvI x := by
  have hn : l.length ≠ 0 := fun q => hne (List.length_eq_zero_iff.1 q)
  have hin := sumI_in (l := l) (by omega)
  have hok := sumD_ok hin.1 hin.2
  obtain ⟨_, hx64, hxf⟩ := mean_num hx hf hlw hl hne hm
  obtain ⟨-, hxx⟩ := mean_fin2 hx hf hl hne hm ⟨by decide, by decide⟩
  obtain ⟨z1, z2, z3, z4⟩ := fv_zero
  rcases h with ⟨q, _⟩ | ⟨_, ⟨q, _⟩ | ⟨d, hd, hT⟩⟩
  · exact absurd ⟨hm, by omega, by omega⟩ q
  · rw [formD_self hok] at q; cases q
  · rw [formD_self hok] at hd; cases hd
    rw [Int.toNat_natCast] at hT
    obtain ⟨he, hh⟩ := told_sum hin.1 hin.2 hn (by omega) hm hT
    refine ⟨he, ?_⟩
    rcases hh with ⟨h0, hb⟩ | ⟨h0, hM⟩ <;> rcases hxx with ⟨h0', hb'⟩ | ⟨h0', hM'⟩
    · have e1 : fvI x = 0 := by rcases nought_two (cntP l) mode with q | q <;> rw [hb', q] <;> assumption
      rw [e1]
      rcases nought_two SP.zero mode with q | q <;> rw [hb, q]
      · exact ⟨by omega, z1⟩
      · exact ⟨by omega, z2⟩
    · exact absurd h0 h0'
    · exact absurd h0' h0
    · have := hM.unique hn hM'
      subst this
      exact ⟨hxf, rfl⟩
theorem trim_none {l : List Nat} {mode : Int} {b x : Nat} {e ex : Int} (hf : finL l) (hlw : ∀ x ∈ l, x < 18446744073709551616) (hl : l.length ≤ 65536) (hne : l ≠ []) (hm : 0 ≤ mode ∧ mode ≤ 4) (h : trimR l 0 mode b e) (hx : meanR l mode 0 0 x ex) : b = x ∧ e = ex := by
  have hn : l.length ≠ 0 := fun q => hne (List.length_eq_zero_iff.1 q)
  rcases h with ⟨q, _⟩ | ⟨_, ⟨q, _⟩ | ⟨_, ⟨q, _⟩ | ⟨_, ⟨q, _⟩ | ⟨_, h⟩⟩⟩⟩
  · exact absurd ⟨hm, by decide⟩ q
  · omega
  · exact absurd hf q
  · omega
  · have e1 : ((sortP l).drop (0 : Int).toNat).take (l.length - 2 * (0 : Int).toNat) = sortP l := by
      rw [show (0 : Int).toNat = 0 from rfl, List.drop_zero, Nat.mul_zero, Nat.sub_zero, ← sortP_length l, List.take_length]
    rw [e1] at h
    exact mean_unique (mean_perm (sortP_perm l) h) hx
theorem fvI_nought {w : Nat} (hw : (splitP w).cls ≤ 2) (h64 : w < 18446744073709551616) : fvI w = 0 ↔ w % 9223372036854775808 = 0 := by
  have hp : (0 : Nat) < 2 ^ 1074 := Nat.two_pow_pos _
  have e := fvI_nz hw h64
  have h1 : nz (w % 9223372036854775808) * 2 ^ 1074 = 0 ↔ w % 9223372036854775808 = 0 := by
    rw [← nz_zero (k := w % 9223372036854775808)]
    constructor
    · intro q
      rcases Nat.mul_eq_zero.1 q with q | q
      · exact q
      · omega
    · intro q; rw [q, Nat.zero_mul]
  rw [← h1, e]
  split <;> omega
theorem mid_mean {x y : Nat} {mode : Int} {b : Nat} {e : Int} (h : midR x y mode b e) (hm : 0 ≤ mode ∧ mode ≤ 4) (hx : (splitP x).cls ≤ 2) (hy : (splitP y).cls ≤ 2) : meanR [x, y] mode 0 0 b e := by
  rcases h with ⟨q, _⟩ | ⟨_, ⟨q, _⟩ | ⟨_, h⟩⟩
  · exact absurd hm q
  · exact absurd ⟨hx, hy⟩ q
  · exact h
theorem three : (splitP 4613937818241073152).cls ≤ 2 ∧ fvI 4613937818241073152 ≠ 0 := by
  have h1 : (splitP 4613937818241073152).cls ≤ 2 := by decide +kernel
  refine ⟨h1, fun q => ?_⟩
  rw [fvI_nought h1 (by decide)] at q
  exact absurd q (by decide)
end Go.Proofs.YtphnpchmdpjabaaGreatDoor

/- Slices against nil; an empty slice that is laid and grows. No condition. -/
namespace Go.Proofs.YtphnpchmdpjabaaGreatDoor
open Go Sx Wd
section
variable {P : Program} {n : Nat} {D : List Deferred} {s : Sl} {w : World} {ops : Array Oper} {K : KK} {rest : List Oper} {ty : TypeId} {pos : String} {af : Array Edge} {d : Nat} {x y : Operand}
theorem eqGuard_slice (op : BinOp) (t : TypeId) (x y : Operand) (a b : Option Addr) (i j k l : Nat) : (eqGuard op t x y (.slice a i j) (.slice b k l)).run P w = .ok () w := by
  unfold eqGuard; split <;> simp
/-- A slice against nil. -/
theorem Ev.eqlSliceNil {t t' e : TypeId} {sz by_ : Nat} {z : Value} {a : Option Addr} {m c : Nat} [hT : HasT P t (.slice e) sz by_ z] (hx : opnd s x = some (.slice a m c)) (hy : opnd s y = some (.slice none 0 0)) : Ev P s (.binOp .eql t x y t') ty w (.bool a.isNone) w :=
  run_bin hx hy (fun _ _ => eqGuard_slice _ _ _ _ _ _ _ _ _ _) (by
    have := run_eqIn (P := P) (w := w) (t := t) (u := .slice a m c) (v := .slice none 0 0) (r := a.isNone) (fun d => by cases a <;> simp [Op.equalIn, hT.underlying])
    simp only [binOp]
    simp [this])
/-- An empty slice of one's own. -/
theorem WL.emptySlice {t e : TypeId} {de : TypeDesc} {sz by_ es be : Nat} {z ze : Value} {f : Nat → Value} {lo : Nat} {X : List Nat} [hT : HasT P t (.slice e) sz by_ z] [hE : HasT P e de es be ze] (hlo : lo ≤ w.heap.size) (hX : ∀ b ∈ X, b < w.heap.size) (hd : Nat.blt d n = true)
    (k : ∀ v w', GR w' e f lo X v [] → Chg [] w w' → WL P ops K rest n D ((d, v) :: s) w') : WL P ops K (⟨some d, .buildSlice t 0 #[], ty, pos, af, none⟩ :: rest) n D s w := by
  refine WL.ev (v := .slice (some ⟨w.heap.size, 0, none⟩) 0 0) (w' := w.alloc (.cells #[] e)) (fun ρ d' pos af g hρ => ?_) hd (k _ _ ?_ (new_alloc w _).chg)
  · simp [execOp, Instr.buildSlice, hT.underlying, hE.sizeOf, Instr.fill, newRow]
    rw [show Array.range 0 = #[] from by decide, Array.map_empty]
  · refine ⟨⟨by simp, .inr ⟨w.heap.size, 0, #[], rfl, Nat.zero_le _, ?_, Nat.le_refl _, by unfold maxLen; omega, by simp, by simp⟩⟩, fun b hb => ?_⟩
    · exact (new_alloc w (.cells #[] e)).at_
    · cases hb
      exact ⟨hlo, fun hm => Nat.lt_irrefl _ (hX _ hm)⟩
end
theorem GR.own {w : World} {e : TypeId} {f : Nat → Value} {lo : Nat} {X : List Nat} {v : Value} {l : List Nat} (h : GR w e f lo X v l) (hne : l ≠ []) : ∃ b c cur, v = .slice (some ⟨b, 0, none⟩) l.length c ∧ w.heap[b]? = some (.cells cur e (0, 0)) ∧ l.length ≤ c ∧ c ≤ maxLen ∧ cur.size = c ∧ cur.toList.take l.length = l.map f ∧ lo ≤ b ∧ b ∉ X := by
  obtain ⟨⟨_, hcase⟩, hb⟩ := h
  rcases hcase with ⟨_, h0⟩ | ⟨g, cp, cur, rfl, _, hheap, hnc, hcm, hcs, htake⟩
  · exact absurd (List.length_eq_zero_iff.1 h0) hne
  · obtain ⟨h1, h2⟩ := hb g rfl
    rw [Nat.mul_one] at hcs htake
    exact ⟨g, cp, cur, rfl, hheap, hnc, hcm, hcs, htake, h1, h2⟩
end Go.Proofs.YtphnpchmdpjabaaGreatDoor

/- Copies of numbers. No condition. -/
namespace Go.Proofs.YtphnpchmdpjabaaGreatDoor.Sx
open Go
section
variable {P : Program} {n : Nat} {D : List Deferred} {s : Sl} {w : World} {ops : Array Oper} {K : KK} {rest : List Oper} {ty : TypeId} {pos : String} {af : Array Edge} {d : Nat} {x y : Operand}
end
end Go.Proofs.YtphnpchmdpjabaaGreatDoor.Sx
