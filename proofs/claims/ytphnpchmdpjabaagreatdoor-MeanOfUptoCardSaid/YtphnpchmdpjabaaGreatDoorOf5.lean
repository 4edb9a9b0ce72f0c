/- Part 5 of what the proof rests on. No condition. -/
import Derived.Test.YtphnpchmdpjabaaGreatDoorOf4
set_option linter.unusedVariables false
set_option linter.unusedSimpArgs false
/- Package mean: Mean. No condition. -/
namespace Go.Proofs.YtphnpchmdpjabaaGreatDoor
open Go Sx Wd
set_option exponentiation.threshold 5000

def isF64 : Value → Bool
  | .float .f64 _ => true
  | _ => false
theorem NF.one {w : World} {v : Value} {l : List Nat} (h : NF w v l) : v.oneCell' = true := by
  obtain ⟨⟨a, c, rfl, _⟩, _⟩ := h; rfl
/-- A list stays where a block turns that holds no numbers. -/
theorem NF.keepBK {w w' : World} {v : Value} {l : List Nat} {b : Nat} {T : TypeId} {cs : List Value} (h : NF w v l) (hb : BK w b T cs) (hc : Chg [b] w w') (hn : ∀ c ∈ cs, isF64 c = false) : NF w' v l := by
  obtain ⟨⟨a, c, h1, h2, h3⟩, h4, h5⟩ := h
  refine ⟨⟨a, c, h1, h2, fun i u hu => ?_⟩, h4, h5⟩
  obtain ⟨ad, e, hcell⟩ := h3 i u hu
  refine ⟨ad, e, hc.cell hcell fun hm => ?_⟩
  simp only [List.mem_singleton] at hm
  have hx : isF64 u = true := by
    rw [List.getElem?_map] at hu
    cases hq : l[i]? with
    | none => rw [hq] at hu; cases hu
    | some y => rw [hq] at hu; cases hu; rfl
  have hlk := hcell
  cases had : ad.add i with
  | mk b' o' sp =>
    rw [had] at hlk hm
    simp only at hm
    subst hm
    cases sp with
    | none =>
      rw [cell_at hb] at hlk
      have := hn u (List.mem_of_getElem? hlk)
      rw [hx] at this; cases this
    | some q =>
      have : w.cell? ⟨b', o', some q⟩ = none := by simp [World.cell?, show w.heap[b']? = _ from hb]
      rw [this] at hlk; cases hlk
theorem QuotP.err {nn nd : Bool} {ln ld : Nat} {en ed mode : Int} {bits : Nat} {e : Int} (h : QuotP nn nd ln ld en ed mode bits e) : (if e = 0 then bits else 0) = bits := by
  rcases h with ⟨_, rfl, rfl⟩ | ⟨_, ⟨_, rfl, rfl⟩ | ⟨_, _, rfl, rfl⟩ | ⟨_, x, y, _, _, ⟨_, rfl, rfl⟩ | ⟨_, r, _, _, _, rfl⟩⟩⟩ <;> simp
theorem toldR.err {d : Dy} {n : Nat} {s : SP} {mode : Int} {bits : Nat} {e : Int} (h : toldR d n s mode bits e) : (if e = 0 then bits else 0) = bits := by
  rcases h with ⟨_, _, rfl⟩ | ⟨_, h⟩
  · simp
  · exact h.err
/-- What Mean answers. -/
def meanR (l : List Nat) (mode pn pi : Int) (bits : Nat) (e : Int) : Prop :=
  (¬ (0 ≤ mode ∧ mode ≤ 4) ∧ bits = 0 ∧ e = 1) ∨ ((0 ≤ mode ∧ mode ≤ 4) ∧
    ((siftE l pn pi ≠ 0 ∧ bits = 0 ∧ e = siftE l pn pi) ∨ (siftE l pn pi = 0 ∧
      ((verdP (cntP l) pn pi = some bits ∧ e = 0) ∨ (verdP (cntP l) pn pi = none ∧
        ((filP l = [] ∧ bits = 0 ∧ e = 3) ∨ (filP l ≠ [] ∧ toldR (sumD (sumI (filP l))) (filP l).length (cntP l) mode bits e)))))))
theorem filP_le (l : List Nat) : (filP l).length ≤ l.length := List.length_filter_le _ _
theorem siftE_len {l : List Nat} {pn pi : Int} (h : siftE l pn pi = 0) : l.length ≤ 65536 ∧ mayQ pn pi := by
  unfold siftE at h
  split at h
  · cases h
  · split at h
    · cases h
    · rename_i h1 h2; exact ⟨by omega, Classical.not_not.1 h1⟩
theorem sumD_ok {S : Int} (h1 : -((16384 * BB : Nat) : Int) < S) (h2 : S < (16384 * BB : Nat)) : (sumD S).ok := by
  have := sumD_eq h1 h2 (decide (S < 0))
  unfold sumD; rw [this]; exact formD_ok this

set_option maxRecDepth 8000 in
set_option maxHeartbeats 1000000 in
theorem Mean_spec (v : Value) (l : List Nat) (mode pn pi : Int) (w : World) (hv : NF w v l) (hg : GW w) : Ret Tryz.prog 15 [v, .int .i64 mode, .agg [.int .i64 pn, .int .i64 pi].toArray] w fun u w' => (∃ bits e, u = .tuple [.float .f64 bits, .int .i64 e].toArray ∧ meanR l mode pn pi bits e) ∧ Chg [] w w' := by
 have hch : Chg [] w w := Chg.refl _ _
 have hv0 := hv
 have hg0 := hg
 have hov := hv.one
 refine Ret.enterD 31 hasF31 Tryz.func15 rfl rfl ?_
 simp only [args0, Nat.zero_add, Nat.reduceAdd]
 refine Sq fun _ kh1 _ kr2 => ?_
 refine WL.boxB rfl rfl rfl fun b5 wm5 hb5 hcm5 hge5 => ?_
 have hgehch5 := Nat.le_trans hch.size hge5
 have hch := hch.trans (Chg.any hcm5)
 refine WL.allocB (l := [.float .f64 0]) rfl rfl fun b6 wm6 hb6 hcm6 hge6 => ?_
 have hgehch6 := Nat.le_trans hch.size hge6
 have hch := hch.trans (Chg.any hcm6)
 have hneb56 : b5 ≠ b6 := by have := hb5.lt; omega
 have hb5 := hb5.keep0 hcm6
 refine WL.allocB (l := [.int .i64 0]) rfl rfl fun b7 wm7 hb7 hcm7 hge7 => ?_
 have hgehch7 := Nat.le_trans hch.size hge7
 have hch := hch.trans (Chg.any hcm7)
 have hneb57 : b5 ≠ b7 := by have := hb5.lt; omega
 have hb5 := hb5.keep0 hcm7
 have hneb67 : b6 ≠ b7 := by have := hb6.lt; omega
 have hb6 := hb6.keep0 hcm7
 refine WL.nil (kr2 _ _ _ (kh1 _ _ _ ?_))
 refine Sq fun _ kh3 _ kr4 => ?_
 refine WL.defer rfl ?_
 refine WL.nil (kr4 _ _ _ (kh3 _ _ _ ?_))
 refine CW.seq fun _ kh5 => ?_
 refine Sq fun _ kh6 _ kr7 => ?_
 refine Mv rfl rfl ?_
 refine WL.call hasF32 rfl rfl (right_spec mode _) fun v w1 h' => ?_
 obtain ⟨rfl, rfl⟩ := h'
 refine WL.ev (Ev.not rfl) rfl ?_
 refine WL.nil (kr7 _ _ _ (kh6 _ _ _ ?_))
 refine CW.cond rfl (fun hc1 => ?_) (fun hc1 => ?_)
 ·
  try simp only [qs] at hc1
  have hmode : ¬ (0 ≤ mode ∧ mode ≤ 4) := by simpa using hc1
  refine Sq fun _ kh8 _ kr9 => ?_
  refine WL.storeC rfl rfl (by first | rfl | assumption | exact NU.one (by assumption)) hb6 (by simp) rfl fun ws2 hb6_ hcs2 => ?_
  try simp only [Sx.splice, qt] at hb6_
  have hch := hch.s1 hcs2
  have hb5 := hb5.keep hcs2 (by simp; omega)
  have hb7 := hb7.keep hcs2 (by simp; omega)
  have hb6 := hb6_
  refine WL.storeC rfl rfl (by first | rfl | assumption | exact NU.one (by assumption)) hb7 (by simp) rfl fun ws3 hb7_ hcs3 => ?_
  try simp only [Sx.splice, qt] at hb7_
  have hch := hch.s1 hcs3
  have hb5 := hb5.keep hcs3 (by simp; omega)
  have hb6 := hb6.keep hcs3 (by simp; omega)
  have hb7 := hb7_
  refine WL.nil (kr9 _ _ _ (kh8 _ _ _ ?_))
  refine CW.ret ?_
  refine clean_door rfl rfl rfl hb6 hb7 hneb67 fun w9 hc9 => ?_
  have hch := hch.step hc9 (fun y hy => by simp only [List.mem_singleton] at hy; subst hy; exact .inr (by omega))
  exact ⟨⟨_, _, rfl, .inl ⟨hmode, rfl, rfl⟩⟩, hch⟩
 ·
  try simp only [qs] at hc1
  have hmode : 0 ≤ mode ∧ mode ≤ 4 := by simpa using hc1
  refine CW.skip ?_
  refine kh5 _ _ _ ?_
  refine Sq fun _ kh10 _ kr11 => ?_
  refine Mv rfl rfl ?_
  refine WL.ev (Ev.loadA rfl rfl hb5 rfl) rfl ?_
  refine WL.call hasF41 rfl rfl (Sift_spec v l pn pi _ (hv0.keep0 hch)) fun v w2 h' => ?_
  have hsz18 := hch.size
  rcases h' with ⟨hse, rfl, hC18⟩ | ⟨hse, v2, hNf, rfl, hC18⟩
  ·
   have hch := hch.trans hC18
   have hb5 := hb5.keep0 hC18
   have hb6 := hb6.keep0 hC18
   have hb7 := hb7.keep0 hC18
   unfold SP.cells
   refine Mv rfl rfl ?_
   refine WL.ev (Ev.extract rfl rfl) rfl ?_
   refine WL.ev (Ev.extract rfl rfl) rfl ?_
   refine WL.ev (Ev.extract rfl rfl) rfl ?_
   refine WL.allocB (l := [.int .i64 0, .int .i64 0, .int .i64 0, .int .i64 0, .int .i64 0, .int .i64 0]) rfl rfl fun b9 wm9 hb9 hcm9 hge9 => ?_
   have hgehch9 := Nat.le_trans hch.size hge9
   have hch := hch.trans (Chg.any hcm9)
   have hneb59 : b5 ≠ b9 := by have := hb5.lt; omega
   have hb5 := hb5.keep0 hcm9
   have hneb69 : b6 ≠ b9 := by have := hb6.lt; omega
   have hb6 := hb6.keep0 hcm9
   have hneb79 : b7 ≠ b9 := by have := hb7.lt; omega
   have hb7 := hb7.keep0 hcm9
   refine As rfl rfl ?_
   refine WL.storeB rfl rfl rfl ao hb9 (by simp) rfl fun ws4 hb9_ hcs4 => ?_
   try simp only [Sx.splice, qt] at hb9_
   have hch := hch.s1 hcs4
   have hb5 := hb5.keep hcs4 (by simp; omega)
   have hb6 := hb6.keep hcs4 (by simp; omega)
   have hb7 := hb7.keep hcs4 (by simp; omega)
   have hb9 := hb9_
   refine WL.storeC rfl rfl (by first | rfl | assumption | exact NU.one (by assumption)) hb7 (by simp) rfl fun ws5 hb7_ hcs5 => ?_
   try simp only [Sx.splice, qt] at hb7_
   have hch := hch.s1 hcs5
   have hb5 := hb5.keep hcs5 (by simp; omega)
   have hb6 := hb6.keep hcs5 (by simp; omega)
   have hb9 := hb9.keep hcs5 (by simp; omega)
   have hb7 := hb7_
   refine WL.nil (kr11 _ _ _ (kh10 _ _ _ ?_))
   refine CW.seq fun _ kh12 => ?_
   refine Sq fun _ kh13 _ kr14 => ?_
   refine WL.ev (Ev.load rfl rfl (hb7.at_ rfl)) rfl ?_
   refine WL.ev (Ev.neq rfl rfl) rfl ?_
   refine WL.nil (kr14 _ _ _ (kh13 _ _ _ ?_))
   refine CW.cond rfl (fun hc2 => ?_) (fun hc2 => ?_)
   ·
    try simp only [qs] at hc2
    refine Sq fun _ kh15 _ kr16 => ?_
    refine WL.ev (Ev.load rfl rfl (hb7.at_ rfl)) rfl ?_
    refine WL.storeC rfl rfl (by first | rfl | assumption | exact NU.one (by assumption)) hb6 (by simp) rfl fun ws6 hb6_ hcs6 => ?_
    try simp only [Sx.splice, qt] at hb6_
    have hch := hch.s1 hcs6
    have hb5 := hb5.keep hcs6 (by simp; omega)
    have hb7 := hb7.keep hcs6 (by simp; omega)
    have hb9 := hb9.keep hcs6 (by simp; omega)
    have hb6 := hb6_
    refine WL.storeC rfl rfl (by first | rfl | assumption | exact NU.one (by assumption)) hb7 (by simp) rfl fun ws7 hb7_ hcs7 => ?_
    try simp only [Sx.splice, qt] at hb7_
    have hch := hch.s1 hcs7
    have hb5 := hb5.keep hcs7 (by simp; omega)
    have hb6 := hb6.keep hcs7 (by simp; omega)
    have hb9 := hb9.keep hcs7 (by simp; omega)
    have hb7 := hb7_
    refine WL.nil (kr16 _ _ _ (kh15 _ _ _ ?_))
    refine CW.ret ?_
    refine clean_door rfl rfl rfl hb6 hb7 hneb67 fun w9 hc9 => ?_
    have hch := hch.step hc9 (fun y hy => by simp only [List.mem_singleton] at hy; subst hy; exact .inr (by omega))
    refine ⟨⟨_, _, rfl, .inr ⟨hmode, .inl ⟨hse, ?_, rfl⟩⟩⟩, hch⟩
    simp
   ·
    try simp only [qs] at hc2
    exact absurd hc2 hse
  ·
   have hch := hch.trans hC18
   have hb5 := hb5.keep0 hC18
   have hb6 := hb6.keep0 hC18
   have hb7 := hb7.keep0 hC18
   unfold SP.cells
   obtain ⟨hl65, hmay⟩ := siftE_len hse
   have hfl := filP_le l
   have hof := hNf.one
   refine Mv rfl rfl ?_
   refine WL.ev (Ev.extract rfl rfl) rfl ?_
   refine WL.ev (Ev.extract rfl rfl) rfl ?_
   refine WL.ev (Ev.extract rfl rfl) rfl ?_
   refine WL.allocB (l := [.int .i64 0, .int .i64 0, .int .i64 0, .int .i64 0, .int .i64 0, .int .i64 0]) rfl rfl fun b9 wm9 hb9 hcm9 hge9 => ?_
   have hgehch9 := Nat.le_trans hch.size hge9
   have hch := hch.trans (Chg.any hcm9)
   have hNf := hNf.keep0 hcm9
   have hneb59 : b5 ≠ b9 := by have := hb5.lt; omega
   have hb5 := hb5.keep0 hcm9
   have hneb69 : b6 ≠ b9 := by have := hb6.lt; omega
   have hb6 := hb6.keep0 hcm9
   have hneb79 : b7 ≠ b9 := by have := hb7.lt; omega
   have hb7 := hb7.keep0 hcm9
   refine As rfl rfl ?_
   refine WL.storeB rfl rfl rfl ao hb9 (by simp) rfl fun ws8 hb9_ hcs8 => ?_
   try simp only [Sx.splice, qt] at hb9_
   have hch := hch.s1 hcs8
   have hb5 := hb5.keep hcs8 (by simp; omega)
   have hb6 := hb6.keep hcs8 (by simp; omega)
   have hb7 := hb7.keep hcs8 (by simp; omega)
   have hNf := hNf.keepBK hb9 hcs8 an
   have hb9 := hb9_
   refine WL.storeC rfl rfl (by first | rfl | assumption | exact NU.one (by assumption)) hb7 (by simp) rfl fun ws9 hb7_ hcs9 => ?_
   try simp only [Sx.splice, qt] at hb7_
   have hch := hch.s1 hcs9
   have hb5 := hb5.keep hcs9 (by simp; omega)
   have hb6 := hb6.keep hcs9 (by simp; omega)
   have hb9 := hb9.keep hcs9 (by simp; omega)
   have hNf := hNf.keepBK hb7 hcs9 an
   have hb7 := hb7_
   refine WL.nil (kr11 _ _ _ (kh10 _ _ _ ?_))
   refine CW.seq fun _ kh17 => ?_
   refine Sq fun _ kh18 _ kr19 => ?_
   refine WL.ev (Ev.load rfl rfl (hb7.at_ rfl)) rfl ?_
   refine WL.ev (Ev.neq rfl rfl) rfl ?_
   refine WL.nil (kr19 _ _ _ (kh18 _ _ _ ?_))
   refine CW.condF rfl ?_
   refine CW.skip ?_
   refine kh17 _ _ _ ?_
   refine CW.seq fun _ kh20 => ?_
   refine Sq fun _ kh21 _ kr22 => ?_
   refine WL.ev (Ev.loadA rfl rfl hb9 rfl) rfl ?_
   refine WL.ev (Ev.loadA rfl rfl hb5 rfl) rfl ?_
   refine WL.call hasF42 rfl rfl (Verdict_spec (cntP l) pn pi _ ((cnt_le l).mono (by omega))) fun v w3 h' => ?_
   obtain ⟨rfl, hC28⟩ := h'
   have hch := hch.trans (Chg.any hC28)
   have hb5 := hb5.keep0 hC28
   have hb6 := hb6.keep0 hC28
   have hb7 := hb7.keep0 hC28
   have hb9 := hb9.keep0 hC28
   have hNf := hNf.keep0 hC28
   refine Mv rfl rfl ?_
   refine WL.ev (Ev.extract rfl rfl) rfl ?_
   refine WL.ev (Ev.extract rfl rfl) rfl ?_
   refine As rfl rfl ?_
   refine As rfl rfl ?_
   refine WL.nil (kr22 _ _ _ (kh21 _ _ _ ?_))
   refine Sq fun _ kh23 _ kr24 => ?_
   refine Mv rfl rfl ?_
   refine WL.nil (kr24 _ _ _ (kh23 _ _ _ ?_))
   refine CW.cond rfl (fun hc3 => ?_) (fun hc3 => ?_)
   ·
    try simp only [qs] at hc3
    obtain ⟨vb, hvb⟩ := Option.isSome_iff_exists.1 hc3
    refine Sq fun _ kh25 _ kr26 => ?_
    refine Mv rfl rfl ?_
    refine WL.storeC rfl rfl (by first | rfl | assumption | exact NU.one (by assumption)) hb6 (by simp) rfl fun ws10 hb6_ hcs10 => ?_
    try simp only [Sx.splice, qt] at hb6_
    have hch := hch.s1 hcs10
    have hb5 := hb5.keep hcs10 (by simp; omega)
    have hb7 := hb7.keep hcs10 (by simp; omega)
    have hb9 := hb9.keep hcs10 (by simp; omega)
    have hb6 := hb6_
    refine WL.storeC rfl rfl (by first | rfl | assumption | exact NU.one (by assumption)) hb7 (by simp) rfl fun ws11 hb7_ hcs11 => ?_
    try simp only [Sx.splice, qt] at hb7_
    have hch := hch.s1 hcs11
    have hb5 := hb5.keep hcs11 (by simp; omega)
    have hb6 := hb6.keep hcs11 (by simp; omega)
    have hb9 := hb9.keep hcs11 (by simp; omega)
    have hb7 := hb7_
    refine WL.nil (kr26 _ _ _ (kh25 _ _ _ ?_))
    refine CW.ret ?_
    refine clean_door rfl rfl rfl hb6 hb7 hneb67 fun w9 hc9 => ?_
    have hch := hch.step hc9 (fun y hy => by simp only [List.mem_singleton] at hy; subst hy; exact .inr (by omega))
    refine ⟨⟨_, _, rfl, .inr ⟨hmode, .inr ⟨hse, .inl ⟨?_, rfl⟩⟩⟩⟩, hch⟩
    rw [hvb]; rfl
   ·
    try simp only [qs] at hc3
    have hvn : verdP (cntP l) pn pi = none := by cases q : verdP (cntP l) pn pi with | none => rfl | some z => rw [q] at hc3; cases hc3
    refine CW.skip ?_
    refine kh20 _ _ _ ?_
    refine CW.seq fun _ kh27 => ?_
    refine Sq fun _ kh28 _ kr29 => ?_
    refine Mv rfl rfl ?_
    obtain ⟨ap, cp, rfl, hcapp, hrp⟩ := hNf.ex
    refine WL.ev (Ev.len rfl) rfl ?_
    refine WL.ev (Ev.eql rfl rfl) rfl ?_
    refine WL.nil (kr29 _ _ _ (kh28 _ _ _ ?_))
    refine CW.cond rfl (fun hc4 => ?_) (fun hc4 => ?_)
    ·
     try simp only [qs] at hc4
     have hnil : filP l = [] := List.length_eq_zero_iff.1 (by omega)
     refine Sq fun _ kh30 _ kr31 => ?_
     refine WL.storeC rfl rfl (by first | rfl | assumption | exact NU.one (by assumption)) hb6 (by simp) rfl fun ws12 hb6_ hcs12 => ?_
     try simp only [Sx.splice, qt] at hb6_
     have hch := hch.s1 hcs12
     have hb5 := hb5.keep hcs12 (by simp; omega)
     have hb7 := hb7.keep hcs12 (by simp; omega)
     have hb9 := hb9.keep hcs12 (by simp; omega)
     have hb6 := hb6_
     refine WL.storeC rfl rfl (by first | rfl | assumption | exact NU.one (by assumption)) hb7 (by simp) rfl fun ws13 hb7_ hcs13 => ?_
     try simp only [Sx.splice, qt] at hb7_
     have hch := hch.s1 hcs13
     have hb5 := hb5.keep hcs13 (by simp; omega)
     have hb6 := hb6.keep hcs13 (by simp; omega)
     have hb9 := hb9.keep hcs13 (by simp; omega)
     have hb7 := hb7_
     refine WL.nil (kr31 _ _ _ (kh30 _ _ _ ?_))
     refine CW.ret ?_
     refine clean_door rfl rfl rfl hb6 hb7 hneb67 fun w9 hc9 => ?_
     have hch := hch.step hc9 (fun y hy => by simp only [List.mem_singleton] at hy; subst hy; exact .inr (by omega))
     exact ⟨⟨_, _, rfl, .inr ⟨hmode, .inr ⟨hse, .inr ⟨hvn, .inl ⟨hnil, rfl, rfl⟩⟩⟩⟩⟩, hch⟩
    ·
     try simp only [qs] at hc4
     have hnn : filP l ≠ [] := fun e => by rw [e] at hc4; exact hc4 rfl
     have hin := sumI_in (l := filP l) (by omega)
     have hok := sumD_ok hin.1 hin.2
     refine CW.skip ?_
     refine kh27 _ _ _ ?_
     refine CW.seq fun _ kh32 => ?_
     refine CW.regionKC 10 12 rfl hmix fun kR33 kr33 hS hdr => ?_
     have hch := hch.trans (Chg.any hdr)
     have hb5 := hb5.keep0 hdr
     have hb6 := hb6.keep0 hdr
     have hb7 := hb7.keep0 hdr
     have hb9 := hb9.keep0 hdr
     have hNf := hNf.keep0 hdr
     have hch_r := hch
     have hb5_r := hb5
     have hb6_r := hb6
     have hb7_r := hb7
     have hb9_r := hb9
     refine WK.take 0 rfl (by kernel_rfl) (by kernel_rfl) (by kernel_rfl) (by kernel_rfl) (by kernel_rfl) (by kernel_rfl) hS (fun w' hw' => Ev.move rfl) rfl ?_
     refine WK.take 3 rfl (by kernel_rfl) (by kernel_rfl) (by kernel_rfl) (by kernel_rfl) (by kernel_rfl) (by kernel_rfl) hS (fun w' hw' => Ev.move rfl) rfl ?_
     refine WK.take 4 rfl (by kernel_rfl) (by kernel_rfl) (by kernel_rfl) (by kernel_rfl) (by kernel_rfl) (by kernel_rfl) hS (fun w' hw' => Ev.len rfl) rfl ?_
     refine WK.take 5 rfl (by kernel_rfl) (by kernel_rfl) (by kernel_rfl) (by kernel_rfl) (by kernel_rfl) (by kernel_rfl) hS (fun w' hw' => Ev.loadA rfl rfl (hb9_r.keep0 hw') rfl) rfl ?_
     refine WK.take 6 rfl (by kernel_rfl) (by kernel_rfl) (by kernel_rfl) (by kernel_rfl) (by kernel_rfl) (by kernel_rfl) hS (fun w' hw' => Ev.move rfl) rfl ?_
     refine WK.oneCall 1 rfl (by kernel_rfl) hasF43 rfl rfl (all_spec _ (filP l) _ hNf (by omega)) fun v w4 h' => ?_
     obtain ⟨⟨ba, C, sa, rfl, hBa, hRa, hsa⟩, hC37⟩ := h'
     have hch := hch.trans (Chg.any hC37)
     have hb5 := hb5.keep0 hC37
     have hb6 := hb6.keep0 hC37
     have hb7 := hb7.keep0 hC37
     have hb9 := hb9.keep0 hC37
     have hNf := hNf.keep0 hC37
     have hS := hS.trans hC37
     refine ⟨hS, ?_⟩
     refine WK.oneCall 2 rfl (by kernel_rfl) hasF28 rfl rfl (Exact_spec ba C (sumI (filP l)) _ hBa hRa (hg0.keep0 hch) hin.1 hin.2) fun v w5 h' => ?_
     obtain ⟨⟨rx, rfl, hNx⟩, hC38⟩ := h'
     have hch := hch.trans (Chg.any hC38)
     have hb5 := hb5.keep0 hC38
     have hb6 := hb6.keep0 hC38
     have hb7 := hb7.keep0 hC38
     have hb9 := hb9.keep0 hC38
     have hNf := hNf.keep0 hC38
     have hS := hS.trans hC38
     refine ⟨hS, ?_⟩
     refine WK.oneCall 7 rfl (by kernel_rfl) hasF34 rfl rfl (told_spec (sumD (sumI (filP l))) rx (filP l).length (cntP l) mode _ hNx hok (by omega) ((cnt_le l).mono (by omega)) (hg0.keep0 hch)) fun v w6 h' => ?_
     obtain ⟨⟨bits, e, rfl, hT⟩, hC43⟩ := h'
     have hch := hch.trans (Chg.any hC43)
     have hb5 := hb5.keep0 hC43
     have hb6 := hb6.keep0 hC43
     have hb7 := hb7.keep0 hC43
     have hb9 := hb9.keep0 hC43
     have hNf := hNf.keep0 hC43
     have hNx := hNx.keep0 hC43
     have hS := hS.trans hC43
     refine ⟨hS, ?_⟩
     refine WK.take 8 rfl (by kernel_rfl) (by kernel_rfl) (by kernel_rfl) (by kernel_rfl) (by kernel_rfl) (by kernel_rfl) hS (fun w' hw' => Ev.extract rfl rfl) rfl ?_
     refine WK.take 9 rfl (by kernel_rfl) (by kernel_rfl) (by kernel_rfl) (by kernel_rfl) (by kernel_rfl) (by kernel_rfl) hS (fun w' hw' => Ev.extract rfl rfl) rfl ?_
     refine WK.storeC 10 rfl (by kernel_rfl) (by kernel_rfl) rfl rfl (by first | rfl | assumption | exact NU.one (by assumption)) hb6 (by simp) rfl fun ws14 hb6_ hcs14 => ?_
     try simp only [Sx.splice, qt] at hb6_
     have hch := hch.s1 hcs14
     have hb5 := hb5.keep hcs14 (by simp; omega)
     have hb7 := hb7.keep hcs14 (by simp; omega)
     have hb9 := hb9.keep hcs14 (by simp; omega)
     have hb6 := hb6_
     refine WK.storeC 11 rfl (by kernel_rfl) (by kernel_rfl) rfl rfl (by first | rfl | assumption | exact NU.one (by assumption)) hb7 (by simp) rfl fun ws15 hb7_ hcs15 => ?_
     try simp only [Sx.splice, qt] at hb7_
     have hch := hch.s1 hcs15
     have hb5 := hb5.keep hcs15 (by simp; omega)
     have hb6 := hb6.keep hcs15 (by simp; omega)
     have hb9 := hb9.keep hcs15 (by simp; omega)
     have hb7 := hb7_
     refine WK.done (by kernel_rfl) (kr33 _ _ _ ?_)
     refine kh32 _ _ _ ?_
     refine CW.ret ?_
     refine clean_door rfl rfl rfl hb6 hb7 hneb67 fun w9 hc9 => ?_
     have hch := hch.step hc9 (fun y hy => by simp only [List.mem_singleton] at hy; subst hy; exact .inr (by omega))
     refine ⟨⟨_, _, rfl, .inr ⟨hmode, .inr ⟨hse, .inr ⟨hvn, .inr ⟨hnn, ?_⟩⟩⟩⟩⟩, hch⟩
     rw [hT.err]; exact hT

end Go.Proofs.YtphnpchmdpjabaaGreatDoor

/- Reference of layer 6. No condition. -/
namespace Go.Proofs.YtphnpchmdpjabaaGreatDoor
open Go Sx Wd

end Go.Proofs.YtphnpchmdpjabaaGreatDoor

/- Drawn regions with two operations that may come up in either order. No condition. -/
namespace Go.Proofs.YtphnpchmdpjabaaGreatDoor.Sx
open Go

/-- Operation i comes up next. -/
def WHat (P : Program) (ops : Array Oper) (K : KK) (S : World → Prop) (fuel : Nat) (listed : Array Bool) (n : Nat) (D : List Deferred) (s : Sl) (w : World) (i : Nat) : Prop :=
  ∀ a, Fr n D s a → wpOp P ops (post n K) i (fun a' w' => S w' ∧ wpAnyH P .any ops (post n K) S fuel (listed.setIfInBounds i true) a' w') a w
section
variable {P : Program} {A : AQ} {n : Nat} {D : List Deferred} {s : Sl} {w : World} {ops : Array Oper} {K : KK} {S : World → Prop} {fuel : Nat} {listed : Array Bool}
variable {op : Op} {ty : TypeId} {pos : String} {af : Array Edge} {d : Nat} {v : Value}
theorem WH.all2 (i j : Nat) (hr : Region.ready .any ops listed = [i, j]) (h1 : WHat P ops K S fuel listed n D s w i) (h2 : WHat P ops K S fuel listed n D s w j) : WH P ops K S (fuel + 1) listed n D s w := fun a ha =>
  wpAnyH_all hr (by simp) fun k hk => by
    rcases (by simpa using hk : k = i ∨ k = j) with rfl | rfl
    · exact h1 a ha
    · exact h2 a ha
theorem WHat.call (i : Nat) {f : FuncId} {xs : List Operand} {at_ : Array TypeId} {vs : List Value} {R : Value → World → Prop} (hi : ops[i]? = some ⟨some d, .call ⟨.value (.func f), xs.toArray, at_⟩, ty, pos, af, none⟩) (hF : HasF P f) (hx : opnds s xs = some vs) (hd : Nat.blt d n = true) (h : Ret P f vs w R)
  (k : ∀ v w', R v w' → S w' ∧ WH P ops K S fuel (listed.setIfInBounds i true) n D ((d, v) :: s) w') : WHat P ops K S fuel listed n D s w i := fun a ha => by
 unfold wpOp
 simp only [hi]
 rw [if_pos (by simp [Region.wanted])]
 refine .inl ?_
 unfold Oper.wp
 rw [exec_call hF rfl hx fun x u hx => ha.eval hx]
 exact Calls.mono h fun e w' ⟨v, he, hR⟩ => by subst he; exact ⟨(k v w' hR).1, (k v w' hR).2 _ (ha.put hd v)⟩
theorem WHat.one (i : Nat) {w' : World} (hi : ops[i]? = some ⟨some d, op, ty, pos, af, none⟩) (he : Ev P s op ty w v w') (hS : S w') (hd : Nat.blt d n = true)
    (k : WH P ops K S fuel (listed.setIfInBounds i true) n D ((d, v) :: s) w') : WHat P ops K S fuel listed n D s w i := fun a ha => by
  unfold wpOp
  simp only [hi]
  rw [if_pos (by simp [Region.wanted])]
  refine .inl ?_
  unfold Oper.wp
  rw [he a.eval (some d) pos af none fun x u hx => ha.eval hx]
  exact ⟨hS, k _ (ha.put hd v)⟩
theorem WHat.buildSlice (i : Nat) {w0 : World} {t e : TypeId} {de : TypeDesc} {sz by_ es be : Nat} {z ze : Value} {ps : List (Nat × Operand)} {vs : List (Nat × Value)} {cs : List Value} {m : Nat} [hT : HasT P t (.slice e) sz by_ z] [hE : HasT P e de es be ze]
    (hi : ops[i]? = some ⟨some d, .buildSlice t m ps.toArray, ty, pos, af, none⟩) (hS : Chg [] w0 w)
    (hm : m * es ≤ 2 ^ 24) (hp : 0 < m * es) (hx : opndP s ps = some vs) (hf : Instr.fill (fun i => some (i * es, es)) ((Array.range (m * es)).map (ze.cells[· % ze.cells.size]!)) vs = some cs.toArray) (hd : Nat.blt d n = true)
    (k : ∀ b w', New w b (.cells cs.toArray e) w' → Chg [] w0 w' → WH P ops K (Chg [] w0) fuel (listed.setIfInBounds i true) n D ((d, .slice (some ⟨b, 0, none⟩) m m) :: s) w') : WHat P ops K (Chg [] w0) fuel listed n D s w i := by
  obtain ⟨b, w', he, hn⟩ := ev_buildSlice (P := P) (ty := ty) (w := w) (t := t) (hT := hT) (hE := hE) hm hp hx hf
  exact WHat.one i hi he (hS.trans hn.chg) hd (k b w' hn (hS.trans hn.chg))
theorem WH.buildSliceC (i : Nat) {w0 : World} {t e : TypeId} {de : TypeDesc} {sz by_ es be : Nat} {z ze : Value} {ps : List (Nat × Operand)} {vs : List (Nat × Value)} {cs : List Value} {m : Nat} [hT : HasT P t (.slice e) sz by_ z] [hE : HasT P e de es be ze]
    (hi : ops[i]? = some ⟨some d, .buildSlice t m ps.toArray, ty, pos, af, none⟩) (hr : Region.ready .any ops listed = [i]) (hS : Chg [] w0 w)
    (hm : m * es ≤ 2 ^ 24) (hp : 0 < m * es) (hx : opndP s ps = some vs) (hf : Instr.fill (fun i => some (i * es, es)) ((Array.range (m * es)).map (ze.cells[· % ze.cells.size]!)) vs = some cs.toArray) (hd : Nat.blt d n = true)
    (k : ∀ b w', New w b (.cells cs.toArray e) w' → Chg [] w0 w' → WH P ops K (Chg [] w0) fuel (listed.setIfInBounds i true) n D ((d, .slice (some ⟨b, 0, none⟩) m m) :: s) w') : WH P ops K (Chg [] w0) (fuel + 1) listed n D s w := by
  obtain ⟨b, w', he, hn⟩ := ev_buildSlice (P := P) (ty := ty) (w := w) (t := t) (hT := hT) (hE := hE) hm hp hx hf
  exact WH.one i hi hr he (hS.trans hn.chg) hd (k b w' hn (hS.trans hn.chg))
end
end Go.Proofs.YtphnpchmdpjabaaGreatDoor.Sx

/- What the reference of layer 2 computes, in plain numbers. No condition. -/
namespace Go.Proofs.YtphnpchmdpjabaaGreatDoor
open Go Sx Wd

theorem wd_take {l : List Nat} (h : W l) : wd (val l) = l.take (wd (val l)).length := by
  have hle := wd_length_val_le h
  refine eq_of_val (W_wd _) (h.take _) (by rw [List.length_take]; omega) ?_
  rw [val_wd, val_take h _ hle, Nat.mod_eq_of_lt (wd_length_le.1 (Nat.le_refl _))]
theorem take_len {l : List Nat} {k : Nat} (h : k ≤ l.length) : (l.take k).length = k := by rw [List.length_take]; omega
structure PlusI (la lb : List Nat) (i : Nat) (L : List Nat) (c : Nat) : Prop where
  le : i ≤ max la.length lb.length ∨ i = max la.length lb.length + 1 ∧ c = 0
  len : L.length = i
  w : W L
  c1 : c ≤ 1
  v : val L + 2 ^ (32 * i) * c = val (la.take i) + val (lb.take i)
theorem PlusI.zero (la lb : List Nat) : PlusI la lb 0 [] 0 := ⟨.inl (Nat.zero_le _), rfl, W_nil, by omega, by simp [val]⟩
theorem PlusI.step {la lb L : List Nat} {i c : Nat} (h : PlusI la lb i L c) (ha : W la) (hb : W lb) (hi : (i < la.length ∨ i < lb.length) ∨ 0 < c) :
    PlusI la lb (i + 1) (L ++ [(la.getD i 0 + lb.getD i 0 + c) % 4294967296]) ((la.getD i 0 + lb.getD i 0 + c) / 2 ^ 32) := by
  have h1 := ha.getD i
  have h2 := hb.getD i
  have h3 := h.c1
  refine ⟨?_, by simp [h.len], W_append.2 ⟨h.w, W_cons.2 ⟨by omega, W_nil⟩⟩, by omega, ?_⟩
  · rcases h.le with q | ⟨q, q2⟩
    · by_cases e : i = max la.length lb.length
      · right
        rw [getD_out (l := la) (by omega), getD_out (l := lb) (by omega)]
        exact ⟨by omega, by omega⟩
      · left; omega
    · omega
  · rw [val_snoc, h.len, val_take_succ', val_take_succ', two32]
    have := h.v
    generalize la.getD i 0 = a at *
    generalize lb.getD i 0 = b at *
    generalize 2 ^ (32 * i) = p at *
    have e : p * ((a + b + c) % 4294967296) + p * 4294967296 * ((a + b + c) / 2 ^ 32) = p * a + p * b + p * c := by
      rw [show (2 : Nat) ^ 32 = 4294967296 from rfl, Nat.mul_assoc, ← Nat.mul_add, Nat.mod_add_div, Nat.mul_add, Nat.mul_add]
    omega
theorem PlusI.done {la lb L : List Nat} {i c : Nat} (h : PlusI la lb i L c) (hi : ¬ ((i < la.length ∨ i < lb.length) ∨ 0 < c)) : val L = val la + val lb := by
  have := h.v
  rw [List.take_of_length_le (by omega), List.take_of_length_le (by omega), show c = 0 by omega] at this
  simpa using this
theorem PlusI.len_le {la lb L : List Nat} {i c : Nat} (h : PlusI la lb i L c) : i ≤ max la.length lb.length + 1 := by
  rcases h.le with q | ⟨q, _⟩ <;> omega
structure MinusI (la lb : List Nat) (i : Nat) (L : List Nat) (c : Nat) : Prop where
  le : i ≤ la.length
  len : L.length = i
  w : W L
  c1 : c ≤ 1
  v : val L + val (lb.take i) = val (la.take i) + 2 ^ (32 * i) * c
theorem MinusI.zero (la lb : List Nat) : MinusI la lb 0 [] 0 := ⟨Nat.zero_le _, rfl, W_nil, by omega, by simp [val]⟩
theorem MinusI.step {la lb L : List Nat} {i c : Nat} (h : MinusI la lb i L c) (ha : W la) (hb : W lb) (hi : i < la.length) :
    MinusI la lb (i + 1) (L ++ [(la.getD i 0 + 4294967296 - lb.getD i 0 - c) % 4294967296]) (1 - (la.getD i 0 + 4294967296 - lb.getD i 0 - c) / 2 ^ 32) := by
  have h1 := ha.getD i
  have h2 := hb.getD i
  have h3 := h.c1
  refine ⟨hi, by simp [h.len], W_append.2 ⟨h.w, W_cons.2 ⟨by omega, W_nil⟩⟩, by omega, ?_⟩
  rw [val_snoc, h.len, val_take_succ', val_take_succ', two32]
  have := h.v
  generalize la.getD i 0 = a at *
  generalize lb.getD i 0 = b at *
  generalize 2 ^ (32 * i) = p at *
  have e0 : a + 4294967296 * (1 - (a + 4294967296 - b - c) / 2 ^ 32) = (a + 4294967296 - b - c) % 4294967296 + b + c := by omega
  have e : p * a + p * 4294967296 * (1 - (a + 4294967296 - b - c) / 2 ^ 32) = p * ((a + 4294967296 - b - c) % 4294967296) + p * b + p * c := by
    rw [Nat.mul_assoc, ← Nat.mul_add, e0, Nat.mul_add, Nat.mul_add]
  omega
theorem MinusI.done {la lb L : List Nat} {c : Nat} (h : MinusI la lb la.length L c) (ha : W la) (hb : W lb) (hle : val lb ≤ val la) : val L = val la - val lb := by
  have h1 := h.v
  have h2 := val_lt h.w
  have h3 := val_lt ha
  have h4 := h.c1
  rw [h.len] at h2
  rw [List.take_length] at h1
  have e : val (lb.take la.length) = val lb := by
    by_cases q : la.length ≤ lb.length
    · rw [val_take hb _ q, Nat.mod_eq_of_lt (by omega)]
    · rw [List.take_of_length_le (by omega)]
  rw [e] at h1
  generalize 2 ^ (32 * la.length) = p at *
  have : c = 0 ∨ c = 1 := by omega
  rcases this with rfl | rfl <;> omega
/-- Digit by digit, from above. -/
structure PartI (la : List Nat) (b k : Nat) (Q : List Nat) (r : Nat) : Prop where
  le : k ≤ la.length
  len : Q.length = la.length
  w : W Q
  z : ∀ j, j < k → Q.getD j 0 = 0
  rl : r < b
  v : val (la.drop k) = val (Q.drop k) * b + r
theorem PartI.zero (la : List Nat) {b : Nat} (hb : 0 < b) : PartI la b la.length (List.replicate la.length 0) 0 := by
  refine ⟨Nat.le_refl _, by simp, W_replicate _, fun j _ => getD_replicate _ _, hb, ?_⟩
  rw [List.drop_length, List.drop_eq_nil_of_le (by simp)]
  simp [val]
theorem PartI.bound {la Q : List Nat} {b k r : Nat} (h : PartI la b k Q r) (ha : W la) : la.getD (k - 1) 0 + 4294967296 * r < b * 4294967296 := by
  have h1 := ha.getD (k - 1)
  have h2 := h.rl
  have : (r + 1) * 4294967296 ≤ b * 4294967296 := Nat.mul_le_mul_right _ h2
  omega
theorem PartI.step {la Q : List Nat} {b k r : Nat} (h : PartI la b k Q r) (ha : W la) (hk : 0 < k) :
    PartI la b (k - 1) (Q.set (k - 1) ((la.getD (k - 1) 0 + 4294967296 * r) / b)) ((la.getD (k - 1) 0 + 4294967296 * r) - b * ((la.getD (k - 1) 0 + 4294967296 * r) / b)) := by
  have hle := h.le
  have hlen := h.len
  have hbd := h.bound ha
  obtain ⟨i, rfl⟩ : ∃ i, k = i + 1 := ⟨k - 1, by omega⟩
  rw [show i + 1 - 1 = i by omega] at *
  have hb0 : 0 < b := Nat.lt_of_le_of_lt (Nat.zero_le _) h.rl
  have hd := val_drop_succ (l := la) (i := i) (by omega)
  have hv := h.v
  generalize hx : la.getD i 0 + 4294967296 * r = x at *
  have hq : x / b < 4294967296 := (Nat.div_lt_iff_lt_mul hb0).2 (by rw [Nat.mul_comm]; exact hbd)
  have hm := Nat.div_add_mod x b
  have hml := Nat.mod_lt x hb0
  refine ⟨by omega, by simp [h.len], h.w.set _ hq, fun j hj => ?_, by omega, ?_⟩
  · rw [Wd.getD_set_ne (i := i) (j := j) (by omega)]; exact h.z j (by omega)
  · have e := val_drop_succ (l := Q.set i (x / b)) (i := i) (by rw [List.length_set]; omega)
    rw [Wd.getD_set_self (by omega), show (Q.set i (x / b)).drop (i + 1) = Q.drop (i + 1) from List.drop_set_of_lt (by omega)] at e
    rw [hd, e, hv, Nat.add_mul, Nat.mul_add, Nat.mul_assoc]
    have : x / b * b = b * (x / b) := Nat.mul_comm _ _
    omega
theorem PartI.stay {la Q : List Nat} {b k r : Nat} (h : PartI la b k Q r) (ha : W la) (hk : 0 < k) (hlt : la.getD (k - 1) 0 + 4294967296 * r < b) :
    PartI la b (k - 1) Q (la.getD (k - 1) 0 + 4294967296 * r) := by
  have hle := h.le
  have hlen := h.len
  obtain ⟨i, rfl⟩ : ∃ i, k = i + 1 := ⟨k - 1, by omega⟩
  rw [show i + 1 - 1 = i by omega] at *
  have hd := val_drop_succ (l := la) (i := i) (by omega)
  have he := val_drop_succ (l := Q) (i := i) (by omega)
  have hv := h.v
  have hz := h.z i (by omega)
  refine ⟨by omega, h.len, h.w, fun j hj => h.z j (by omega), hlt, ?_⟩
  rw [hd, he, hv, hz, Nat.zero_add, Nat.mul_add, Nat.mul_assoc]
  omega
theorem PartI.done {la Q : List Nat} {b r : Nat} (h : PartI la b 0 Q r) : val Q = val la / b ∧ r = val la % b := by
  have hv := h.v
  have hr := h.rl
  rw [List.drop_zero, List.drop_zero] at hv
  rw [hv, Nat.mul_comm]
  exact ⟨by rw [Nat.mul_add_div (by omega), Nat.div_eq_of_lt hr, Nat.add_zero], by rw [Nat.mul_add_mod, Nat.mod_eq_of_lt hr]⟩
theorem tz_bits {n : Nat} (h : n ≠ 0) : n.testBit (tz n) = true ∧ ∀ j, j < tz n → n.testBit j = false := by
  obtain ⟨h1, h2⟩ := tz_spec h
  refine ⟨by rw [Nat.testBit_eq_decide_div_mod_eq]; exact decide_eq_true h1, fun j hj => ?_⟩
  rw [Nat.testBit_eq_decide_div_mod_eq]
  refine decide_eq_false ?_
  have e : n / 2 ^ j = n / 2 ^ tz n * 2 ^ (tz n - j - 1) * 2 := by
    conv => lhs; rw [h2]
    rw [show (2 : Nat) ^ tz n = 2 ^ (tz n - j - 1) * 2 * 2 ^ j by rw [← Nat.pow_succ, ← Nat.pow_add]; congr 1; omega, ← Nat.mul_assoc, Nat.mul_div_cancel _ (Nat.two_pow_pos j), Nat.mul_assoc, Nat.mul_assoc]
  rw [e, Nat.mul_mod_left]
  decide
theorem bl_half {x : Nat} (h : x ≠ 0) : bl x = bl (x / 2) + 1 := by
  by_cases h1 : x = 1
  · subst h1; decide
  · have := bl_shift (x := x) (k := 1) (by omega)
    rw [this]; simp [Nat.add_comm]
theorem val_zeros (k : Nat) (l : List Nat) : val (List.replicate k 0 ++ l) = val l * 2 ^ (32 * k) := by
  rw [val_append, val_replicate, List.length_replicate, Nat.zero_add, Nat.mul_comm]
/-- v's memory is newer than w0. -/
def Fh (w0 : World) (v : Value) : Prop := ∀ ad m c, v = .slice (some ad) m c → w0.heap.size ≤ ad.block
/-- v lies in no word of block b. -/
def Av (b : Nat) (v : Value) : Prop := ∀ ad m c, v = .slice (some ad) m c → ad.block ≠ b
theorem Fh.mono {w0 w1 : World} {v : Value} (h : Fh w1 v) (hs : w0.heap.size ≤ w1.heap.size) : Fh w0 v := fun ad m c e => Nat.le_trans hs (h ad m c e)
theorem Fh.av {w0 : World} {v : Value} {b : Nat} (h : Fh w0 v) (hb : b < w0.heap.size) : Av b v := fun ad m c e => by
  have := h ad m c e
  omega
theorem Fh.nil {w0 : World} {m c : Nat} : Fh w0 (.slice none m c) := fun ad m c e => by cases e
theorem Av.nil {b m c : Nat} : Av b (.slice none m c) := fun ad m c e => by cases e
theorem GR.fh {w w0 : World} {e : TypeId} {f : Nat → Value} {X : List Nat} {v : Value} {l : List Nat} {lo : Nat} (h : GR w e f lo X v l) (hlo : w0.heap.size ≤ lo) : Fh w0 v := fun ad m c e => by
  subst e
  have := (h.2 ad.block rfl).1
  omega
theorem NU.keepOB {w w' : World} {v : Value} {l : List Nat} {b : Nat} {E : TypeId} {lb : List Nat} (h : NU w v l) (hb : OB w b E lb) (hc : Chg [b] w w') (hn : Av b v) : NU w' v l := by
  obtain ⟨⟨a, c, rfl, h2, h3⟩, h4, h5⟩ := h
  exact ⟨⟨a, c, rfl, h2, h3.keepB hc fun ad e => by subst e; have := hn ad _ _ rfl; simpa using this⟩, h4, h5⟩
theorem sgn_le {a b : Nat} : sgn a b ≤ 0 ↔ a ≤ b := by unfold sgn; split <;> (try split) <;> omega
theorem sgn_ge {a b : Nat} : 0 ≤ sgn a b ↔ b ≤ a := by unfold sgn; split <;> (try split) <;> omega
theorem sgn_zero {a b : Nat} : sgn a b = 0 ↔ a = b := by unfold sgn; split <;> (try split) <;> omega
theorem len_up {x v k : Nat} (h : x < v * 4294967296) (hv : v < 2 ^ (32 * k)) : (wd x).length ≤ k + 1 :=
  wd_length_le.2 (Nat.lt_of_lt_of_le h (by rw [two32]; exact Nat.mul_le_mul_right _ (Nat.le_of_lt hv)))
theorem wd_one (m : Nat) (h : m < 4294967296) : val [m] = m := by simp [val]
end Go.Proofs.YtphnpchmdpjabaaGreatDoor

/- Reference of layer 2: size, Norm, Of, at, Bit, Len, Low. No condition. -/
namespace Go.Proofs.YtphnpchmdpjabaaGreatDoor
open Go Sx Wd

structure K0s (l : List Nat) (w : World) (k : Nat) (wr : World) : Prop where
  le : k ≤ l.length
  vl : val (l.take k) = val l
  eq : w = wr

theorem r2size_spec (v : Value) (l : List Nat) (w : World) (h : NU w v l) : Ret Tryz.prog 163 [v] w fun u w' => u = .int .i64 ((wd (val l)).length : Int) ∧ w = w' := by
 obtain ⟨⟨al, cl, rfl, hcapl, hrl⟩, hWl, hll⟩ := h
 have hch : Chg [] w w := Chg.refl _ _
 refine Ret.enter Tryz.func163 rfl rfl ?_
 simp only [args0, Nat.zero_add, Nat.reduceAdd]
 refine Sq fun _ kh1 _ kr2 => ?_
 refine As rfl rfl ?_
 refine WL.nil (kr2 _ _ _ (kh1 _ _ _ ?_))
 refine Sq fun _ kh3 _ kr4 => ?_
 refine Mv rfl rfl ?_
 refine WL.ev (Ev.len rfl) rfl ?_
 refine As rfl rfl ?_
 refine WL.nil (kr4 _ _ _ (kh3 _ _ _ ?_))
 refine CW.seq fun _ kh5 => ?_
 refine CW.block ?_
 refine CW.loop (S := fun k : Nat => [(0, .slice al l.length cl), (3, .int .i64 (k : Int))]) (Inv := K0s l w) (mu := fun k => k) (l.length) ?_ ?_ ?_
 ·
  exact ⟨Nat.le_refl _, by rw [List.take_length], rfl⟩
 ·
  repeat (first | exact Subs.nil | refine Subs.cons rfl ?_ | refine Subs.consI rfl (by omega) ?_)
 ·
  rintro k _ ⟨hkl, hvl, rfl⟩
  refine CW.seq fun _ kh6 => ?_
  refine CW.seqM 15 (decide (0 < k ∧ l.getD (k - 1) 0 = 0)) ?_ ?_
  ·
   refine CW.region fun kR7 kr7 => ?_
   refine Mv rfl rfl ?_
   refine WL.ev (Ev.gtr rfl rfl) rfl ?_
   refine Mv rfl rfl ?_
   refine WL.boolCase (fun hg1 => ?_) (fun hg1 => ?_)
   ·
    try simp only [qs] at hg1
    refine WL.want rfl rfl rfl rfl ?_
    refine Mv rfl rfl ?_
    refine WL.want rfl rfl rfl rfl ?_
    refine Mv rfl rfl ?_
    refine WL.want rfl rfl rfl rfl ?_
    first | refine WL.ev (Ev.subIn rfl rfl (by omega)) rfl ?_ | refine WL.ev (Ev.sub rfl rfl) rfl ?_
    refine WL.want rfl rfl rfl rfl ?_
    refine WL.ev (Ev.ixR ((k - 1)) rfl rfl (hrl.keep0 hch) (by omega) (by omega) (by simp; omega)) rfl ?_
    refine WL.want rfl rfl rfl rfl ?_
    refine WL.ev (Ev.load rfl rfl ((hrl.keep0 hch).u32 (by first | omega | (simp; omega)))) rfl ?_
    have hw13 := hWl.getD ((k - 1))
    refine WL.want rfl rfl rfl rfl ?_
    refine WL.ev (Ev.eql rfl rfl) rfl ?_
    refine WL.ev (Ev.pickT rfl rfl rfl) rfl ?_
    refine WL.nil (kr7 _ _ _ ?_)
    refine ⟨rfl, rfl, Subs.consB rfl ?_ ?_⟩
    ·
     first | (simp; omega) | (refine decide_eq_decide.2 ?_; omega)
    ·
     first | ((repeat (first | exact Subs.refl | refine Subs.drop1 (by rfl) ?_)); done) | ((repeat (first | exact Subs.nil | refine Subs.cons rfl ?_)); done)
   ·
    try simp only [qs] at hg1
    refine WL.pass rfl rfl rfl rfl rfl ?_
    refine WL.pass rfl rfl rfl rfl rfl ?_
    refine WL.pass rfl rfl rfl rfl rfl ?_
    refine WL.pass rfl rfl rfl rfl rfl ?_
    refine WL.pass rfl rfl rfl rfl rfl ?_
    refine WL.pass rfl rfl rfl rfl rfl ?_
    refine WL.ev (Ev.pickF rfl rfl rfl) rfl ?_
    refine WL.nil (kr7 _ _ _ ?_)
    refine ⟨rfl, rfl, Subs.consB rfl ?_ ?_⟩
    ·
     first | (simp; omega) | (refine decide_eq_decide.2 ?_; omega)
    ·
     first | ((repeat (first | exact Subs.refl | refine Subs.drop1 (by rfl) ?_)); done) | ((repeat (first | exact Subs.nil | refine Subs.cons rfl ?_)); done)
  ·
   refine CW.cond rfl (fun hc2 => ?_) (fun hc2 => ?_)
   ·
    try simp only [qs] at hc2
    refine CW.skip ?_
    refine kh6 _ _ _ ?_
    refine CW.block ?_
    refine CW.region fun kR8 kr8 => ?_
    refine Mv rfl rfl ?_
    first | refine WL.ev (Ev.subIn rfl rfl (by omega)) rfl ?_ | refine WL.ev (Ev.sub rfl rfl) rfl ?_
    refine As rfl rfl ?_
    refine WL.nil (kr8 _ _ _ ?_)
    refine ⟨rfl, k - 1, ?_, ?_, ?_⟩
    ·
     repeat (first | exact Subs.nil | refine Subs.cons rfl ?_ | refine Subs.consI rfl (by omega) ?_)
    ·
     exact ⟨by omega, by rw [take_pred hkl (by omega) (by omega)]; exact hvl, rfl⟩
    ·
     omega
   ·
    try simp only [qs] at hc2
    refine CW.exit ?_
    refine kh5 _ _ _ ?_
    refine Sq fun _ kh9 _ kr10 => ?_
    refine Mv rfl rfl ?_
    refine As rfl rfl ?_
    refine WL.nil (kr10 _ _ _ (kh9 _ _ _ ?_))
    refine CW.ret ?_
    refine bodyA.ret1 rfl rfl ?_
    rw [cut_wd hWl hkl hvl (by omega), take_len hkl]
    exact ⟨rfl, rfl⟩

set_option maxRecDepth 8000 in
theorem r2Norm_spec (v : Value) (l : List Nat) (w : World) (h : NU w v l) (hlm : (wd (val l)).length ≤ 35184372088832) : Ret Tryz.prog 124 [v] w fun u w' => NU w' u (wd (val l)) ∧ Chg [] w w' ∧ Fh w u := by
 have hv0 := h
 obtain ⟨⟨al, cl, rfl, hcapl, hrl⟩, hWl, hll⟩ := h
 have hch : Chg [] w w := Chg.refl _ _
 obtain ⟨k, hk⟩ : ∃ k, k = (wd (val l)).length := ⟨_, rfl⟩
 have hkle : k ≤ l.length := by rw [hk]; exact wd_length_val_le hWl
 have hwt : wd (val l) = l.take k := by rw [hk]; exact wd_take hWl
 rw [← hk] at hlm
 have hkl := take_len hkle
 refine Ret.enter Tryz.func124 rfl rfl ?_
 simp only [args0, Nat.zero_add, Nat.reduceAdd]
 refine Sq fun _ kh1 _ kr2 => ?_
 refine As rfl rfl ?_
 refine WL.nil (kr2 _ _ _ (kh1 _ _ _ ?_))
 refine Sq fun _ kh3 _ kr4 => ?_
 refine As rfl rfl ?_
 refine WL.nil (kr4 _ _ _ (kh3 _ _ _ ?_))
 refine Sq fun _ kh5 _ kr6 => ?_
 refine Mv rfl rfl ?_
 refine Mv rfl rfl ?_
 refine Mv rfl rfl ?_
 refine WL.call hasF163 rfl rfl (r2size_spec _ _ _ hv0) fun v w1 h' => ?_
 obtain ⟨rfl, rfl⟩ := h'
 rw [← hk]
 refine WL.ev (Ev.sliceHn (k) rfl rfl rfl (by omega)) rfl ?_
 have hr8 : RW w al ((l.take k).map u32v) := by rw [List.map_take]; exact hrl.take k
 refine WL.growR (f := u32v) (lo := w.heap.size) (X := []) (l := []) (news := (l.take k)) (by rfl) (fun i => rfl) rfl rfl GR.nil (by first | rfl | (simp; done) | (simp; omega) | omega) (hr8.keep0 hch) (by first | omega | exact hch.size | exact Nat.le_refl _) (by simp) (by simp only [List.length_append, List.length_cons, List.length_nil]; omega) (by simp only [List.length_append, List.length_cons, List.length_nil]; omega) rfl fun v9 w9 hg9 hcg9 => ?_
 have hch := hch.trans (Chg.any (by simpa [Value.ownBlock] using hcg9))
 have hg_vo := hg9
 rw [show ([] ++ (l.take k)) = (l.take k) from by rfl] at hg_vo
 refine As rfl rfl ?_
 refine WL.nil (kr6 _ _ _ (kh5 _ _ _ ?_))
 refine CW.ret ?_
 refine bodyA.ret1 rfl rfl ?_
 rw [hwt]
 exact ⟨hg_vo.nu (hWl.take k) (by omega), hch, hg_vo.fh (Nat.le_refl _)⟩

theorem r2Of_spec (n : Nat) (w : World) (hn : n < 18446744073709551616) : Ret Tryz.prog 84 [.int .u64 (n : Int)] w fun u w' => NU w' u (wd n) ∧ Chg [] w w' ∧ Fh w u := by
 have hch : Chg [] w w := Chg.refl _ _
 refine Ret.enter Tryz.func84 rfl rfl ?_
 simp only [args0, Nat.zero_add, Nat.reduceAdd]
 refine Sq fun _ kh1 _ kr2 => ?_
 refine As rfl rfl ?_
 refine WL.nil (kr2 _ _ _ (kh1 _ _ _ ?_))
 refine CW.seq fun _ kh3 => ?_
 have hv8 : val [n % 4294967296, n / 2 ^ 32 % 4294967296] = n := by simp only [val]; omega
 have hW8 : W [n % 4294967296, n / 2 ^ 32 % 4294967296] := W_cons.2 ⟨by omega, W_cons.2 ⟨by omega, W_nil⟩⟩
 have hl8 := wd_length_val_le hW8
 simp only [List.length_cons, List.length_nil] at hl8
 refine CW.region fun kR4 kr4 => ?_
 refine Mv rfl rfl ?_
 refine WL.ev (Ev.conv32 rfl rfl) rfl ?_
 refine Mv rfl rfl ?_
 refine WL.ev (Ev.shrU (b := 32) rfl rfl (by simp only [IntKind.bits]; omega)) rfl ?_
 refine WL.ev (Ev.conv32 rfl rfl) rfl ?_
 refine WL.buildSlice (m := 2) (cs := [u32v ((n % 4294967296)), u32v (((n / 2 ^ 32) % 4294967296))]) (by decide) (by decide) rfl (by kernel_rfl) rfl fun b8 w8 hn8 => ?_
 have hcm8 := hn8.chg
 have hge8 := hn8.ge
 have hb8 : OB w8 b8 _ [(n % 4294967296), ((n / 2 ^ 32) % 4294967296)] := hn8.at_
 have hgehch8 := Nat.le_trans hch.size hge8
 have hch := hch.trans (Chg.any hcm8)
 refine WL.call hasF124 rfl rfl (r2Norm_spec _ _ _ (NU.of_block hb8 hW8 (by simp) rfl (by omega)) (by omega)) fun v w1 h' => ?_
 obtain ⟨hN, hC, hF⟩ := h'
 rw [hv8] at hN
 have hF := hF.mono hch.size
 have hch := hch.trans (Chg.any hC)
 have hb8 := hb8.keep0 hC
 refine As rfl rfl ?_
 refine WL.nil (kr4 _ _ _ (kh3 _ _ _ ?_))
 refine CW.ret ?_
 refine bodyA.ret1 rfl rfl ?_
 exact ⟨hN, hch, hF⟩

theorem r2at_spec (v : Value) (l : List Nat) (w : World) (h : NU w v l) (i : Nat) (hi : i < 9223372036854775808) : Ret Tryz.prog 197 [v, .int .i64 (i : Int)] w fun u w' => u = .int .u64 ((l.getD i 0 : Nat) : Int) ∧ w = w' := by
 obtain ⟨⟨al, cl, rfl, hcapl, hrl⟩, hWl, hll⟩ := h
 have hch : Chg [] w w := Chg.refl _ _
 refine Ret.enter Tryz.func197 rfl rfl ?_
 simp only [args0, Nat.zero_add, Nat.reduceAdd]
 refine Sq fun _ kh1 _ kr2 => ?_
 refine As rfl rfl ?_
 refine WL.nil (kr2 _ _ _ (kh1 _ _ _ ?_))
 refine CW.seq fun _ kh3 => ?_
 refine Sq fun _ kh4 _ kr5 => ?_
 refine Mv rfl rfl ?_
 refine Mv rfl rfl ?_
 refine WL.ev (Ev.len rfl) rfl ?_
 refine WL.ev (Ev.geq rfl rfl) rfl ?_
 refine WL.nil (kr5 _ _ _ (kh4 _ _ _ ?_))
 refine CW.cond rfl (fun hc1 => ?_) (fun hc1 => ?_)
 ·
  try simp only [qs] at hc1
  refine Sq fun _ kh6 _ kr7 => ?_
  refine As rfl rfl ?_
  refine WL.nil (kr7 _ _ _ (kh6 _ _ _ ?_))
  refine CW.ret ?_
  refine bodyA.ret1 rfl rfl ?_
  rw [getD_out (by omega)]
  exact ⟨rfl, rfl⟩
 ·
  try simp only [qs] at hc1
  have hwi := hWl.getD i
  refine CW.skip ?_
  refine kh3 _ _ _ ?_
  refine Sq fun _ kh8 _ kr9 => ?_
  refine Mv rfl rfl ?_
  refine Mv rfl rfl ?_
  refine WL.ev (Ev.ixR (i) rfl rfl (hrl.keep0 hch) (by omega) (by omega) (by simp; omega)) rfl ?_
  refine WL.ev (Ev.load rfl rfl ((hrl.keep0 hch).u32 (by first | omega | (simp; omega)))) rfl ?_
  have hw12 := hWl.getD (i)
  refine WL.ev (Ev.convIn rfl rfl (in_u64 (by omega))) rfl ?_
  refine As rfl rfl ?_
  refine WL.nil (kr9 _ _ _ (kh8 _ _ _ ?_))
  refine CW.ret ?_
  refine bodyA.ret1 rfl rfl ?_
  exact ⟨rfl, rfl⟩

theorem r2Bit_spec (v : Value) (l : List Nat) (w : World) (h : NU w v l) (n : Nat) (hi : n < 9223372036854775808) : Ret Tryz.prog 164 [v, .int .i64 (n : Int)] w fun u w' => u = .bool ((val l).testBit n) ∧ w = w' := by
 obtain ⟨⟨al, cl, rfl, hcapl, hrl⟩, hWl, hll⟩ := h
 have hch : Chg [] w w := Chg.refl _ _
 have htb := testBit_words hWl n
 refine Ret.enter Tryz.func164 rfl rfl ?_
 simp only [args0, Nat.zero_add, Nat.reduceAdd]
 refine Sq fun _ kh1 _ kr2 => ?_
 refine As rfl rfl ?_
 refine WL.nil (kr2 _ _ _ (kh1 _ _ _ ?_))
 refine CW.seq fun _ kh3 => ?_
 refine CW.seqM 13 (decide (l.length ≤ n / 32)) ?_ ?_
 ·
  refine CW.region fun kR4 kr4 => ?_
  refine Mv rfl rfl ?_
  refine WL.ev (Ev.lss rfl rfl) rfl ?_
  refine Mv rfl rfl ?_
  refine WL.boolCase (fun hg1 => ?_) (fun hg1 => ?_)
  ·
   try simp only [qs] at hg1
   refine WL.pass rfl rfl rfl rfl rfl ?_
   refine WL.pass rfl rfl rfl rfl rfl ?_
   refine WL.pass rfl rfl rfl rfl rfl ?_
   refine WL.pass rfl rfl rfl rfl rfl ?_
   refine WL.pass rfl rfl rfl rfl rfl ?_
   refine WL.ev (Ev.pickT rfl rfl rfl) rfl ?_
   refine WL.nil (kr4 _ _ _ ?_)
   refine ⟨rfl, rfl, Subs.consB rfl ?_ ?_⟩
   ·
    first | (exfalso; omega) | (simp; omega) | (refine decide_eq_decide.2 ?_; omega)
   ·
    first | ((repeat (first | exact Subs.refl | refine Subs.drop1 (by rfl) ?_)); done) | ((repeat (first | exact Subs.nil | refine Subs.cons rfl ?_)); done)
  ·
   try simp only [qs] at hg1
   refine WL.want rfl rfl rfl rfl ?_
   refine Mv rfl rfl ?_
   refine WL.want rfl rfl rfl rfl ?_
   refine WL.ev (Ev.quoIn (b := 32) rfl rfl (by omega) (by simp only [IntKind.max, IntKind.signed, IntKind.bits]; omega) (by omega)) rfl ?_
   rw [show (n : Int) / 32 = ((n / 32 : Nat) : Int) by omega]
   refine WL.want rfl rfl rfl rfl ?_
   refine Mv rfl rfl ?_
   refine WL.want rfl rfl rfl rfl ?_
   refine WL.ev (Ev.len rfl) rfl ?_
   refine WL.want rfl rfl rfl rfl ?_
   refine WL.ev (Ev.geq rfl rfl) rfl ?_
   refine WL.ev (Ev.pickF rfl rfl rfl) rfl ?_
   refine WL.nil (kr4 _ _ _ ?_)
   refine ⟨rfl, rfl, Subs.consB rfl ?_ ?_⟩
   ·
    first | (exfalso; omega) | (simp; omega) | (refine decide_eq_decide.2 ?_; omega)
   ·
    first | ((repeat (first | exact Subs.refl | refine Subs.drop1 (by rfl) ?_)); done) | ((repeat (first | exact Subs.nil | refine Subs.cons rfl ?_)); done)
 ·
  refine CW.cond rfl (fun hc2 => ?_) (fun hc2 => ?_)
  ·
   try simp only [qs] at hc2
   refine Sq fun _ kh5 _ kr6 => ?_
   refine As rfl rfl ?_
   refine WL.nil (kr6 _ _ _ (kh5 _ _ _ ?_))
   refine CW.ret ?_
   refine bodyA.ret1 rfl rfl ?_
   refine ⟨?_, rfl⟩
   rw [htb, getD_out (by omega)]
   simp
  ·
   try simp only [qs] at hc2
   refine CW.skip ?_
   refine kh3 _ _ _ ?_
   refine Sq fun _ kh7 _ kr8 => ?_
   refine Mv rfl rfl ?_
   refine Mv rfl rfl ?_
   refine WL.ev (Ev.quoIn (b := 32) rfl rfl (by omega) (by simp only [IntKind.max, IntKind.signed, IntKind.bits]; omega) (by omega)) rfl ?_
   rw [show (n : Int) / 32 = ((n / 32 : Nat) : Int) by omega]
   refine WL.ev (Ev.ixR ((n / 32)) rfl rfl (hrl.keep0 hch) (by omega) (by omega) (by simp; omega)) rfl ?_
   refine WL.ev (Ev.load rfl rfl ((hrl.keep0 hch).u32 (by first | omega | (simp; omega)))) rfl ?_
   have hw18 := hWl.getD ((n / 32))
   refine Mv rfl rfl ?_
   refine WL.ev (Ev.remIn (b := 32) rfl rfl (by omega) (by omega)) rfl ?_
   rw [show (n : Int) % 32 = ((n % 32 : Nat) : Int) by omega]
   refine WL.ev (Ev.shrU rfl rfl (by simp only [IntKind.bits]; omega)) rfl ?_
   have hq2 : l.getD (n / 32) 0 / 2 ^ (n % 32) ≤ l.getD (n / 32) 0 := Nat.div_le_self _ _
   refine WL.ev (Ev.andU (b := 1) rfl rfl rfl (by simp only [IntKind.bits]; omega) (by simp only [IntKind.bits]; omega)) rfl ?_
   rw [Nat.and_one_is_mod]
   refine WL.ev (Ev.eql rfl rfl) rfl ?_
   refine As rfl rfl ?_
   refine WL.nil (kr8 _ _ _ (kh7 _ _ _ ?_))
   refine CW.ret ?_
   refine bodyA.ret1 rfl rfl ?_
   refine ⟨?_, rfl⟩
   rw [htb]
   congr 1
   refine decide_eq_decide.2 ?_
   omega

structure KLns (x0 B : Nat) (w : World) (g : Nat × Nat) (wr : World) : Prop where
  le : g.1 ≤ x0
  eq : g.2 + bl g.1 = B
  w_ : w = wr

set_option maxRecDepth 8000 in
theorem r2Len_spec (v : Value) (l : List Nat) (w : World) (h : NU w v l) (hlm : l.length ≤ 35184372088832) : Ret Tryz.prog 182 [v] w fun u w' => u = .int .i64 (bl (val l) : Int) ∧ w = w' := by
 have hv0 := h
 obtain ⟨⟨al, cl, rfl, hcapl, hrl⟩, hWl, hll⟩ := h
 have hch : Chg [] w w := Chg.refl _ _
 obtain ⟨k, hk⟩ : ∃ k, k = (wd (val l)).length := ⟨_, rfl⟩
 have hkle : k ≤ l.length := by rw [hk]; exact wd_length_val_le hWl
 have hwt : wd (val l) = l.take k := by rw [hk]; exact wd_take hWl
 have hvw := val_wd (val l)
 have hnz := wd_length_pos (n := val l)
 have hkl := take_len hkle
 refine Ret.enter Tryz.func182 rfl rfl ?_
 simp only [args0, Nat.zero_add, Nat.reduceAdd]
 refine Sq fun _ kh1 _ kr2 => ?_
 refine As rfl rfl ?_
 refine WL.nil (kr2 _ _ _ (kh1 _ _ _ ?_))
 refine Sq fun _ kh3 _ kr4 => ?_
 refine Mv rfl rfl ?_
 refine WL.call hasF163 rfl rfl (r2size_spec _ _ _ hv0) fun v w1 h' => ?_
 obtain ⟨rfl, rfl⟩ := h'
 rw [← hk]
 refine As rfl rfl ?_
 refine WL.nil (kr4 _ _ _ (kh3 _ _ _ ?_))
 refine CW.seq fun _ kh5 => ?_
 refine Sq fun _ kh6 _ kr7 => ?_
 refine Mv rfl rfl ?_
 refine WL.ev (Ev.eql rfl rfl) rfl ?_
 refine WL.nil (kr7 _ _ _ (kh6 _ _ _ ?_))
 refine CW.cond rfl (fun hc1 => ?_) (fun hc1 => ?_)
 ·
  try simp only [qs] at hc1
  refine Sq fun _ kh8 _ kr9 => ?_
  refine As rfl rfl ?_
  refine WL.nil (kr9 _ _ _ (kh8 _ _ _ ?_))
  refine CW.ret ?_
  refine bodyA.ret1 rfl rfl ?_
  have hv0 : val l = 0 := by omega
  rw [hv0]
  exact ⟨rfl, rfl⟩
 ·
  try simp only [qs] at hc1
  have hlast := wd_last (show val l ≠ 0 by omega)
  rw [← hk, hwt] at hlast
  have hgt : (l.take k).getD (k - 1) 0 = l.getD (k - 1) 0 := by rw [List.getD_eq_getElem?_getD, List.getD_eq_getElem?_getD, List.getElem?_take, if_pos (by omega)]
  have hbl := bl_val (hWl.take k) (fun e => by rw [e] at hkl; simp at hkl; omega) (by rw [hkl]; exact hlast)
  rw [hkl, hgt, ← hwt, hvw] at hbl
  have hb32 := bl_le.2 (show l.getD (k - 1) 0 < 2 ^ 32 from hWl.getD _)
  refine CW.skip ?_
  refine kh5 _ _ _ ?_
  refine Sq fun _ kh10 _ kr11 => ?_
  refine Mv rfl rfl ?_
  first | refine WL.ev (Ev.subIn rfl rfl (by omega)) rfl ?_ | refine WL.ev (Ev.sub rfl rfl) rfl ?_
  refine WL.ev (Ev.mulIn rfl rfl (by omega)) rfl ?_
  refine As rfl rfl ?_
  refine WL.nil (kr11 _ _ _ (kh10 _ _ _ ?_))
  refine CW.seq fun _ kh12 => ?_
  refine Sq fun _ kh13 _ kr14 => ?_
  refine Mv rfl rfl ?_
  refine Mv rfl rfl ?_
  first | refine WL.ev (Ev.subIn rfl rfl (by omega)) rfl ?_ | refine WL.ev (Ev.sub rfl rfl) rfl ?_
  refine WL.ev (Ev.ixR ((k - 1)) rfl rfl (hrl.keep0 hch) (by omega) (by omega) (by simp; omega)) rfl ?_
  refine WL.ev (Ev.load rfl rfl ((hrl.keep0 hch).u32 (by first | omega | (simp; omega)))) rfl ?_
  have hw17 := hWl.getD ((k - 1))
  refine As rfl rfl ?_
  refine WL.nil (kr14 _ _ _ (kh13 _ _ _ ?_))
  refine CW.block ?_
  refine CW.loop (S := fun g : Nat × Nat => [(4, .int .i64 (g.2 : Int)), (5, .int .u32 (g.1 : Int))]) (Inv := KLns (l.getD (k - 1) 0) (bl (val l)) w) (mu := fun g => g.1) ((l.getD (k - 1) 0, 32 * (k - 1))) ?_ ?_ ?_
  ·
   exact ⟨Nat.le_refl _, by dsimp only; omega, rfl⟩
  ·
   repeat (first | exact Subs.nil | refine Subs.cons rfl ?_ | refine Subs.consI rfl (by omega) ?_)
  ·
   rintro ⟨x, q⟩ _ ⟨hx, hq, rfl⟩
   dsimp only at hx hq
   dsimp only
   have hwx := hWl.getD (k - 1)
   refine CW.seq fun _ kh15 => ?_
   refine Sq fun _ kh16 _ kr17 => ?_
   refine Mv rfl rfl ?_
   refine WL.ev (Ev.gtr rfl rfl) rfl ?_
   refine WL.nil (kr17 _ _ _ (kh16 _ _ _ ?_))
   refine CW.cond rfl (fun hc2 => ?_) (fun hc2 => ?_)
   ·
    try simp only [qs] at hc2
    refine CW.skip ?_
    refine kh15 _ _ _ ?_
    refine CW.seq fun _ kh18 => ?_
    refine CW.block ?_
    refine CW.region fun kR19 kr19 => ?_
    refine Mv rfl rfl ?_
    first | refine WL.ev (Ev.addIn rfl rfl (by omega)) rfl ?_ | refine WL.ev (Ev.add rfl rfl) rfl ?_
    refine As rfl rfl ?_
    refine WL.nil (kr19 _ _ _ (kh18 _ _ _ ?_))
    refine CW.region fun kR20 kr20 => ?_
    refine Mv rfl rfl ?_
    refine WL.ev (Ev.quoU (b := 2) rfl rfl (by omega) (in_u32 (by omega)).2) rfl ?_
    refine As rfl rfl ?_
    refine WL.nil (kr20 _ _ _ ?_)
    refine ⟨rfl, (x / 2, q + 1), ?_, ?_, ?_⟩
    ·
     repeat (first | exact Subs.nil | refine Subs.cons rfl ?_ | refine Subs.consI rfl (by omega) ?_)
    ·
     exact ⟨by dsimp only; omega, by dsimp only; have := bl_half (x := x) (by omega); omega, rfl⟩
    ·
     show x / 2 < x; omega
   ·
    try simp only [qs] at hc2
    refine CW.exit ?_
    refine kh12 _ _ _ ?_
    refine Sq fun _ kh21 _ kr22 => ?_
    refine Mv rfl rfl ?_
    refine As rfl rfl ?_
    refine WL.nil (kr22 _ _ _ (kh21 _ _ _ ?_))
    refine CW.ret ?_
    refine bodyA.ret1 rfl rfl ?_
    have hx0 : x = 0 := by omega
    rw [hx0, bl_zero] at hq
    exact ⟨by first | rfl | (congr 1; omega), rfl⟩

structure KLws (n : Nat) (w : World) (i : Nat) (wr : World) : Prop where
  le : i ≤ tz n
  w_ : w = wr

set_option maxRecDepth 8000 in
theorem r2Low_spec (v : Value) (l : List Nat) (w : World) (h : NU w v l) (hlm : l.length ≤ 35184372088832) : Ret Tryz.prog 125 [v] w fun u w' => u = .int .i64 (tz (val l) : Int) ∧ w = w' := by
  have hv0 := h
  obtain ⟨⟨al, cl, rfl, hcapl, hrl⟩, hWl, hll⟩ := h
  have hch : Chg [] w w := Chg.refl _ _
  obtain ⟨k, hk⟩ : ∃ k, k = (wd (val l)).length := ⟨_, rfl⟩
  have hkle : k ≤ l.length := by rw [hk]; exact wd_length_val_le hWl
  have hnz := wd_length_pos (n := val l)
  refine Ret.enter Tryz.func125 rfl rfl ?_
  simp only [args0, Nat.zero_add, Nat.reduceAdd]
  refine Sq fun _ kh1 _ kr2 => ?_
  refine As rfl rfl ?_
  refine WL.nil (kr2 _ _ _ (kh1 _ _ _ ?_))
  refine CW.seq fun _ kh3 => ?_
  refine Sq fun _ kh4 _ kr5 => ?_
  refine Mv rfl rfl ?_
  refine WL.call hasF163 rfl rfl (r2size_spec _ _ _ hv0) fun v w1 h' => ?_
  obtain ⟨rfl, rfl⟩ := h'
  rw [← hk]
  refine WL.ev (Ev.eql rfl rfl) rfl ?_
  refine WL.nil (kr5 _ _ _ (kh4 _ _ _ ?_))
  refine CW.cond rfl (fun hc1 => ?_) (fun hc1 => ?_)
  ·
    try simp only [qs] at hc1
    refine Sq fun _ kh6 _ kr7 => ?_
    refine As rfl rfl ?_
    refine WL.nil (kr7 _ _ _ (kh6 _ _ _ ?_))
    refine CW.ret ?_
    refine bodyA.ret1 rfl rfl ?_
    have hv0 : val l = 0 := by omega
    rw [hv0, tz_zero]
    exact ⟨rfl, rfl⟩
  ·
    try simp only [qs] at hc1
    have hn0 : val l ≠ 0 := by omega
    obtain ⟨htb, htf⟩ := tz_bits hn0
    have htl : tz (val l) < 32 * l.length := Nat.lt_of_lt_of_le (tz_lt_bl hn0) (bl_le.2 (val_lt hWl))
    refine CW.skip ?_
    refine kh3 _ _ _ ?_
    refine Sq fun _ kh8 _ kr9 => ?_
    refine As rfl rfl ?_
    refine WL.nil (kr9 _ _ _ (kh8 _ _ _ ?_))
    refine CW.seq fun _ kh10 => ?_
    refine CW.block ?_
    refine CW.loop (S := fun i : Nat => [(0, .slice al l.length cl), (3, .int .i64 (i : Int))]) (Inv := KLws (val l) w) (mu := fun i => tz (val l) - i) (0) ?_ ?_ ?_
    ·
      exact ⟨Nat.zero_le _, rfl⟩
    ·
      repeat (first | exact Subs.nil | refine Subs.cons rfl ?_ | refine Subs.consI rfl (by omega) ?_)
    ·
      rintro i _ ⟨hi, rfl⟩
      refine CW.seq fun _ kh11 => ?_
      refine Sq fun _ kh12 _ kr13 => ?_
      refine Mv rfl rfl ?_
      refine Mv rfl rfl ?_
      refine WL.call hasF164 rfl rfl (r2Bit_spec _ _ _ hv0 i (by omega)) fun v w2 h' => ?_
      obtain ⟨rfl, rfl⟩ := h'
      refine WL.ev (Ev.not rfl) rfl ?_
      refine WL.nil (kr13 _ _ _ (kh12 _ _ _ ?_))
      refine CW.cond rfl (fun hc2 => ?_) (fun hc2 => ?_)
      ·
        try simp only [qs] at hc2
        have hine : i + 1 ≤ tz (val l) := by
          rcases Nat.lt_or_ge i (tz (val l)) with q | q
          · exact q
          · have e : i = tz (val l) := by omega
            rw [e, htb] at hc2
            simp at hc2
        refine CW.skip ?_
        refine kh11 _ _ _ ?_
        refine CW.block ?_
        refine CW.region fun kR14 kr14 => ?_
        refine Mv rfl rfl ?_
        first | refine WL.ev (Ev.addIn rfl rfl (by omega)) rfl ?_ | refine WL.ev (Ev.add rfl rfl) rfl ?_
        refine As rfl rfl ?_
        refine WL.nil (kr14 _ _ _ ?_)
        refine ⟨rfl, i + 1, ?_, ?_, ?_⟩
        ·
          repeat (first | exact Subs.nil | refine Subs.cons rfl ?_ | refine Subs.consI rfl (by omega) ?_)
        ·
          exact ⟨hine, rfl⟩
        ·
          show tz (val l) - (i + 1) < tz (val l) - i; omega
      ·
        try simp only [qs] at hc2
        have hcc := hc2
        refine CW.exit ?_
        refine kh10 _ _ _ ?_
        refine Sq fun _ kh15 _ kr16 => ?_
        refine Mv rfl rfl ?_
        refine As rfl rfl ?_
        refine WL.nil (kr16 _ _ _ (kh15 _ _ _ ?_))
        refine CW.ret ?_
        refine bodyA.ret1 rfl rfl ?_
        refine ⟨?_, rfl⟩
        have e : i = tz (val l) := by
          rcases Nat.lt_or_ge i (tz (val l)) with q | q
          · have := htf i q
            rw [this] at hcc
            simp at hcc
          · omega
        rw [e]

end Go.Proofs.YtphnpchmdpjabaaGreatDoor

/- Reference of layer 2: Cmp, Plus, Minus, Times. No condition. -/
namespace Go.Proofs.YtphnpchmdpjabaaGreatDoor
open Go Sx Wd

structure KCs (A B : List Nat) (w : World) (k : Nat) (wr : World) : Prop where
  le : k ≤ A.length
  eq : A.drop k = B.drop k
  chg : Chg [] w wr

set_option maxRecDepth 8000 in
theorem r2Cmp_spec (va vb : Value) (la lb : List Nat) (w : World) (ha : NU w va la) (hb : NU w vb lb) : Ret Tryz.prog 180 [va, vb] w fun u w' => u = .int .i64 (sgn (val la) (val lb)) ∧ Chg [] w w' := by
 have ha0 := ha
 have hb0 := hb
 obtain ⟨⟨ala, cla, rfl, hcapla, hrla⟩, hWla, hlla⟩ := ha
 obtain ⟨⟨alb, clb, rfl, hcaplb, hrlb⟩, hWlb, hllb⟩ := hb
 have hch : Chg [] w w := Chg.refl _ _
 obtain ⟨A, hA⟩ : ∃ A, A = wd (val la) := ⟨_, rfl⟩
 have hvA : val A = val la := by rw [hA]; exact val_wd _
 have hleA : A.length ≤ la.length := by rw [hA]; exact wd_length_val_le hWla
 have hWA : W A := by rw [hA]; exact W_wd _
 have hrA : RW w ala (A.map u32v) := by
  have := wd_take hWla
  rw [← hA] at this
  rw [this, List.map_take]; exact hrla.take _
 obtain ⟨B, hB⟩ : ∃ B, B = wd (val lb) := ⟨_, rfl⟩
 have hvB : val B = val lb := by rw [hB]; exact val_wd _
 have hleB : B.length ≤ lb.length := by rw [hB]; exact wd_length_val_le hWlb
 have hWB : W B := by rw [hB]; exact W_wd _
 have hrB : RW w alb (B.map u32v) := by
  have := wd_take hWlb
  rw [← hB] at this
  rw [this, List.map_take]; exact hrlb.take _
 have hs := sgn_len (a := val la) (b := val lb)
 rw [← hA, ← hB] at hs
 refine Ret.enter Tryz.func180 rfl rfl ?_
 simp only [args0, Nat.zero_add, Nat.reduceAdd]
 refine Sq fun _ kh1 _ kr2 => ?_
 refine As rfl rfl ?_
 refine WL.nil (kr2 _ _ _ (kh1 _ _ _ ?_))
 refine Sq fun _ kh3 _ kr4 => ?_
 refine Mv rfl rfl ?_
 refine WL.call hasF163 rfl rfl (r2size_spec _ _ _ ha0) fun v w1 h' => ?_
 obtain ⟨rfl, rfl⟩ := h'
 rw [← hA]
 refine As rfl rfl ?_
 refine WL.nil (kr4 _ _ _ (kh3 _ _ _ ?_))
 refine Sq fun _ kh5 _ kr6 => ?_
 refine Mv rfl rfl ?_
 refine WL.call hasF163 rfl rfl (r2size_spec _ _ _ hb0) fun v w2 h' => ?_
 obtain ⟨rfl, rfl⟩ := h'
 rw [← hB]
 refine As rfl rfl ?_
 refine WL.nil (kr6 _ _ _ (kh5 _ _ _ ?_))
 refine CW.seq fun _ kh7 => ?_
 refine Sq fun _ kh8 _ kr9 => ?_
 refine Mv rfl rfl ?_
 refine Mv rfl rfl ?_
 refine WL.ev (Ev.neq rfl rfl) rfl ?_
 refine WL.nil (kr9 _ _ _ (kh8 _ _ _ ?_))
 refine CW.cond rfl (fun hc1 => ?_) (fun hc1 => ?_)
 ·
  try simp only [qs] at hc1
  refine CW.seq fun _ kh10 => ?_
  refine Sq fun _ kh11 _ kr12 => ?_
  refine Mv rfl rfl ?_
  refine Mv rfl rfl ?_
  refine WL.ev (Ev.lss rfl rfl) rfl ?_
  refine WL.nil (kr12 _ _ _ (kh11 _ _ _ ?_))
  refine CW.cond rfl (fun hc2 => ?_) (fun hc2 => ?_)
  ·
   try simp only [qs] at hc2
   refine Sq fun _ kh13 _ kr14 => ?_
   refine As rfl rfl ?_
   refine WL.nil (kr14 _ _ _ (kh13 _ _ _ ?_))
   refine CW.ret ?_
   refine bodyA.ret1 rfl rfl ?_
   rw [hs.1 (by omega)]
   exact ⟨rfl, hch⟩
  ·
   try simp only [qs] at hc2
   refine CW.skip ?_
   refine kh10 _ _ _ ?_
   refine Sq fun _ kh15 _ kr16 => ?_
   refine As rfl rfl ?_
   refine WL.nil (kr16 _ _ _ (kh15 _ _ _ ?_))
   refine CW.ret ?_
   refine bodyA.ret1 rfl rfl ?_
   rw [hs.2 (by omega)]
   exact ⟨rfl, hch⟩
 ·
  try simp only [qs] at hc1
  have hAB : A.length = B.length := by omega
  refine CW.skip ?_
  refine kh7 _ _ _ ?_
  refine CW.seq fun _ kh17 => ?_
  refine Sq fun _ kh18 _ kr19 => ?_
  refine Mv rfl rfl ?_
  first | refine WL.ev (Ev.subIn rfl rfl (by omega)) rfl ?_ | refine WL.ev (Ev.sub rfl rfl) rfl ?_
  refine As rfl rfl ?_
  refine WL.nil (kr19 _ _ _ (kh18 _ _ _ ?_))
  refine CW.block ?_
  refine CW.loop (S := fun k : Nat => [(0, .slice ala la.length cla), (1, .slice alb lb.length clb), (5, .int .i64 ((k : Int) - 1))]) (Inv := KCs A B w) (mu := fun k => k) (A.length) ?_ ?_ ?_
  ·
   exact ⟨Nat.le_refl _, by rw [List.drop_length, hAB, List.drop_length], hch⟩
  ·
   repeat (first | exact Subs.nil | refine Subs.cons rfl ?_ | refine Subs.consI rfl (by omega) ?_)
  ·
   rintro k wr ⟨hkl, hkd, hch⟩
   refine CW.seq fun _ kh20 => ?_
   refine Sq fun _ kh21 _ kr22 => ?_
   refine Mv rfl rfl ?_
   refine WL.ev (Ev.geq rfl rfl) rfl ?_
   refine WL.nil (kr22 _ _ _ (kh21 _ _ _ ?_))
   refine CW.cond rfl (fun hc3 => ?_) (fun hc3 => ?_)
   ·
    try simp only [qs] at hc3
    have hk1 : k - 1 + 1 = k := by omega
    have hsd := sgn_drop hWA hWB hAB (k := k - 1) (by omega) (by rw [hk1]; exact hkd)
    rw [hvA, hvB] at hsd
    refine CW.skip ?_
    refine kh20 _ _ _ ?_
    refine CW.seq fun _ kh23 => ?_
    refine CW.block ?_
    refine CW.seq fun _ kh24 => ?_
    refine CW.seq fun _ kh25 => ?_
    refine CW.regionSC hmix (by kernel_rfl) fun kR26 kr26 hdr => ?_
    have hch := hch.trans (Chg.any hdr)
    refine WS.ev (Ev.move rfl) rfl ?_
    refine WS.ev (Ev.move rfl) rfl ?_
    refine WS.ev (Ev.ixR ((k - 1)) rfl rfl (hrA.keep0 hch) (by omega) (by omega) (by simp; omega)) rfl ?_
    refine WS.ev (Ev.load rfl rfl ((hrA.keep0 hch).u32 (by first | omega | (simp; omega)))) rfl ?_
    have hw26 := hWA.getD ((k - 1))
    refine WS.ev (Ev.move rfl) rfl ?_
    refine WS.ev (Ev.move rfl) rfl ?_
    refine WS.ev (Ev.ixR ((k - 1)) rfl rfl (hrB.keep0 hch) (by omega) (by omega) (by simp; omega)) rfl ?_
    refine WS.ev (Ev.load rfl rfl ((hrB.keep0 hch).u32 (by first | omega | (simp; omega)))) rfl ?_
    have hw30 := hWB.getD ((k - 1))
    refine WS.ev (Ev.lss rfl rfl) rfl ?_
    refine WS.nil (kr26 _ _ ?_)
    refine kh25 _ _ _ ?_
    refine CW.cond rfl (fun hc4 => ?_) (fun hc4 => ?_)
    ·
     try simp only [qs] at hc4
     refine Sq fun _ kh27 _ kr28 => ?_
     refine As rfl rfl ?_
     refine WL.nil (kr28 _ _ _ (kh27 _ _ _ ?_))
     refine CW.ret ?_
     refine bodyA.ret1 rfl rfl ?_
     rw [hsd.1 (by omega)]
     exact ⟨rfl, hch⟩
    ·
     try simp only [qs] at hc4
     refine CW.skip ?_
     refine kh24 _ _ _ ?_
     refine CW.seq fun _ kh29 => ?_
     refine CW.regionSC hmix (by kernel_rfl) fun kR30 kr30 hdr => ?_
     have hch := hch.trans (Chg.any hdr)
     refine WS.ev (Ev.move rfl) rfl ?_
     refine WS.ev (Ev.move rfl) rfl ?_
     refine WS.ev (Ev.ixR ((k - 1)) rfl rfl (hrA.keep0 hch) (by omega) (by omega) (by simp; omega)) rfl ?_
     refine WS.ev (Ev.load rfl rfl ((hrA.keep0 hch).u32 (by first | omega | (simp; omega)))) rfl ?_
     have hw35 := hWA.getD ((k - 1))
     refine WS.ev (Ev.move rfl) rfl ?_
     refine WS.ev (Ev.move rfl) rfl ?_
     refine WS.ev (Ev.ixR ((k - 1)) rfl rfl (hrB.keep0 hch) (by omega) (by omega) (by simp; omega)) rfl ?_
     refine WS.ev (Ev.load rfl rfl ((hrB.keep0 hch).u32 (by first | omega | (simp; omega)))) rfl ?_
     have hw39 := hWB.getD ((k - 1))
     refine WS.ev (Ev.gtr rfl rfl) rfl ?_
     refine WS.nil (kr30 _ _ ?_)
     refine kh29 _ _ _ ?_
     refine CW.cond rfl (fun hc5 => ?_) (fun hc5 => ?_)
     ·
      try simp only [qs] at hc5
      refine Sq fun _ kh31 _ kr32 => ?_
      refine As rfl rfl ?_
      refine WL.nil (kr32 _ _ _ (kh31 _ _ _ ?_))
      refine CW.ret ?_
      refine bodyA.ret1 rfl rfl ?_
      rw [hsd.2.1 (by omega)]
      exact ⟨rfl, hch⟩
     ·
      try simp only [qs] at hc5
      refine CW.skip ?_
      refine kh23 _ _ _ ?_
      refine CW.region fun kR33 kr33 => ?_
      refine Mv rfl rfl ?_
      first | refine WL.ev (Ev.subIn rfl rfl (by omega)) rfl ?_ | refine WL.ev (Ev.sub rfl rfl) rfl ?_
      refine As rfl rfl ?_
      refine WL.nil (kr33 _ _ _ ?_)
      refine ⟨rfl, k - 1, ?_, ?_, ?_⟩
      ·
       repeat (first | exact Subs.nil | refine Subs.cons rfl ?_ | refine Subs.consI rfl (by omega) ?_)
      ·
       exact ⟨by omega, hsd.2.2 (by omega), hch⟩
      ·
       omega
   ·
    try simp only [qs] at hc3
    refine CW.exit ?_
    refine kh17 _ _ _ ?_
    refine Sq fun _ kh34 _ kr35 => ?_
    refine As rfl rfl ?_
    refine WL.nil (kr35 _ _ _ (kh34 _ _ _ ?_))
    refine CW.ret ?_
    refine bodyA.ret1 rfl rfl ?_
    have hk0 : k = 0 := by omega
    subst hk0
    rw [List.drop_zero, List.drop_zero] at hkd
    rw [← hvA, ← hvB, hkd, sgn_self]
    exact ⟨rfl, hch⟩

structure KPls (X Y : List Nat) (w : World) (g : Nat × List Nat × Nat × Value) (wr : World) : Prop where
  a : PlusI X Y g.1 g.2.1 g.2.2.1
  gr : GR wr 116 u32v w.heap.size [] g.2.2.2 g.2.1
  ch : Chg [] w wr
structure KMis (X Y : List Nat) (w : World) (g : Nat × List Nat × Nat × Value) (wr : World) : Prop where
  a : MinusI X Y g.1 g.2.1 g.2.2.1
  gr : GR wr 116 u32v w.heap.size [] g.2.2.2 g.2.1
  ch : Chg [] w wr

set_option maxRecDepth 8000 in
theorem r2Plus_spec (va vb : Value) (la lb : List Nat) (w : World) (ha : NU w va la) (hb : NU w vb lb) (hla : la.length ≤ 1099511627776) (hlb : lb.length ≤ 1099511627776) : Ret Tryz.prog 179 [va, vb] w fun u w' => NU w' u (wd (val la + val lb)) ∧ Chg [] w w' ∧ Fh w u := by
 have ha0 := ha
 have hb0 := hb
 obtain ⟨⟨ala, cla, rfl, hcapla, hrla⟩, hWla, hlla⟩ := ha
 obtain ⟨⟨alb, clb, rfl, hcaplb, hrlb⟩, hWlb, hllb⟩ := hb
 have hch : Chg [] w w := Chg.refl _ _
 refine Ret.enter Tryz.func179 rfl rfl ?_
 simp only [args0, Nat.zero_add, Nat.reduceAdd]
 refine Sq fun _ kh1 _ kr2 => ?_
 refine As rfl rfl ?_
 refine WL.nil (kr2 _ _ _ (kh1 _ _ _ ?_))
 refine Sq fun _ kh3 _ kr4 => ?_
 refine As rfl rfl ?_
 refine WL.nil (kr4 _ _ _ (kh3 _ _ _ ?_))
 refine Sq fun _ kh5 _ kr6 => ?_
 refine As rfl rfl ?_
 refine WL.nil (kr6 _ _ _ (kh5 _ _ _ ?_))
 refine CW.seq fun _ kh7 => ?_
 refine Sq fun _ kh8 _ kr9 => ?_
 refine As rfl rfl ?_
 refine WL.nil (kr9 _ _ _ (kh8 _ _ _ ?_))
 refine CW.block ?_
 refine CW.loop (S := fun g : Nat × List Nat × Nat × Value => [(0, .slice ala la.length cla), (1, .slice alb lb.length clb), (5, g.2.2.2), (6, .int .u64 (g.2.2.1 : Int)), (7, .int .i64 (g.1 : Int))]) (Inv := KPls la lb w) (mu := fun g => max la.length lb.length + 1 - g.1) ((0, [], 0, .slice none 0 0)) ?_ ?_ ?_
 ·
  exact ⟨PlusI.zero _ _, GR.nil, hch⟩
 ·
  repeat (first | exact Subs.nil | refine Subs.cons rfl ?_ | refine Subs.consI rfl (by omega) ?_)
 ·
  rintro ⟨i, L, c, vo⟩ wr ⟨hI, hgr, hch⟩
  dsimp only at hI hgr hch
  dsimp only
  have hil := hI.len_le
  have hLl := hI.len
  have hc1 := hI.c1
  have hxa := hWla.getD i
  have hxb := hWlb.getD i
  refine CW.seq fun _ kh10 => ?_
  refine CW.seqM 22 (decide ((i < la.length ∨ i < lb.length) ∨ 0 < c)) ?_ ?_
  ·
   refine CW.region fun kR11 kr11 => ?_
   refine Mv rfl rfl ?_
   refine Mv rfl rfl ?_
   refine WL.ev (Ev.len rfl) rfl ?_
   refine WL.ev (Ev.lss rfl rfl) rfl ?_
   refine Mv rfl rfl ?_
   refine WL.boolCase (fun hg1 => ?_) (fun hg1 => ?_)
   ·
    try simp only [qs] at hg1
    refine WL.pass rfl rfl rfl rfl rfl ?_
    refine WL.pass rfl rfl rfl rfl rfl ?_
    refine WL.pass rfl rfl rfl rfl rfl ?_
    refine WL.pass rfl rfl rfl rfl rfl ?_
    refine WL.ev (Ev.pickT rfl rfl rfl) rfl ?_
    refine Mv rfl rfl ?_
    refine WL.pass rfl rfl rfl rfl rfl ?_
    refine WL.pass rfl rfl rfl rfl rfl ?_
    refine WL.ev (Ev.pickT rfl rfl rfl) rfl ?_
    refine WL.nil (kr11 _ _ _ ?_)
    refine ⟨rfl, rfl, Subs.consB rfl ?_ ?_⟩
    ·
     first | (simp; omega) | (simp_all; done) | (refine decide_eq_decide.2 ?_; omega)
    ·
     first | ((repeat (first | exact Subs.refl | refine Subs.drop1 (by rfl) ?_)); done) | ((repeat (first | exact Subs.nil | refine Subs.cons rfl ?_)); done)
   ·
    try simp only [qs] at hg1
    refine WL.want rfl rfl rfl rfl ?_
    refine Mv rfl rfl ?_
    refine WL.want rfl rfl rfl rfl ?_
    refine Mv rfl rfl ?_
    refine WL.want rfl rfl rfl rfl ?_
    refine WL.ev (Ev.len rfl) rfl ?_
    refine WL.want rfl rfl rfl rfl ?_
    refine WL.ev (Ev.lss rfl rfl) rfl ?_
    refine WL.ev (Ev.pickF rfl rfl rfl) rfl ?_
    refine Mv rfl rfl ?_
    refine WL.boolCase (fun hg2 => ?_) (fun hg2 => ?_)
    ·
     try simp only [qs] at hg2
     refine WL.pass rfl rfl rfl rfl rfl ?_
     refine WL.pass rfl rfl rfl rfl rfl ?_
     refine WL.ev (Ev.pickT rfl rfl rfl) rfl ?_
     refine WL.nil (kr11 _ _ _ ?_)
     refine ⟨rfl, rfl, Subs.consB rfl ?_ ?_⟩
     ·
      first | (simp; omega) | (simp_all; done) | (refine decide_eq_decide.2 ?_; omega)
     ·
      first | ((repeat (first | exact Subs.refl | refine Subs.drop1 (by rfl) ?_)); done) | ((repeat (first | exact Subs.nil | refine Subs.cons rfl ?_)); done)
    ·
     try simp only [qs] at hg2
     refine WL.want rfl rfl rfl rfl ?_
     refine Mv rfl rfl ?_
     refine WL.want rfl rfl rfl rfl ?_
     refine WL.ev (Ev.gtr rfl rfl) rfl ?_
     refine WL.ev (Ev.pickF rfl rfl rfl) rfl ?_
     refine WL.nil (kr11 _ _ _ ?_)
     refine ⟨rfl, rfl, Subs.consB rfl ?_ ?_⟩
     ·
      first | (simp; omega) | (simp_all; done) | (refine decide_eq_decide.2 ?_; omega)
     ·
      first | ((repeat (first | exact Subs.refl | refine Subs.drop1 (by rfl) ?_)); done) | ((repeat (first | exact Subs.nil | refine Subs.cons rfl ?_)); done)
  ·
   refine CW.cond rfl (fun hc3 => ?_) (fun hc3 => ?_)
   ·
    try simp only [qs] at hc3
    have hcc := hc3
    refine CW.skip ?_
    refine kh10 _ _ _ ?_
    refine CW.seq fun _ kh12 => ?_
    refine CW.block ?_
    refine Sq fun _ kh13 _ kr14 => ?_
    refine Mv rfl rfl ?_
    refine Mv rfl rfl ?_
    refine WL.call hasF197 rfl rfl (r2at_spec _ _ _ (ha0.keep0 hch) i (by omega)) fun v w1 h' => ?_
    obtain ⟨rfl, rfl⟩ := h'
    refine Mv rfl rfl ?_
    refine Mv rfl rfl ?_
    refine WL.call hasF197 rfl rfl (r2at_spec _ _ _ (hb0.keep0 hch) i (by omega)) fun v w2 h' => ?_
    obtain ⟨rfl, rfl⟩ := h'
    first | refine WL.ev (Ev.add64In rfl rfl (by omega)) rfl ?_ | refine WL.ev (Ev.add64 rfl rfl) rfl ?_
    refine Mv rfl rfl ?_
    first | refine WL.ev (Ev.add64In rfl rfl (by omega)) rfl ?_ | refine WL.ev (Ev.add64 rfl rfl) rfl ?_
    refine As rfl rfl ?_
    refine WL.nil (kr14 _ _ _ (kh13 _ _ _ ?_))
    refine Sq fun _ kh15 _ kr16 => ?_
    refine Mv rfl rfl ?_
    refine Mv rfl rfl ?_
    refine WL.ev (Ev.conv32 rfl rfl) rfl ?_
    refine WL.buildSlice (m := 1) (cs := [u32v (((((la.getD i 0) + (lb.getD i 0)) + c) % 4294967296))]) (by decide) (by decide) rfl (by kernel_rfl) rfl fun b37 w37 hn37 => ?_
    have hcm37 := hn37.chg
    have hge37 := hn37.ge
    have hb37 : OB w37 b37 _ [((((la.getD i 0) + (lb.getD i 0)) + c) % 4294967296)] := hn37.at_
    have hgehch37 := Nat.le_trans hch.size hge37
    have hch := hch.trans (Chg.any hcm37)
    have hgr := hgr.keep0 hcm37
    refine WL.growR (f := u32v) (lo := w.heap.size) (X := []) (l := L) (news := [((((la.getD i 0) + (lb.getD i 0)) + c) % 4294967296)]) (by rfl) (fun i => rfl) rfl rfl hgr (by first | rfl | (simp; done) | (simp; omega) | omega) hb37.row (by first | omega | exact hch.size | exact Nat.le_refl _) (by simp) (by simp only [List.length_append, List.length_cons, List.length_nil]; omega) (by simp only [List.length_append, List.length_cons, List.length_nil]; omega) rfl fun v38 w38 hg38 hcg38 => ?_
    have hch := GR.frame hgr hcg38 hch (by first | omega | exact Nat.le_refl _)
    have hgr := hg38
    refine As rfl rfl ?_
    refine WL.nil (kr16 _ _ _ (kh15 _ _ _ ?_))
    refine CW.region fun kR17 kr17 => ?_
    refine Mv rfl rfl ?_
    refine WL.ev (Ev.shrU (b := 32) rfl rfl (by simp only [IntKind.bits]; omega)) rfl ?_
    refine As rfl rfl ?_
    refine WL.nil (kr17 _ _ _ (kh12 _ _ _ ?_))
    refine CW.region fun kR18 kr18 => ?_
    refine Mv rfl rfl ?_
    first | refine WL.ev (Ev.addIn rfl rfl (by omega)) rfl ?_ | refine WL.ev (Ev.add rfl rfl) rfl ?_
    refine As rfl rfl ?_
    refine WL.nil (kr18 _ _ _ ?_)
    refine ⟨rfl, (i + 1, L ++ [(la.getD i 0 + lb.getD i 0 + c) % 4294967296], (la.getD i 0 + lb.getD i 0 + c) / 2 ^ 32, v38), ?_, ?_, ?_⟩
    ·
     repeat (first | exact Subs.nil | refine Subs.cons rfl ?_ | refine Subs.consI rfl (by omega) ?_)
    ·
     exact ⟨hI.step hWla hWlb hcc, hgr, hch⟩
    ·
     show max la.length lb.length + 1 - (i + 1) < max la.length lb.length + 1 - i; have := (hI.step hWla hWlb hcc).len_le; omega
   ·
    try simp only [qs] at hc3
    have hcc := hc3
    have hdn := hI.done (by omega)
    refine CW.exit ?_
    refine kh7 _ _ _ ?_
    refine Sq fun _ kh19 _ kr20 => ?_
    refine Mv rfl rfl ?_
    refine WL.call hasF124 rfl rfl (r2Norm_spec _ _ _ (hgr.nu hI.w (by omega)) (by have := wd_length_val_le hI.w; omega)) fun v w3 h' => ?_
    obtain ⟨hN, hC, hF⟩ := h'
    rw [hdn] at hN
    have hF := hF.mono hch.size
    have hch := hch.trans (Chg.any hC)
    have hgr := hgr.keep0 hC
    refine As rfl rfl ?_
    refine WL.nil (kr20 _ _ _ (kh19 _ _ _ ?_))
    refine CW.ret ?_
    refine bodyA.ret1 rfl rfl ?_
    exact ⟨hN, hch, hF⟩

set_option maxRecDepth 8000 in
theorem r2Minus_spec (va vb : Value) (la lb : List Nat) (w : World) (ha : NU w va la) (hb : NU w vb lb) (hla : la.length ≤ 1099511627776) (hle : val lb ≤ val la) : Ret Tryz.prog 181 [va, vb] w fun u w' => NU w' u (wd (val la - val lb)) ∧ Chg [] w w' ∧ Fh w u := by
 have ha0 := ha
 have hb0 := hb
 obtain ⟨⟨ala, cla, rfl, hcapla, hrla⟩, hWla, hlla⟩ := ha
 obtain ⟨⟨alb, clb, rfl, hcaplb, hrlb⟩, hWlb, hllb⟩ := hb
 have hch : Chg [] w w := Chg.refl _ _
 refine Ret.enter Tryz.func181 rfl rfl ?_
 simp only [args0, Nat.zero_add, Nat.reduceAdd]
 refine Sq fun _ kh1 _ kr2 => ?_
 refine As rfl rfl ?_
 refine WL.nil (kr2 _ _ _ (kh1 _ _ _ ?_))
 refine Sq fun _ kh3 _ kr4 => ?_
 refine As rfl rfl ?_
 refine WL.nil (kr4 _ _ _ (kh3 _ _ _ ?_))
 refine Sq fun _ kh5 _ kr6 => ?_
 refine As rfl rfl ?_
 refine WL.nil (kr6 _ _ _ (kh5 _ _ _ ?_))
 refine CW.seq fun _ kh7 => ?_
 refine Sq fun _ kh8 _ kr9 => ?_
 refine As rfl rfl ?_
 refine WL.nil (kr9 _ _ _ (kh8 _ _ _ ?_))
 refine CW.block ?_
 refine CW.loop (S := fun g : Nat × List Nat × Nat × Value => [(0, .slice ala la.length cla), (1, .slice alb lb.length clb), (5, g.2.2.2), (6, .int .u64 (g.2.2.1 : Int)), (7, .int .i64 (g.1 : Int))]) (Inv := KMis la lb w) (mu := fun g => la.length - g.1) ((0, [], 0, .slice none 0 0)) ?_ ?_ ?_
 ·
  exact ⟨MinusI.zero _ _, GR.nil, hch⟩
 ·
  repeat (first | exact Subs.nil | refine Subs.cons rfl ?_ | refine Subs.consI rfl (by omega) ?_)
 ·
  rintro ⟨i, L, c, vo⟩ wr ⟨hI, hgr, hch⟩
  dsimp only at hI hgr hch
  dsimp only
  have hil := hI.le
  have hLl := hI.len
  have hc1 := hI.c1
  have hxa := hWla.getD i
  have hxb := hWlb.getD i
  refine CW.seq fun _ kh10 => ?_
  refine Sq fun _ kh11 _ kr12 => ?_
  refine Mv rfl rfl ?_
  refine Mv rfl rfl ?_
  refine WL.ev (Ev.len rfl) rfl ?_
  refine WL.ev (Ev.lss rfl rfl) rfl ?_
  refine WL.nil (kr12 _ _ _ (kh11 _ _ _ ?_))
  refine CW.cond rfl (fun hc1 => ?_) (fun hc1 => ?_)
  ·
   try simp only [qs] at hc1
   refine CW.skip ?_
   refine kh10 _ _ _ ?_
   refine CW.seq fun _ kh13 => ?_
   refine CW.block ?_
   refine Sq fun _ kh14 _ kr15 => ?_
   refine Mv rfl rfl ?_
   refine Mv rfl rfl ?_
   refine WL.call hasF197 rfl rfl (r2at_spec _ _ _ (ha0.keep0 hch) i (by omega)) fun v w1 h' => ?_
   obtain ⟨rfl, rfl⟩ := h'
   first | refine WL.ev (Ev.add64In (b := 4294967296) rfl rfl (by omega)) rfl ?_ | refine WL.ev (Ev.add64 (b := 4294967296) rfl rfl) rfl ?_
   refine Mv rfl rfl ?_
   refine Mv rfl rfl ?_
   refine WL.call hasF197 rfl rfl (r2at_spec _ _ _ (hb0.keep0 hch) i (by omega)) fun v w2 h' => ?_
   obtain ⟨rfl, rfl⟩ := h'
   first | refine WL.ev (Ev.sub64In rfl rfl (by omega) (by omega)) rfl ?_ | refine WL.ev (Ev.sub64 rfl rfl (by omega)) rfl ?_
   refine Mv rfl rfl ?_
   first | refine WL.ev (Ev.sub64In rfl rfl (by omega) (by omega)) rfl ?_ | refine WL.ev (Ev.sub64 rfl rfl (by omega)) rfl ?_
   refine As rfl rfl ?_
   refine WL.nil (kr15 _ _ _ (kh14 _ _ _ ?_))
   refine Sq fun _ kh16 _ kr17 => ?_
   refine Mv rfl rfl ?_
   refine Mv rfl rfl ?_
   refine WL.ev (Ev.conv32 rfl rfl) rfl ?_
   refine WL.buildSlice (m := 1) (cs := [u32v ((((((la.getD i 0) + 4294967296) - (lb.getD i 0)) - c) % 4294967296))]) (by decide) (by decide) rfl (by kernel_rfl) rfl fun b28 w28 hn28 => ?_
   have hcm28 := hn28.chg
   have hge28 := hn28.ge
   have hb28 : OB w28 b28 _ [(((((la.getD i 0) + 4294967296) - (lb.getD i 0)) - c) % 4294967296)] := hn28.at_
   have hgehch28 := Nat.le_trans hch.size hge28
   have hch := hch.trans (Chg.any hcm28)
   have hgr := hgr.keep0 hcm28
   refine WL.growR (f := u32v) (lo := w.heap.size) (X := []) (l := L) (news := [(((((la.getD i 0) + 4294967296) - (lb.getD i 0)) - c) % 4294967296)]) (by rfl) (fun i => rfl) rfl rfl hgr (by first | rfl | (simp; done) | (simp; omega) | omega) hb28.row (by first | omega | exact hch.size | exact Nat.le_refl _) (by simp) (by simp only [List.length_append, List.length_cons, List.length_nil]; omega) (by simp only [List.length_append, List.length_cons, List.length_nil]; omega) rfl fun v29 w29 hg29 hcg29 => ?_
   have hch := GR.frame hgr hcg29 hch (by first | omega | exact Nat.le_refl _)
   have hgr := hg29
   refine As rfl rfl ?_
   refine WL.nil (kr17 _ _ _ (kh16 _ _ _ ?_))
   refine CW.region fun kR18 kr18 => ?_
   refine Mv rfl rfl ?_
   refine WL.ev (Ev.shrU (b := 32) rfl rfl (by simp only [IntKind.bits]; omega)) rfl ?_
   first | refine WL.ev (Ev.sub64In (a := 1) rfl rfl (by omega) (by omega)) rfl ?_ | refine WL.ev (Ev.sub64 (a := 1) rfl rfl (by omega)) rfl ?_
   refine As rfl rfl ?_
   refine WL.nil (kr18 _ _ _ (kh13 _ _ _ ?_))
   refine CW.region fun kR19 kr19 => ?_
   refine Mv rfl rfl ?_
   first | refine WL.ev (Ev.addIn rfl rfl (by omega)) rfl ?_ | refine WL.ev (Ev.add rfl rfl) rfl ?_
   refine As rfl rfl ?_
   refine WL.nil (kr19 _ _ _ ?_)
   refine ⟨rfl, (i + 1, L ++ [(la.getD i 0 + 4294967296 - lb.getD i 0 - c) % 4294967296], 1 - (la.getD i 0 + 4294967296 - lb.getD i 0 - c) / 2 ^ 32, v29), ?_, ?_, ?_⟩
   ·
    repeat (first | exact Subs.nil | refine Subs.cons rfl ?_ | refine Subs.consI rfl (by omega) ?_)
   ·
    exact ⟨hI.step hWla hWlb (by omega), hgr, hch⟩
   ·
    show la.length - (i + 1) < la.length - i; omega
  ·
   try simp only [qs] at hc1
   have hiX : i = la.length := by omega
   subst hiX
   have hdn := hI.done hWla hWlb hle
   refine CW.exit ?_
   refine kh7 _ _ _ ?_
   refine Sq fun _ kh20 _ kr21 => ?_
   refine Mv rfl rfl ?_
   refine WL.call hasF124 rfl rfl (r2Norm_spec _ _ _ (hgr.nu hI.w (by omega)) (by have := wd_length_val_le hI.w; omega)) fun v w3 h' => ?_
   obtain ⟨hN, hC, hF⟩ := h'
   rw [hdn] at hN
   have hF := hF.mono hch.size
   have hch := hch.trans (Chg.any hC)
   have hgr := hgr.keep0 hC
   refine As rfl rfl ?_
   refine WL.nil (kr21 _ _ _ (kh20 _ _ _ ?_))
   refine CW.ret ?_
   refine bodyA.ret1 rfl rfl ?_
   exact ⟨hN, hch, hF⟩

structure KMs (la lb : List Nat) (w : World) (b : Nat) (g : Nat × List Nat) (wr : World) : Prop where
  a : MulI la lb g.1 g.2
  ob : OB wr b 116 g.2
  chg : Chg [] w wr
structure KNs (x : Nat) (lb : List Nat) (i : Nat) (L0 : List Nat) (w : World) (b : Nat) (g : Nat × List Nat × Nat) (wr : World) : Prop where
  a : MulJ x lb i L0 g.1 g.2.1 g.2.2
  ob : OB wr b 116 g.2.1
  chg : Chg [] w wr

set_option maxRecDepth 8000 in
theorem r2Times_spec (va vb : Value) (la lb : List Nat) (w : World) (ha : NU w va la) (hb : NU w vb lb) (hlm : la.length + lb.length ≤ 35184372088832) : Ret Tryz.prog 166 [va, vb] w fun u w' => NU w' u (wd (val la * val lb)) ∧ Chg [] w w' ∧ Fh w u := by
 obtain ⟨⟨ala, cla, rfl, hcapla, hrla⟩, hWla, hlla⟩ := ha
 obtain ⟨⟨alb, clb, rfl, hcaplb, hrlb⟩, hWlb, hllb⟩ := hb
 have hch : Chg [] w w := Chg.refl _ _
 refine Ret.enter Tryz.func166 rfl rfl ?_
 simp only [args0, Nat.zero_add, Nat.reduceAdd]
 refine Sq fun _ kh1 _ kr2 => ?_
 refine As rfl rfl ?_
 refine WL.nil (kr2 _ _ _ (kh1 _ _ _ ?_))
 refine Sq fun _ kh3 _ kr4 => ?_
 refine Mv rfl rfl ?_
 refine WL.ev (Ev.len rfl) rfl ?_
 refine Mv rfl rfl ?_
 refine WL.ev (Ev.len rfl) rfl ?_
 first | refine WL.ev (Ev.addIn rfl rfl (by omega)) rfl ?_ | refine WL.ev (Ev.add rfl rfl) rfl ?_
 refine WL.makeU (((la).length + (lb).length)) (((la).length + (lb).length)) rfl rfl (by omega) (by omega) (by omega) (by omega) (by omega) rfl fun b15 wm15 hb15 hcm15 hge15 => ?_
 have hgehch15 := Nat.le_trans hch.size hge15
 have hch := hch.trans (Chg.any hcm15)
 refine As rfl rfl ?_
 refine WL.nil (kr4 _ _ _ (kh3 _ _ _ ?_))
 refine CW.seq fun _ kh5 => ?_
 refine Sq fun _ kh6 _ kr7 => ?_
 refine As rfl rfl ?_
 refine WL.nil (kr7 _ _ _ (kh6 _ _ _ ?_))
 refine CW.block ?_
 refine CW.loop (S := fun g : Nat × List Nat => [(0, .slice ala la.length cla), (1, .slice alb lb.length clb), (5, .slice (some ⟨b15, 0, none⟩) (la.length + lb.length) (la.length + lb.length)), (6, .int .i64 (g.1 : Int))]) (Inv := KMs la lb w b15) (mu := fun g => la.length - g.1) ((0, List.replicate (la.length + lb.length) 0)) ?_ ?_ ?_
 ·
  exact ⟨MulI.zero la lb, hb15, hch⟩
 ·
  repeat (first | exact Subs.nil | refine Subs.cons rfl ?_ | refine Subs.consI rfl (by omega) ?_)
 ·
  rintro ⟨i, L0⟩ wr ⟨hAd, hb15, hch⟩
  dsimp only at hAd hb15 hch
  have hiX := hAd.le
  have hLl := hAd.len
  refine CW.seq fun _ kh8 => ?_
  refine Sq fun _ kh9 _ kr10 => ?_
  refine Mv rfl rfl ?_
  refine Mv rfl rfl ?_
  refine WL.ev (Ev.len rfl) rfl ?_
  refine WL.ev (Ev.lss rfl rfl) rfl ?_
  refine WL.nil (kr10 _ _ _ (kh9 _ _ _ ?_))
  refine CW.cond rfl (fun hc1 => ?_) (fun hc1 => ?_)
  ·
   try simp only [qs] at hc1
   refine CW.skip ?_
   refine kh8 _ _ _ ?_
   refine CW.seq fun _ kh11 => ?_
   refine CW.block ?_
   refine Sq fun _ kh12 _ kr13 => ?_
   refine As rfl rfl ?_
   refine WL.nil (kr13 _ _ _ (kh12 _ _ _ ?_))
   refine CW.seq fun _ kh14 => ?_
   refine Sq fun _ kh15 _ kr16 => ?_
   refine As rfl rfl ?_
   refine WL.nil (kr16 _ _ _ (kh15 _ _ _ ?_))
   refine CW.block ?_
   refine CW.loop (S := fun g : Nat × List Nat × Nat => [(0, .slice ala la.length cla), (1, .slice alb lb.length clb), (5, .slice (some ⟨b15, 0, none⟩) (la.length + lb.length) (la.length + lb.length)), (6, .int .i64 (i : Int)), (7, .int .u64 (g.2.2 : Int)), (8, .int .i64 (g.1 : Int))]) (Inv := KNs (la.getD i 0) lb i L0 w b15) (mu := fun g => lb.length - g.1) ((0, L0, 0)) ?_ ?_ ?_
   ·
    exact ⟨MulJ.zero hAd.w, hb15, hch⟩
   ·
    repeat (first | exact Subs.nil | refine Subs.cons rfl ?_ | refine Subs.consI rfl (by omega) ?_)
   ·
    rintro ⟨j, L, c⟩ wr2 ⟨hJ, hb15, hch⟩
    dsimp only at hJ hb15 hch
    have hjX := hJ.le
    have hLl2 := hJ.len
    have hLW := hJ.w
    have hcc := hJ.c1
    refine CW.seq fun _ kh17 => ?_
    refine Sq fun _ kh18 _ kr19 => ?_
    refine Mv rfl rfl ?_
    refine Mv rfl rfl ?_
    refine WL.ev (Ev.len rfl) rfl ?_
    refine WL.ev (Ev.lss rfl rfl) rfl ?_
    refine WL.nil (kr19 _ _ _ (kh18 _ _ _ ?_))
    refine CW.cond rfl (fun hc2 => ?_) (fun hc2 => ?_)
    ·
     try simp only [qs] at hc2
     have hfit := MulJ.fits (hWla.getD i) (hWlb.getD j) (hLW.getD (i + j)) hcc
     have hxa := hWla.getD i
     refine CW.skip ?_
     refine kh17 _ _ _ ?_
     refine CW.seq fun _ kh20 => ?_
     refine CW.block ?_
     refine CW.seq fun _ kh21 => ?_
     refine CW.regionSC hmix (by kernel_rfl) fun kR22 kr22 hdr => ?_
     have hch := hch.trans (Chg.any hdr)
     have hb15 := hb15.keep0 hdr
     refine WS.ev (Ev.move rfl) rfl ?_
     refine WS.ev (Ev.move rfl) rfl ?_
     refine WS.ev (Ev.ixR (i) rfl rfl (hrla.keep0 hch) (by omega) (by omega) (by simp; omega)) rfl ?_
     refine WS.ev (Ev.load rfl rfl ((hrla.keep0 hch).u32 (by first | omega | (simp; omega)))) rfl ?_
     have hw31 := hWla.getD (i)
     refine WS.ev (Ev.convIn rfl rfl (in_u64 (by omega))) rfl ?_
     refine WS.ev (Ev.move rfl) rfl ?_
     refine WS.ev (Ev.move rfl) rfl ?_
     refine WS.ev (Ev.ixR (j) rfl rfl (hrlb.keep0 hch) (by omega) (by omega) (by simp; omega)) rfl ?_
     refine WS.ev (Ev.load rfl rfl ((hrlb.keep0 hch).u32 (by first | omega | (simp; omega)))) rfl ?_
     have hw36 := hWlb.getD (j)
     refine WS.ev (Ev.convIn rfl rfl (in_u64 (by omega))) rfl ?_
     refine WS.ev (Ev.mul64In rfl rfl hfit.2.1) rfl ?_
     refine WS.ev (Ev.move rfl) rfl ?_
     refine WS.ev (Ev.move rfl) rfl ?_
     refine WS.ev (Ev.move rfl) rfl ?_
     first | refine WS.ev (Ev.addIn rfl rfl (by omega)) rfl ?_ | refine WS.ev (Ev.add rfl rfl) rfl ?_
     refine WS.ev (Ev.ixB ((i + j)) rfl rfl (by omega) (by omega)) rfl ?_
     refine WS.ev (Ev.load rfl rfl (hb15.u32 (by first | omega | (simp; omega)))) rfl ?_
     have hw44 := hLW.getD ((i + j))
     refine WS.ev (Ev.convIn rfl rfl (in_u64 (by omega))) rfl ?_
     refine WS.ev (Ev.add64In rfl rfl hfit.2.2) rfl ?_
     refine WS.ev (Ev.move rfl) rfl ?_
     refine WS.ev (Ev.add64In rfl rfl hfit.1) rfl ?_
     refine WS.ev (Ev.assign rfl) rfl ?_
     refine WS.nil (kr22 _ _ ?_)
     refine kh21 _ _ _ ?_
     refine Sq fun _ kh23 _ kr24 => ?_
     refine Mv rfl rfl ?_
     refine Mv rfl rfl ?_
     refine Mv rfl rfl ?_
     first | refine WL.ev (Ev.addIn rfl rfl (by omega)) rfl ?_ | refine WL.ev (Ev.add rfl rfl) rfl ?_
     refine Mv rfl rfl ?_
     refine WL.ev (Ev.conv32 rfl rfl) rfl ?_
     refine WL.ev (Ev.ixB ((i + j)) rfl rfl (by omega) (by omega)) rfl ?_
     refine WL.storeU rfl rfl hb15 (by first | omega | (simp; omega)) fun ws4 hb15_ hcs4 => ?_
     have hch := hch.s1 hcs4
     have hb15 := hb15_
     refine WL.nil (kr24 _ _ _ (kh23 _ _ _ ?_))
     refine CW.region fun kR25 kr25 => ?_
     refine Mv rfl rfl ?_
     refine WL.ev (Ev.shrU (b := 32) rfl rfl (by simp only [IntKind.bits]; exact hfit.1)) rfl ?_
     refine As rfl rfl ?_
     refine WL.nil (kr25 _ _ _ (kh20 _ _ _ ?_))
     refine CW.region fun kR26 kr26 => ?_
     refine Mv rfl rfl ?_
     first | refine WL.ev (Ev.addIn rfl rfl (by omega)) rfl ?_ | refine WL.ev (Ev.add rfl rfl) rfl ?_
     refine As rfl rfl ?_
     refine WL.nil (kr26 _ _ _ ?_)
     refine ⟨rfl, (j + 1, L.set (i + j) ((la.getD i 0 * lb.getD j 0 + L.getD (i + j) 0 + c) % 4294967296), (la.getD i 0 * lb.getD j 0 + L.getD (i + j) 0 + c) / 4294967296), ?_, ?_, ?_⟩
     ·
      repeat (first | exact Subs.nil | refine Subs.cons rfl ?_ | refine Subs.consI rfl (by omega) ?_)
     ·
      exact ⟨hJ.step (hWla.getD i) hWlb (by omega) (by omega), hb15, hch⟩
     ·
      show lb.length - (j + 1) < lb.length - j; omega
    ·
     try simp only [qs] at hc2
     have hjX2 : j = lb.length := by omega
     subst hjX2
     refine CW.exit ?_
     refine kh14 _ _ _ ?_
     refine CW.region fun kR27 kr27 => ?_
     refine Mv rfl rfl ?_
     refine Mv rfl rfl ?_
     refine Mv rfl rfl ?_
     refine WL.ev (Ev.len rfl) rfl ?_
     first | refine WL.ev (Ev.addIn rfl rfl (by omega)) rfl ?_ | refine WL.ev (Ev.add rfl rfl) rfl ?_
     refine Mv rfl rfl ?_
     refine WL.ev (Ev.conv32 rfl rfl) rfl ?_
     rw [Nat.mod_eq_of_lt hcc]
     refine WL.ev (Ev.ixB ((i + (lb).length)) rfl rfl (by omega) (by omega)) rfl ?_
     refine WL.storeU rfl rfl hb15 (by first | omega | (simp; omega)) fun ws5 hb15_ hcs5 => ?_
     have hch := hch.s1 hcs5
     have hb15 := hb15_
     refine WL.nil (kr27 _ _ _ (kh11 _ _ _ ?_))
     refine CW.region fun kR28 kr28 => ?_
     refine Mv rfl rfl ?_
     first | refine WL.ev (Ev.addIn rfl rfl (by omega)) rfl ?_ | refine WL.ev (Ev.add rfl rfl) rfl ?_
     refine As rfl rfl ?_
     refine WL.nil (kr28 _ _ _ ?_)
     refine ⟨rfl, (i + 1, L.set (i + lb.length) c), ?_, ?_, ?_⟩
     ·
      repeat (first | exact Subs.nil | refine Subs.cons rfl ?_ | refine Subs.consI rfl (by omega) ?_)
     ·
      exact ⟨hAd.step (by omega) hJ, hb15, hch⟩
     ·
      show la.length - (i + 1) < la.length - i; omega
  ·
   try simp only [qs] at hc1
   have hiX2 : i = la.length := by omega
   subst hiX2
   have hdn := hAd.done
   have hLn := hAd.len
   refine CW.exit ?_
   refine kh5 _ _ _ ?_
   refine Sq fun _ kh29 _ kr30 => ?_
   refine Mv rfl rfl ?_
   refine WL.call hasF124 rfl rfl (r2Norm_spec _ _ _ (NU.of_block hb15 hAd.w (by omega) (by omega) (Nat.le_refl _)) (by have := wd_length_val_le hAd.w; omega)) fun v w1 h' => ?_
   obtain ⟨hN, hC, hF⟩ := h'
   rw [hdn] at hN
   have hF := hF.mono hch.size
   have hch := hch.trans (Chg.any hC)
   have hb15 := hb15.keep0 hC
   refine As rfl rfl ?_
   refine WL.nil (kr30 _ _ _ (kh29 _ _ _ ?_))
   refine CW.ret ?_
   refine bodyA.ret1 rfl rfl ?_
   exact ⟨hN, hch, hF⟩

end Go.Proofs.YtphnpchmdpjabaaGreatDoor

/- Reference of layer 2: digit, Parts, Moved. No condition. -/
namespace Go.Proofs.YtphnpchmdpjabaaGreatDoor
open Go Sx Wd

structure KDgs (la lb : List Nat) (w : World) (g : Nat × Nat × Value) (wr : World) : Prop where
  lt : g.1 < g.2.1
  le : g.2.1 ≤ 4294967296
  a : val lb * g.1 ≤ val la
  b : val la < val lb * g.2.1
  nu : NU wr g.2.2 (wd (val lb * g.1))
  fh : Fh w g.2.2
  ch : Chg [] w wr

set_option maxRecDepth 8000 in
theorem r2digit_spec (va vb : Value) (la lb : List Nat) (w : World) (ha : NU w va la) (hb : NU w vb lb) (hla : la.length ≤ 1099511627776) (hlb : lb.length ≤ 1099511627776) (hb1 : val la < val lb * 4294967296) : Ret Tryz.prog 194 [va, vb] w fun u w' => ∃ x, u = .tuple [.int .u32 ((val la / val lb : Nat) : Int), x].toArray ∧ NU w' x (wd (val lb * (val la / val lb))) ∧ Chg [] w w' ∧ Fh w x := by
 have ha0 := ha
 have hb0 := hb
 obtain ⟨⟨ala, cla, rfl, hcapla, hrla⟩, hWla, hlla⟩ := ha
 obtain ⟨⟨alb, clb, rfl, hcaplb, hrlb⟩, hWlb, hllb⟩ := hb
 have hch : Chg [] w w := Chg.refl _ _
 refine Ret.enter Tryz.func194 rfl rfl ?_
 simp only [args0, Nat.zero_add, Nat.reduceAdd]
 refine Sq fun _ kh1 _ kr2 => ?_
 refine As rfl rfl ?_
 refine As rfl rfl ?_
 refine WL.nil (kr2 _ _ _ (kh1 _ _ _ ?_))
 refine Sq fun _ kh3 _ kr4 => ?_
 refine As rfl rfl ?_
 refine WL.nil (kr4 _ _ _ (kh3 _ _ _ ?_))
 refine Sq fun _ kh5 _ kr6 => ?_
 refine As rfl rfl ?_
 refine WL.nil (kr6 _ _ _ (kh5 _ _ _ ?_))
 refine Sq fun _ kh7 _ kr8 => ?_
 refine As rfl rfl ?_
 refine WL.nil (kr8 _ _ _ (kh7 _ _ _ ?_))
 refine CW.seq fun _ kh9 => ?_
 refine CW.block ?_
 refine CW.loop (S := fun g : Nat × Nat × Value => [(0, .slice ala la.length cla), (1, .slice alb lb.length clb), (6, .int .u64 (g.1 : Int)), (7, .int .u64 (g.2.1 : Int)), (8, g.2.2)]) (Inv := KDgs la lb w) (mu := fun g => g.2.1 - g.1) ((0, 4294967296, .slice none 0 0)) ?_ ?_ ?_
 ·
  exact ⟨by decide, Nat.le_refl _, by rw [Nat.mul_zero]; exact Nat.zero_le _, hb1, by rw [Nat.mul_zero, wd_zero]; exact NU.nil, Fh.nil, hch⟩
 ·
  repeat (first | exact Subs.nil | refine Subs.cons rfl ?_ | refine Subs.consI rfl (by omega) ?_)
 ·
  rintro ⟨f, t, v0⟩ wr ⟨hft, ht, hfa, htb, hvb, hfb, hch⟩
  dsimp only at hft ht hfa htb hvb hfb hch
  dsimp only
  refine CW.seq fun _ kh10 => ?_
  refine Sq fun _ kh11 _ kr12 => ?_
  refine Mv rfl rfl ?_
  refine Mv rfl rfl ?_
  first | refine WL.ev (Ev.sub64In rfl rfl (by omega) (by omega)) rfl ?_ | refine WL.ev (Ev.sub64 rfl rfl (by omega)) rfl ?_
  refine WL.ev (Ev.gtr rfl rfl) rfl ?_
  refine WL.nil (kr12 _ _ _ (kh11 _ _ _ ?_))
  refine CW.cond rfl (fun hc1 => ?_) (fun hc1 => ?_)
  ·
   try simp only [qs] at hc1
   have hm1 : f < (f + t) / 2 := by omega
   have hm2 : (f + t) / 2 < t := by omega
   refine CW.skip ?_
   refine kh10 _ _ _ ?_
   refine CW.block ?_
   refine Sq fun _ kh13 _ kr14 => ?_
   refine Mv rfl rfl ?_
   refine Mv rfl rfl ?_
   first | refine WL.ev (Ev.add64In rfl rfl (by omega)) rfl ?_ | refine WL.ev (Ev.add64 rfl rfl) rfl ?_
   refine WL.ev (Ev.quoU (b := 2) rfl rfl (by omega) (in_u64 (by omega)).2) rfl ?_
   refine As rfl rfl ?_
   refine WL.nil (kr14 _ _ _ (kh13 _ _ _ ?_))
   refine Sq fun _ kh15 _ kr16 => ?_
   refine Mv rfl rfl ?_
   refine Mv rfl rfl ?_
   refine WL.ev (Ev.conv32 rfl rfl) rfl ?_
   rw [Nat.mod_eq_of_lt (show (f + t) / 2 < 4294967296 by omega)]
   refine WL.buildSlice (m := 1) (cs := [u32v (((f + t) / 2))]) (by decide) (by decide) rfl (by kernel_rfl) rfl fun b22 w22 hn22 => ?_
   have hcm22 := hn22.chg
   have hge22 := hn22.ge
   have hb22 : OB w22 b22 _ [((f + t) / 2)] := hn22.at_
   have hgehch22 := Nat.le_trans hch.size hge22
   have hch := hch.trans (Chg.any hcm22)
   have hvb := hvb.keep0 hcm22
   refine WL.call hasF166 rfl rfl (r2Times_spec _ _ _ _ _ (hb0.keep0 hch) (NU.of_block (l := [((f + t) / 2)]) hb22 (W_cons.2 ⟨by omega, W_nil⟩) (by simp) rfl (by omega)) (by simp only [List.length_cons, List.length_nil]; omega)) fun v23 w1 h' => ?_
   obtain ⟨hNx, hC, hFx⟩ := h'
   rw [wd_one _ (by omega)] at hNx
   have hFx := hFx.mono hch.size
   have hch := hch.trans (Chg.any hC)
   have hb22 := hb22.keep0 hC
   have hvb := hvb.keep0 hC
   refine As rfl rfl ?_
   refine WL.nil (kr16 _ _ _ (kh15 _ _ _ ?_))
   refine Sq fun _ kh17 _ kr18 => ?_
   refine Mv rfl rfl ?_
   refine Mv rfl rfl ?_
   refine WL.call hasF180 rfl rfl (r2Cmp_spec _ _ _ _ _ hNx (ha0.keep0 hch)) fun v w2 h' => ?_
   obtain ⟨rfl, hC⟩ := h'
   rw [val_wd]
   have hch := hch.trans (Chg.any hC)
   have hb22 := hb22.keep0 hC
   have hvb := hvb.keep0 hC
   have hNx := hNx.keep0 hC
   refine WL.ev (Ev.leq rfl rfl) rfl ?_
   refine WL.nil (kr18 _ _ _ (kh17 _ _ _ ?_))
   refine CW.cond rfl (fun hc2 => ?_) (fun hc2 => ?_)
   ·
    try simp only [qs] at hc2
    have hle : val lb * ((f + t) / 2) ≤ val la := sgn_le.1 hc2
    refine Sq fun _ kh19 _ kr20 => ?_
    refine Mv rfl rfl ?_
    refine As rfl rfl ?_
    refine WL.nil (kr20 _ _ _ (kh19 _ _ _ ?_))
    refine CW.region fun kR21 kr21 => ?_
    refine Mv rfl rfl ?_
    refine As rfl rfl ?_
    refine WL.nil (kr21 _ _ _ ?_)
    refine ⟨rfl, (((f + t) / 2), t, v23), ?_, ?_, ?_⟩
    ·
     repeat (first | exact Subs.nil | refine Subs.cons rfl ?_ | refine Subs.consI rfl (by omega) ?_)
    ·
     exact ⟨hm2, ht, hle, htb, hNx, hFx, hch⟩
    ·
     show t - ((f + t) / 2) < t - f; omega
   ·
    try simp only [qs] at hc2
    have hle : val la < val lb * ((f + t) / 2) := Nat.lt_of_not_le fun q => by have := sgn_le.2 q; omega
    refine CW.region fun kR22 kr22 => ?_
    refine Mv rfl rfl ?_
    refine As rfl rfl ?_
    refine WL.nil (kr22 _ _ _ ?_)
    refine ⟨rfl, (f, ((f + t) / 2), v0), ?_, ?_, ?_⟩
    ·
     repeat (first | exact Subs.nil | refine Subs.cons rfl ?_ | refine Subs.consI rfl (by omega) ?_)
    ·
     exact ⟨hm1, by dsimp only; omega, hfa, hle, hvb, hfb, hch⟩
    ·
     show ((f + t) / 2) - f < t - f; omega
  ·
   try simp only [qs] at hc1
   have et : t = f + 1 := by omega
   subst et
   have hq : val la / val lb = f := Nat.div_eq_of_lt_le (by rw [Nat.mul_comm]; exact hfa) (by rw [Nat.mul_comm]; exact htb)
   refine CW.exit ?_
   refine kh9 _ _ _ ?_
   refine Sq fun _ kh23 _ kr24 => ?_
   refine Mv rfl rfl ?_
   refine WL.ev (Ev.conv32 rfl rfl) rfl ?_
   rw [Nat.mod_eq_of_lt (show f < 4294967296 by omega)]
   refine Mv rfl rfl ?_
   refine As rfl rfl ?_
   refine As rfl rfl ?_
   refine WL.nil (kr24 _ _ _ (kh23 _ _ _ ?_))
   refine CW.ret ?_
   refine bodyA.ret2 rfl rfl rfl ?_
   rw [hq]
   exact ⟨_, rfl, hvb, hch, hfb⟩

structure KPts (la : List Nat) (b : Nat) (w : World) (B : Nat) (g : Nat × List Nat × Nat × Value) (wr : World) : Prop where
  a : PartI la b g.1 g.2.1 g.2.2.1
  ob : OB wr B 116 g.2.1
  nu : NU wr g.2.2.2 (wd g.2.2.1)
  av : Av B g.2.2.2
  ch : Chg [] w wr

set_option maxRecDepth 8000 in
theorem r2Parts_spec (va vb : Value) (la lb : List Nat) (w : World) (ha : NU w va la) (hb : NU w vb lb) (hla : la.length ≤ 1099511627776) (hlb : lb.length ≤ 1099511627775) (hb1 : 0 < val lb) : Ret Tryz.prog 165 [va, vb] w fun u w' => ∃ x y, u = .tuple [x, y].toArray ∧ NU w' x (wd (val la / val lb)) ∧ NU w' y (wd (val la % val lb)) ∧ Chg [] w w' := by
 have ha0 := ha
 have hb0 := hb
 obtain ⟨⟨ala, cla, rfl, hcapla, hrla⟩, hWla, hlla⟩ := ha
 obtain ⟨⟨alb, clb, rfl, hcaplb, hrlb⟩, hWlb, hllb⟩ := hb
 have hch : Chg [] w w := Chg.refl _ _
 refine Ret.enter Tryz.func165 rfl rfl ?_
 simp only [args0, Nat.zero_add, Nat.reduceAdd]
 refine Sq fun _ kh1 _ kr2 => ?_
 refine As rfl rfl ?_
 refine As rfl rfl ?_
 refine WL.nil (kr2 _ _ _ (kh1 _ _ _ ?_))
 refine Sq fun _ kh3 _ kr4 => ?_
 refine Mv rfl rfl ?_
 refine WL.ev (Ev.len rfl) rfl ?_
 refine WL.makeU ((la).length) ((la).length) rfl rfl (by omega) (by omega) (by omega) (by omega) (by omega) rfl fun b14 wm14 hb14 hcm14 hge14 => ?_
 have hgehch14 := Nat.le_trans hch.size hge14
 have hch := hch.trans (Chg.any hcm14)
 refine As rfl rfl ?_
 refine WL.nil (kr4 _ _ _ (kh3 _ _ _ ?_))
 refine Sq fun _ kh5 _ kr6 => ?_
 refine As rfl rfl ?_
 refine WL.nil (kr6 _ _ _ (kh5 _ _ _ ?_))
 refine CW.seq fun _ kh7 => ?_
 refine Sq fun _ kh8 _ kr9 => ?_
 refine Mv rfl rfl ?_
 refine WL.ev (Ev.len rfl) rfl ?_
 first | refine WL.ev (Ev.subIn rfl rfl (by omega)) rfl ?_ | refine WL.ev (Ev.sub rfl rfl) rfl ?_
 refine As rfl rfl ?_
 refine WL.nil (kr9 _ _ _ (kh8 _ _ _ ?_))
 refine CW.block ?_
 refine CW.loop (S := fun g : Nat × List Nat × Nat × Value => [(0, .slice ala la.length cla), (1, .slice alb lb.length clb), (6, .slice (some ⟨b14, 0, none⟩) la.length la.length), (7, g.2.2.2), (8, .int .i64 ((g.1 : Int) - 1))]) (Inv := KPts la (val lb) w b14) (mu := fun g => g.1) ((la.length, List.replicate la.length 0, 0, .slice none 0 0)) ?_ ?_ ?_
 ·
  exact ⟨PartI.zero la hb1, hb14, by rw [wd_zero]; exact NU.nil, Av.nil, hch⟩
 ·
  repeat (first | exact Subs.nil | refine Subs.cons rfl ?_ | refine Subs.consI rfl (by omega) ?_)
 ·
  rintro ⟨k, Q, r, vr⟩ wr ⟨hI, hb14, hvr, hav, hch⟩
  dsimp only at hI hb14 hvr hav hch
  dsimp only
  have hkl := hI.le
  have hQl := hI.len
  have hrl := hI.rl
  have hge14 : w.heap.size ≤ b14 := hgehch14
  refine CW.seq fun _ kh10 => ?_
  refine Sq fun _ kh11 _ kr12 => ?_
  refine Mv rfl rfl ?_
  refine WL.ev (Ev.geq rfl rfl) rfl ?_
  refine WL.nil (kr12 _ _ _ (kh11 _ _ _ ?_))
  refine CW.cond rfl (fun hc1 => ?_) (fun hc1 => ?_)
  ·
   try simp only [qs] at hc1
   have hbd := hI.bound hWla
   have hrn : (wd r).length ≤ lb.length := Nat.le_trans (wd_length_mono (Nat.le_of_lt hrl)) (wd_length_val_le hWlb)
   have hXn : (wd (la.getD (k - 1) 0 + 4294967296 * r)).length ≤ lb.length + 1 := len_up hbd (val_lt hWlb)
   refine CW.skip ?_
   refine kh10 _ _ _ ?_
   refine CW.seq fun _ kh13 => ?_
   refine CW.block ?_
   refine Sq fun _ kh14 _ kr15 => ?_
   refine Mv rfl rfl ?_
   refine Mv rfl rfl ?_
   refine WL.ev (Ev.ixR ((k - 1)) rfl rfl (hrla.keep0 hch) (by omega) (by omega) (by simp; omega)) rfl ?_
   refine WL.ev (Ev.load rfl rfl ((hrla.keep0 hch).u32 (by first | omega | (simp; omega)))) rfl ?_
   have hw25 := hWla.getD ((k - 1))
   refine WL.buildSlice (m := 1) (cs := [u32v ((la).getD ((k - 1)) 0)]) (by decide) (by decide) rfl (by kernel_rfl) rfl fun b26 w26 hn26 => ?_
   have hcm26 := hn26.chg
   have hge26 := hn26.ge
   have hb26 : OB w26 b26 _ [(la).getD ((k - 1)) 0] := hn26.at_
   have hgehch26 := Nat.le_trans hch.size hge26
   have hch := hch.trans (Chg.any hcm26)
   have hvr := hvr.keep0 hcm26
   have hneb1426 : b14 ≠ b26 := by have := hb14.lt; omega
   have hb14 := hb14.keep0 hcm26
   have hg_nx := GR.of_OB (lo := w.heap.size) (X := [b14]) (k := 1) hb26 (by simp) (by simp) hgehch26 (by simp; omega)
   rw [show List.take 1 [la.getD (k - 1) 0] = [la.getD (k - 1) 0] from rfl] at hg_nx
   refine As rfl rfl ?_
   refine WL.nil (kr15 _ _ _ (kh14 _ _ _ ?_))
   refine CW.seq fun _ kh16 => ?_
   have hv7 := hvr
   obtain ⟨⟨ar, cr, rfl, hcapr, hrr⟩, hWr, hlr⟩ := hv7
   refine CW.region fun kR17 kr17 => ?_
   refine Mv rfl rfl ?_
   refine Mv rfl rfl ?_
   refine WL.growR (f := u32v) (lo := w.heap.size) (X := [b14]) (l := [la.getD (k - 1) 0]) (news := (wd r)) (by rfl) (fun i => rfl) rfl rfl hg_nx (by first | rfl | (simp; done) | (simp; omega) | omega) hrr (by first | omega | exact hch.size | exact Nat.le_refl _) (by intro b hb; simp only [List.mem_singleton] at hb; subst hb; exact hb14.lt) (by simp only [List.length_append, List.length_cons, List.length_nil]; omega) (by simp only [List.length_append, List.length_cons, List.length_nil]; omega) rfl fun v29 w29 hg29 hcg29 => ?_
   have hch := GR.frame hg_nx hcg29 hch (by first | omega | exact Nat.le_refl _)
   have hb14 := hb14.keep hcg29 (hg_nx.notin (by first | exact .inl (by simp) | exact .inr (by omega)))
   have hg_nx := hg29
   refine As rfl rfl ?_
   refine WL.nil (kr17 _ _ _ (kh16 _ _ _ ?_))
   refine CW.seq fun _ kh18 => ?_
   have hval : val ([la.getD (k - 1) 0] ++ wd r) = (la.getD (k - 1) 0 + 4294967296 * r) := by rw [val_append, val_wd]; simp [val]
   refine CW.region fun kR19 kr19 => ?_
   refine Mv rfl rfl ?_
   refine WL.call hasF124 rfl rfl (r2Norm_spec _ _ _ (hg_nx.nu (W_append.2 ⟨W_cons.2 ⟨hWla.getD _, W_nil⟩, W_wd _⟩) (by simp only [List.length_append, List.length_cons, List.length_nil]; omega)) (by rw [hval]; omega)) fun v31 w1 h' => ?_
   obtain ⟨hNx, hC, hFx⟩ := h'
   rw [hval] at hNx
   have hAx := hFx.av hb14.lt
   have hch := hch.trans (Chg.any hC)
   have hb14 := hb14.keep0 hC
   have hg_nx := hg_nx.keep0 hC
   refine As rfl rfl ?_
   refine WL.nil (kr19 _ _ _ (kh18 _ _ _ ?_))
   refine Sq fun _ kh20 _ kr21 => ?_
   refine Mv rfl rfl ?_
   refine Mv rfl rfl ?_
   refine WL.call hasF180 rfl rfl (r2Cmp_spec _ _ _ _ _ hNx (hb0.keep0 hch)) fun v w2 h' => ?_
   obtain ⟨rfl, hC⟩ := h'
   rw [val_wd]
   have hch := hch.trans (Chg.any hC)
   have hb14 := hb14.keep0 hC
   have hNx := hNx.keep0 hC
   have hg_nx := hg_nx.keep0 hC
   refine WL.ev (Ev.geq rfl rfl) rfl ?_
   refine WL.nil (kr21 _ _ _ (kh20 _ _ _ ?_))
   refine CW.cond rfl (fun hc2 => ?_) (fun hc2 => ?_)
   ·
    try simp only [qs] at hc2
    have hge : val lb ≤ (la.getD (k - 1) 0 + 4294967296 * r) := sgn_ge.1 hc2
    refine Sq fun _ kh22 _ kr23 => ?_
    refine Mv rfl rfl ?_
    refine Mv rfl rfl ?_
    refine WL.call hasF194 rfl rfl (r2digit_spec _ _ _ _ _ hNx (hb0.keep0 hch) (by omega) (by omega) (by rw [val_wd]; exact hbd)) fun v w3 h' => ?_
    obtain ⟨x, rfl, hNd, hC, hFd⟩ := h'
    rw [val_wd] at hNd ⊢
    have hAd := hFd.av hb14.lt
    have hch := hch.trans (Chg.any hC)
    have hb14 := hb14.keep0 hC
    have hNx := hNx.keep0 hC
    have hg_nx := hg_nx.keep0 hC
    refine Mv rfl rfl ?_
    refine WL.ev (Ev.extract rfl rfl) rfl ?_
    refine WL.ev (Ev.extract rfl rfl) rfl ?_
    refine As rfl rfl ?_
    refine As rfl rfl ?_
    refine WL.nil (kr23 _ _ _ (kh22 _ _ _ ?_))
    refine Sq fun _ kh24 _ kr25 => ?_
    refine Mv rfl rfl ?_
    refine Mv rfl rfl ?_
    refine Mv rfl rfl ?_
    refine WL.ev (Ev.ixB ((k - 1)) rfl rfl (by omega) (by omega)) rfl ?_
    refine WL.storeU rfl rfl hb14 (by first | omega | (simp; omega)) fun ws7 hb14_ hcs7 => ?_
    have hch := hch.s1 hcs7
    have hg_nx := hg_nx.keep hcs7 (fun y hy => by simp only [List.mem_singleton] at hy; subst hy; first | exact .inl (by simp) | exact .inr (.inl (by omega)) | exact .inr (.inr (by omega)))
    have hNx := hNx.keepOB hb14 hcs7 (by assumption)
    have hNd := hNd.keepOB hb14 hcs7 (by assumption)
    have hb14 := hb14_
    refine WL.nil (kr25 _ _ _ (kh24 _ _ _ ?_))
    refine CW.region fun kR26 kr26 => ?_
    refine Mv rfl rfl ?_
    refine Mv rfl rfl ?_
    refine WL.call hasF181 rfl rfl (r2Minus_spec _ _ _ _ _ hNx hNd (by omega) (by rw [val_wd, val_wd]; exact Nat.mul_div_le _ _)) fun v48 w4 h' => ?_
    obtain ⟨hNm, hC, hFm⟩ := h'
    rw [val_wd, val_wd] at hNm
    have hAm := hFm.av hb14.lt
    have hch := hch.trans (Chg.any hC)
    have hb14 := hb14.keep0 hC
    have hNx := hNx.keep0 hC
    have hNd := hNd.keep0 hC
    have hg_nx := hg_nx.keep0 hC
    refine As rfl rfl ?_
    refine WL.nil (kr26 _ _ _ (kh13 _ _ _ ?_))
    refine CW.region fun kR27 kr27 => ?_
    refine Mv rfl rfl ?_
    first | refine WL.ev (Ev.subIn rfl rfl (by omega)) rfl ?_ | refine WL.ev (Ev.sub rfl rfl) rfl ?_
    refine As rfl rfl ?_
    refine WL.nil (kr27 _ _ _ ?_)
    refine ⟨rfl, (k - 1, Q.set (k - 1) ((la.getD (k - 1) 0 + 4294967296 * r) / val lb), (la.getD (k - 1) 0 + 4294967296 * r) - val lb * ((la.getD (k - 1) 0 + 4294967296 * r) / val lb), v48), ?_, ?_, ?_⟩
    ·
     repeat (first | exact Subs.nil | refine Subs.cons rfl ?_ | refine Subs.consI rfl (by omega) ?_)
    ·
     exact ⟨hI.step hWla (by omega), hb14, hNm, hAm, hch⟩
    ·
     show k - 1 < k; omega
   ·
    try simp only [qs] at hc2
    have hlt : (la.getD (k - 1) 0 + 4294967296 * r) < val lb := Nat.lt_of_not_le fun q => by have := sgn_ge.2 q; omega
    refine CW.skip ?_
    refine kh13 _ _ _ ?_
    refine CW.region fun kR28 kr28 => ?_
    refine Mv rfl rfl ?_
    first | refine WL.ev (Ev.subIn rfl rfl (by omega)) rfl ?_ | refine WL.ev (Ev.sub rfl rfl) rfl ?_
    refine As rfl rfl ?_
    refine WL.nil (kr28 _ _ _ ?_)
    refine ⟨rfl, (k - 1, Q, (la.getD (k - 1) 0 + 4294967296 * r), v31), ?_, ?_, ?_⟩
    ·
     repeat (first | exact Subs.nil | refine Subs.cons rfl ?_ | refine Subs.consI rfl (by omega) ?_)
    ·
     exact ⟨hI.stay hWla (by omega) hlt, hb14, hNx, hAx, hch⟩
    ·
     show k - 1 < k; omega
  ·
   try simp only [qs] at hc1
   have hk0 : k = 0 := by omega
   subst hk0
   obtain ⟨hq, hr⟩ := hI.done
   subst hr
   refine CW.exit ?_
   refine kh7 _ _ _ ?_
   refine Sq fun _ kh29 _ kr30 => ?_
   refine Mv rfl rfl ?_
   refine WL.call hasF124 rfl rfl (r2Norm_spec _ _ _ (NU.of_block hb14 hI.w (by omega) (by omega) (Nat.le_refl _)) (by have := wd_length_val_le hI.w; omega)) fun v w5 h' => ?_
   obtain ⟨hN, hC, hF⟩ := h'
   rw [hq] at hN
   have hch := hch.trans (Chg.any hC)
   have hb14 := hb14.keep0 hC
   have hvr := hvr.keep0 hC
   refine Mv rfl rfl ?_
   refine As rfl rfl ?_
   refine As rfl rfl ?_
   refine WL.nil (kr30 _ _ _ (kh29 _ _ _ ?_))
   refine CW.ret ?_
   refine bodyA.ret2 rfl rfl rfl ?_
   exact ⟨_, _, rfl, hN, hvr, hch⟩

theorem shift_drop {l : List Nat} {q : Nat} (h : W l) (hk : q / 32 ≤ l.length) : val (l.drop (q / 32)) / 2 ^ (q % 32) = val l / 2 ^ q := by
  rw [val_drop h _ hk, Nat.div_div_eq_div_mul, ← Nat.pow_add, show 32 * (q / 32) + q % 32 = q by omega]
theorem shift_out {l : List Nat} {q : Nat} (h : W l) (hk : l.length ≤ q / 32) : val l / 2 ^ q = 0 := by
  refine Nat.div_eq_of_lt (Nat.lt_of_lt_of_le (val_lt h) (Nat.pow_le_pow_right (by decide) (by omega)))
theorem Ev.negN {P : Program} {s : Sl} {w : World} {ty t : TypeId} {x : Operand} {q : Nat} (hx : opnd s x = some (.int .i64 (-(q : Int)))) (h : q ≤ 9223372036854775807) : Ev P s (.unOp .neg t x) ty w (.int .i64 (q : Int)) w := by
  have := Ev.negIn (P := P) (w := w) (ty := ty) (t := t) hx (by omega)
  rwa [show - -(q : Int) = (q : Int) by omega] at this
theorem Ev.shlOne {P : Program} {s : Sl} {w : World} {ty t t' : TypeId} {x y : Operand} {k' : IntKind} {r : Nat} (hx : opnd s x = some (.int .u32 1)) (hy : opnd s y = some (.int k' (r : Int))) (h : 2 ^ r < 4294967296) : Ev P s (.binOp .shl t x y t') ty w (.int .u32 ((2 ^ r : Nat) : Int)) w := by
  have := Ev.shlU32 (P := P) (w := w) (ty := ty) (t := t) (t' := t') (a := 1) hx hy
  rwa [Nat.one_mul, Nat.mod_eq_of_lt h] at this
theorem pow_lt32 {r : Nat} (h : r < 32) : 2 ^ r < 4294967296 := by
  have : 2 ^ r ≤ 2 ^ 31 := Nat.pow_le_pow_right (by decide) (by omega)
  omega

set_option maxRecDepth 8000 in
theorem r2MovedDown_spec (v : Value) (l : List Nat) (w : World) (h : NU w v l) (q : Nat) (hq0 : 0 < q) (hq : q ≤ 1099511627776) (hlm : l.length ≤ 1099511627776) : Ret Tryz.prog 126 [v, .int .i64 (-(q : Int))] w fun u w' => NU w' u (wd (val l / 2 ^ q)) ∧ Chg [] w w' := by
 have hv0 := h
 obtain ⟨⟨al, cl, rfl, hcapl, hrl⟩, hWl, hll⟩ := h
 have hch : Chg [] w w := Chg.refl _ _
 have hp32 := pow_lt32 (r := q % 32) (Nat.mod_lt _ (by decide))
 refine Ret.enter Tryz.func126 rfl rfl ?_
 simp only [args0, Nat.zero_add, Nat.reduceAdd]
 refine Sq fun _ kh1 _ kr2 => ?_
 refine As rfl rfl ?_
 refine WL.nil (kr2 _ _ _ (kh1 _ _ _ ?_))
 refine CW.seq fun _ kh3 => ?_
 refine Sq fun _ kh4 _ kr5 => ?_
 refine Mv rfl rfl ?_
 refine WL.ev (Ev.lss rfl rfl) rfl ?_
 refine WL.nil (kr5 _ _ _ (kh4 _ _ _ ?_))
 refine CW.cond rfl (fun hc1 => ?_) (fun hc1 => ?_)
 ·
  try simp only [qs] at hc1
  refine Sq fun _ kh6 _ kr7 => ?_
  refine Mv rfl rfl ?_
  refine WL.ev (Ev.negIn rfl (by omega)) rfl ?_
  rw [show - -(q : Int) = (q : Int) by omega]
  refine WL.ev (Ev.quoIn (b := 32) rfl rfl (by omega) (by simp only [IntKind.max, IntKind.signed, IntKind.bits]; omega) (by omega)) rfl ?_
  rw [show (q : Int) / 32 = ((q / 32 : Nat) : Int) by omega]
  refine As rfl rfl ?_
  refine WL.nil (kr7 _ _ _ (kh6 _ _ _ ?_))
  refine CW.seq fun _ kh8 => ?_
  refine CW.seqM 21 (decide (l.length ≤ q / 32)) ?_ ?_
  ·
   refine CW.region fun kR9 kr9 => ?_
   refine Mv rfl rfl ?_
   refine Mv rfl rfl ?_
   refine WL.ev (Ev.len rfl) rfl ?_
   refine WL.ev (Ev.geq rfl rfl) rfl ?_
   refine Mv rfl rfl ?_
   refine WL.boolCase (fun hg2 => ?_) (fun hg2 => ?_)
   ·
    try simp only [qs] at hg2
    refine WL.pass rfl rfl rfl rfl rfl ?_
    refine WL.pass rfl rfl rfl rfl rfl ?_
    refine WL.ev (Ev.pickT rfl rfl rfl) rfl ?_
    refine WL.nil (kr9 _ _ _ ?_)
    refine ⟨rfl, rfl, Subs.consB rfl ?_ ?_⟩
    ·
     first | (simp; omega) | (refine decide_eq_decide.2 ?_; omega)
    ·
     first | ((repeat (first | exact Subs.refl | refine Subs.drop1 (by rfl) ?_)); done) | ((repeat (first | exact Subs.nil | refine Subs.cons rfl ?_)); done)
   ·
    try simp only [qs] at hg2
    refine WL.want rfl rfl rfl rfl ?_
    refine Mv rfl rfl ?_
    refine WL.want rfl rfl rfl rfl ?_
    refine WL.ev (Ev.lss rfl rfl) rfl ?_
    refine WL.ev (Ev.pickF rfl rfl rfl) rfl ?_
    refine WL.nil (kr9 _ _ _ ?_)
    refine ⟨rfl, rfl, Subs.consB rfl ?_ ?_⟩
    ·
     first | (simp; omega) | (refine decide_eq_decide.2 ?_; omega)
    ·
     first | ((repeat (first | exact Subs.refl | refine Subs.drop1 (by rfl) ?_)); done) | ((repeat (first | exact Subs.nil | refine Subs.cons rfl ?_)); done)
  ·
   refine CW.cond rfl (fun hc3 => ?_) (fun hc3 => ?_)
   ·
    try simp only [qs] at hc3
    refine Sq fun _ kh10 _ kr11 => ?_
    refine As rfl rfl ?_
    refine WL.nil (kr11 _ _ _ (kh10 _ _ _ ?_))
    refine CW.ret ?_
    refine bodyA.ret1 rfl rfl ?_
    rw [shift_out hWl (by omega), wd_zero]
    exact ⟨NU.nil, hch⟩
   ·
    try simp only [qs] at hc3
    have hsd := shift_drop hWl (q := q) (by omega)
    have hNd : NU w (.slice (cutAt al (q / 32) cl 1) (l.length - q / 32) (cl - q / 32)) (l.drop (q / 32)) := NU.of_row (by rw [List.map_drop]; exact hrl.cut _ _ (by simp; omega) (by simp; omega)) (hWl.drop _) (by simp; omega) (by simp) (by omega)
    have hNdl : (l.drop (q / 32)).length ≤ 1099511627776 := by simp; omega
    refine CW.skip ?_
    refine kh8 _ _ _ ?_
    refine CW.seq fun _ kh12 => ?_
    refine CW.regionHC 15 rfl hmix fun kR13 kr13 hS hdr => ?_
    have hch := hch.trans (Chg.any hdr)
    have hch_r := hch
    refine WH.take 0 rfl (by kernel_rfl) (by kernel_rfl) (by kernel_rfl) hS (fun w' hw' => Ev.move rfl) rfl ?_
    refine WH.take 1 rfl (by kernel_rfl) (by kernel_rfl) (by kernel_rfl) hS (fun w' hw' => Ev.move rfl) rfl ?_
    refine WH.take 2 rfl (by kernel_rfl) (by kernel_rfl) (by kernel_rfl) hS (fun w' hw' => Ev.sliceLn ((q / 32)) rfl rfl (by omega) (by omega)) rfl ?_
    refine WH.take 4 rfl (by kernel_rfl) (by kernel_rfl) (by kernel_rfl) hS (fun w' hw' => Ev.move rfl) rfl ?_
    refine WH.take 5 rfl (by kernel_rfl) (by kernel_rfl) (by kernel_rfl) hS (fun w' hw' => Ev.negN rfl (by omega)) rfl ?_
    refine WH.take 6 rfl (by kernel_rfl) (by kernel_rfl) (by kernel_rfl) hS (fun w' hw' => Ev.remU (b := 32) rfl rfl (by omega)) rfl ?_
    refine WH.take 7 rfl (by kernel_rfl) (by kernel_rfl) (by kernel_rfl) hS (fun w' hw' => Ev.shlOne rfl rfl hp32) rfl ?_
    refine WH.all2 3 8 (by kernel_rfl) ?_ ?_
    ·
     refine WHat.call 3 rfl hasF124 rfl rfl (r2Norm_spec _ _ _ (hNd.keep0 hch) (by have := wd_length_val_le hNd.hw; omega)) fun v w1 h' => ?_
     obtain ⟨hNn, hC, hF26⟩ := h'
     have hch := hch.trans (Chg.any hC)
     have hS := hS.trans hC
     refine ⟨hS, ?_⟩
     refine WH.buildSliceC 8 rfl (by kernel_rfl) hS (m := 1) (cs := [u32v (2 ^ (q % 32))]) (by decide) (by decide) rfl (by kernel_rfl) rfl fun b31 w31 hn31 hS => ?_
     have hcm31 := hn31.chg
     have hge31 := hn31.ge
     have hb31 : OB w31 b31 _ [2 ^ (q % 32)] := hn31.at_
     have hgehch31 := Nat.le_trans hch.size hge31
     have hch := hch.trans (Chg.any hcm31)
     have hNn := hNn.keep0 hcm31
     refine WH.oneCall 9 rfl (by kernel_rfl) hasF165 rfl rfl (r2Parts_spec _ _ _ _ _ hNn (NU.of_block hb31 (W_cons.2 ⟨hp32, W_nil⟩) (by simp) rfl (by omega)) (by have := wd_length_val_le hNd.hw; omega) (by simp) (by rw [wd_one _ hp32]; exact Nat.two_pow_pos _)) fun v w2 h' => ?_
     obtain ⟨x, y, rfl, hNq, hNr, hC⟩ := h'
     rw [val_wd, wd_one _ hp32, hsd] at hNq
     have hch := hch.trans (Chg.any hC)
     have hb31 := hb31.keep0 hC
     have hNn := hNn.keep0 hC
     have hS := hS.trans hC
     refine ⟨hS, ?_⟩
     refine WH.take 10 rfl (by kernel_rfl) (by kernel_rfl) (by kernel_rfl) hS (fun w' hw' => Ev.move rfl) rfl ?_
     refine WH.take 11 rfl (by kernel_rfl) (by kernel_rfl) (by kernel_rfl) hS (fun w' hw' => Ev.extract rfl rfl) rfl ?_
     refine WH.take 12 rfl (by kernel_rfl) (by kernel_rfl) (by kernel_rfl) hS (fun w' hw' => Ev.extract rfl rfl) rfl ?_
     refine WH.take 13 rfl (by kernel_rfl) (by kernel_rfl) (by kernel_rfl) hS (fun w' hw' => Ev.assign rfl) rfl ?_
     refine WH.take 14 rfl (by kernel_rfl) (by kernel_rfl) (by kernel_rfl) hS (fun w' hw' => Ev.assign rfl) rfl ?_
     refine WH.done (by kernel_rfl) (kr13 _ _ _ ?_)
     refine kh12 _ _ _ ?_
     refine Sq fun _ kh14 _ kr15 => ?_
     refine Mv rfl rfl ?_
     refine As rfl rfl ?_
     refine WL.nil (kr15 _ _ _ (kh14 _ _ _ ?_))
     refine CW.ret ?_
     refine bodyA.ret1 rfl rfl ?_
     exact ⟨hNq, hch⟩
    ·
     refine WHat.buildSlice 8 rfl hS (m := 1) (cs := [u32v (2 ^ (q % 32))]) (by decide) (by decide) rfl (by kernel_rfl) rfl fun b31 w31 hn31 hS => ?_
     have hcm31 := hn31.chg
     have hge31 := hn31.ge
     have hb31 : OB w31 b31 _ [2 ^ (q % 32)] := hn31.at_
     have hgehch31 := Nat.le_trans hch.size hge31
     have hch := hch.trans (Chg.any hcm31)
     refine WH.oneCall 3 rfl (by kernel_rfl) hasF124 rfl rfl (r2Norm_spec _ _ _ (hNd.keep0 hch) (by have := wd_length_val_le hNd.hw; omega)) fun v w3 h' => ?_
     obtain ⟨hNn, hC, hF26⟩ := h'
     have hch := hch.trans (Chg.any hC)
     have hb31 := hb31.keep0 hC
     have hS := hS.trans hC
     refine ⟨hS, ?_⟩
     refine WH.oneCall 9 rfl (by kernel_rfl) hasF165 rfl rfl (r2Parts_spec _ _ _ _ _ hNn (NU.of_block hb31 (W_cons.2 ⟨hp32, W_nil⟩) (by simp) rfl (by omega)) (by have := wd_length_val_le hNd.hw; omega) (by simp) (by rw [wd_one _ hp32]; exact Nat.two_pow_pos _)) fun v w4 h' => ?_
     obtain ⟨x, y, rfl, hNq, hNr, hC⟩ := h'
     rw [val_wd, wd_one _ hp32, hsd] at hNq
     have hch := hch.trans (Chg.any hC)
     have hb31 := hb31.keep0 hC
     have hNn := hNn.keep0 hC
     have hS := hS.trans hC
     refine ⟨hS, ?_⟩
     refine WH.take 10 rfl (by kernel_rfl) (by kernel_rfl) (by kernel_rfl) hS (fun w' hw' => Ev.move rfl) rfl ?_
     refine WH.take 11 rfl (by kernel_rfl) (by kernel_rfl) (by kernel_rfl) hS (fun w' hw' => Ev.extract rfl rfl) rfl ?_
     refine WH.take 12 rfl (by kernel_rfl) (by kernel_rfl) (by kernel_rfl) hS (fun w' hw' => Ev.extract rfl rfl) rfl ?_
     refine WH.take 13 rfl (by kernel_rfl) (by kernel_rfl) (by kernel_rfl) hS (fun w' hw' => Ev.assign rfl) rfl ?_
     refine WH.take 14 rfl (by kernel_rfl) (by kernel_rfl) (by kernel_rfl) hS (fun w' hw' => Ev.assign rfl) rfl ?_
     refine WH.done (by kernel_rfl) (kr13 _ _ _ ?_)
     refine kh12 _ _ _ ?_
     refine Sq fun _ kh16 _ kr17 => ?_
     refine Mv rfl rfl ?_
     refine As rfl rfl ?_
     refine WL.nil (kr17 _ _ _ (kh16 _ _ _ ?_))
     refine CW.ret ?_
     refine bodyA.ret1 rfl rfl ?_
     exact ⟨hNq, hch⟩
 ·
  try simp only [qs] at hc1
  exfalso; omega

theorem up_pow (n q : Nat) : n * 2 ^ (32 * (q / 32)) * 2 ^ (q % 32) = n * 2 ^ q := by
  rw [Nat.mul_assoc, ← Nat.pow_add, show 32 * (q / 32) + q % 32 = q by omega]

set_option maxRecDepth 8000 in
theorem r2MovedUp_spec (v : Value) (l : List Nat) (w : World) (h : NU w v l) (q : Nat) (hq : q ≤ 1099511627776) (hlm : l.length ≤ 1099511627776) : Ret Tryz.prog 126 [v, .int .i64 (q : Int)] w fun u w' => NU w' u (wd (val l * 2 ^ q)) ∧ Chg [] w w' ∧ Fh w u := by
 obtain ⟨⟨al, cl, rfl, hcapl, hrl⟩, hWl, hll⟩ := h
 have hch : Chg [] w w := Chg.refl _ _
 have hp32 := pow_lt32 (r := q % 32) (Nat.mod_lt _ (by decide))
 refine Ret.enter Tryz.func126 rfl rfl ?_
 simp only [args0, Nat.zero_add, Nat.reduceAdd]
 refine Sq fun _ kh1 _ kr2 => ?_
 refine As rfl rfl ?_
 refine WL.nil (kr2 _ _ _ (kh1 _ _ _ ?_))
 refine CW.seq fun _ kh3 => ?_
 refine Sq fun _ kh4 _ kr5 => ?_
 refine Mv rfl rfl ?_
 refine WL.ev (Ev.lss rfl rfl) rfl ?_
 refine WL.nil (kr5 _ _ _ (kh4 _ _ _ ?_))
 refine CW.cond rfl (fun hc1 => ?_) (fun hc1 => ?_)
 ·
  try simp only [qs] at hc1
  exfalso; omega
 ·
  try simp only [qs] at hc1
  refine CW.skip ?_
  refine kh3 _ _ _ ?_
  refine Sq fun _ kh6 _ kr7 => ?_
  refine Mv rfl rfl ?_
  refine WL.ev (Ev.quoIn (b := 32) rfl rfl (by omega) (by simp only [IntKind.max, IntKind.signed, IntKind.bits]; omega) (by omega)) rfl ?_
  rw [show (q : Int) / 32 = ((q / 32 : Nat) : Int) by omega]
  refine WL.makeU ((q / 32)) ((q / 32)) rfl rfl (by omega) (by omega) (by omega) (by omega) (by omega) rfl fun b38 wm38 hb38 hcm38 hge38 => ?_
  have hgehch38 := Nat.le_trans hch.size hge38
  have hch := hch.trans (Chg.any hcm38)
  have hg_ou := GR.of_OB (lo := w.heap.size) (X := []) (k := q / 32) hb38 (by simp) (by simp; omega) hgehch38 (by simp)
  rw [List.take_replicate, Nat.min_self, List.length_replicate] at hg_ou
  refine As rfl rfl ?_
  refine WL.nil (kr7 _ _ _ (kh6 _ _ _ ?_))
  refine Sq fun _ kh8 _ kr9 => ?_
  refine Mv rfl rfl ?_
  refine Mv rfl rfl ?_
  refine WL.growR (f := u32v) (lo := w.heap.size) (X := []) (l := (List.replicate (q / 32) 0)) (news := l) (by rfl) (fun i => rfl) rfl rfl hg_ou (by first | rfl | (simp; done) | (simp; omega) | omega) (hrl.keep0 hch) (by first | omega | exact hch.size | exact Nat.le_refl _) (by simp) (by simp only [List.length_replicate]; omega) (by simp only [List.length_replicate]; omega) rfl fun v41 w41 hg41 hcg41 => ?_
  have hch := GR.frame hg_ou hcg41 hch (by first | omega | exact Nat.le_refl _)
  have hg_ou := hg41
  refine As rfl rfl ?_
  refine WL.nil (kr9 _ _ _ (kh8 _ _ _ ?_))
  refine Sq fun _ kh10 _ kr11 => ?_
  refine Mv rfl rfl ?_
  refine Mv rfl rfl ?_
  refine WL.ev (Ev.remU (b := 32) rfl rfl (by omega)) rfl ?_
  refine WL.ev (Ev.shlOne rfl rfl hp32) rfl ?_
  refine WL.buildSlice (m := 1) (cs := [u32v (2 ^ (q % 32))]) (by decide) (by decide) rfl (by kernel_rfl) rfl fun b46 w46 hn46 => ?_
  have hcm46 := hn46.chg
  have hge46 := hn46.ge
  have hb46 : OB w46 b46 _ [2 ^ (q % 32)] := hn46.at_
  have hgehch46 := Nat.le_trans hch.size hge46
  have hch := hch.trans (Chg.any hcm46)
  have hg_ou := hg_ou.keep0 hcm46
  refine WL.call hasF166 rfl rfl (r2Times_spec _ _ _ _ _ (hg_ou.nu (W_append.2 ⟨W_replicate _, hWl⟩) (by simp only [List.length_append, List.length_replicate]; omega)) (NU.of_block (l := [2 ^ (q % 32)]) hb46 (W_cons.2 ⟨hp32, W_nil⟩) (by simp) rfl (by omega)) (by simp only [List.length_append, List.length_replicate, List.length_cons, List.length_nil]; omega)) fun v w1 h' => ?_
  obtain ⟨hN, hC, hF⟩ := h'
  rw [val_zeros, wd_one _ hp32, up_pow] at hN
  have hF := hF.mono hch.size
  have hch := hch.trans (Chg.any hC)
  have hb46 := hb46.keep0 hC
  have hg_ou := hg_ou.keep0 hC
  refine As rfl rfl ?_
  refine WL.nil (kr11 _ _ _ (kh10 _ _ _ ?_))
  refine CW.ret ?_
  refine bodyA.ret1 rfl rfl ?_
  exact ⟨hN, hch, hF⟩

end Go.Proofs.YtphnpchmdpjabaaGreatDoor

/- Reference of layer 3: forms. No condition. -/
namespace Go.Proofs.YtphnpchmdpjabaaGreatDoor
open Go Sx Wd

/-- A form, and whether it may be. -/
def FO (w : World) (u : Value) (x : Option Dy) : Prop := (∃ r d, x = some d ∧ u = .tuple [.agg [.bool d.neg, r, .int .i64 d.e].toArray, .bool true].toArray ∧ NU w r (wd d.m)) ∨ (x = none ∧ u = .tuple [.agg [.bool false, .slice none 0 0, .int .i64 0].toArray, .bool false].toArray)
theorem r2MovedNeg_spec (v : Value) (l : List Nat) (q : Nat) (w : World) (h : NU w v l) (hq : q ≤ 1099511627776) (hlm : l.length ≤ 1099511627776) : Ret Tryz.prog 126 [v, .int .i64 (-(q : Int))] w fun u w' => NU w' u (wd (val l / 2 ^ q)) ∧ Chg [] w w' := by
  rcases Nat.eq_zero_or_pos q with rfl | h0
  · rw [show (-((0 : Nat) : Int)) = ((0 : Nat) : Int) by simp]
    have := r2MovedUp_spec v l w h 0 (by omega) hlm
    refine Ret.mono this fun u w' hR => ?_
    obtain ⟨h1, h2, _⟩ := hR
    rw [Nat.pow_zero, Nat.mul_one] at h1
    exact ⟨by rw [Nat.pow_zero, Nat.div_one]; exact h1, h2⟩
  · exact r2MovedDown_spec v l w h q h0 hq hlm

set_option maxRecDepth 8000 in
set_option maxHeartbeats 1000000 in
theorem r3Form_spec (neg : Bool) (v : Value) (l : List Nat) (e : Int) (w : World) (h : NU w v l) (he : -9223372036854775808 ≤ e ∧ e ≤ 9223372036854775807) (hlm : l.length ≤ 34359738368) : Ret Tryz.prog 80 [.bool neg, v, .int .i64 e] w fun u w' => FO w' u (formD neg (val l) e) ∧ Chg [] w w' := by
 obtain ⟨A, hA⟩ : ∃ A, A = wd (val l) := ⟨_, rfl⟩
 have hvA : val A = val l := by rw [hA]; exact val_wd _
 have hAl := wd_length_val_le h.hw
 rw [← hA] at hAl
 have hch : Chg [] w w := Chg.refl _ _
 refine Ret.enter Tryz.func80 rfl rfl ?_
 simp only [args0, Nat.zero_add, Nat.reduceAdd]
 refine Sq fun _ kh1 _ kr2 => ?_
 refine WL.allocB (l := [.bool false, .slice none 0 0, .int .i64 0]) rfl rfl fun b6 wm6 hb6 hcm6 hge6 => ?_
 have hgehch6 := Nat.le_trans hch.size hge6
 have hch := hch.trans (Chg.any hcm6)
 refine As rfl rfl ?_
 refine WL.nil (kr2 _ _ _ (kh1 _ _ _ ?_))
 refine Sq fun _ kh3 _ kr4 => ?_
 refine Mv rfl rfl ?_
 refine WL.call hasF124 rfl rfl (r2Norm_spec _ _ _ (h.keep0 hch) (by rw [← hA]; omega)) fun v w1 h' => ?_
 obtain ⟨hN1, hC11, hF1⟩ := h'
 rw [← hA] at hN1
 have hN1d := hN1
 obtain ⟨⟨a1, c1, rfl, hcap1, hr1⟩, hW1, hl1⟩ := hN1d
 have hch := hch.trans (Chg.any hC11)
 have hb6 := hb6.keep0 hC11
 refine As rfl rfl ?_
 refine WL.nil (kr4 _ _ _ (kh3 _ _ _ ?_))
 refine CW.seq fun _ kh5 => ?_
 refine Sq fun _ kh6 _ kr7 => ?_
 refine Mv rfl rfl ?_
 refine WL.ev (Ev.len rfl) rfl ?_
 refine WL.ev (Ev.eql rfl rfl) rfl ?_
 refine WL.nil (kr7 _ _ _ (kh6 _ _ _ ?_))
 refine CW.cond rfl (fun hc1 => ?_) (fun hc1 => ?_)
 ·
  try simp only [qs] at hc1
  refine Sq fun _ kh8 _ kr9 => ?_
  refine WL.ev (Ev.build (vs := _) (cs := [_, _, _]) rfl rfl) rfl ?_
  refine WL.storeB rfl rfl rfl ao hb6 (by simp) rfl fun ws1 hb6_ hcs1 => ?_
  try simp only [Sx.splice, qt] at hb6_
  have hch := hch.s1 hcs1
  have hN1 := hN1.keepBK hb6 hcs1 an
  have hb6 := hb6_
  refine As rfl rfl ?_
  refine WL.nil (kr9 _ _ _ (kh8 _ _ _ ?_))
  refine CW.ret ?_
  refine bodyA.retR2 rfl (RVal.cell rfl (hb6.varA rfl rfl)) (RVal.tmp rfl) ?_
  have hv0 : val l = 0 := by rw [← hvA, List.length_eq_zero_iff.1 (show A.length = 0 by omega)]; rfl
  rw [hv0, formD_zero]
  exact ⟨.inl ⟨_, _, rfl, rfl, by rw [show Dy.zero.m = 0 from rfl, wd_zero]; exact NU.nil⟩, hch⟩
 ·
  try simp only [qs] at hc1
  have hn0 : val l ≠ 0 := fun e0 => by rw [e0, wd_zero] at hA; rw [hA] at hc1; exact hc1 rfl
  obtain ⟨q, hq⟩ : ∃ q, q = tz (val l) := ⟨_, rfl⟩
  have hqb := tz_lt_bl hn0
  have hbA : bl (val l) ≤ 32 * A.length := by rw [bl_words, ← hA]; exact Nat.le_refl _
  rw [← hq] at hqb
  refine CW.skip ?_
  refine kh5 _ _ _ ?_
  refine Sq fun _ kh10 _ kr11 => ?_
  refine Mv rfl rfl ?_
  refine WL.call hasF125 rfl rfl (r2Low_spec _ _ _ hN1 (by omega)) fun v w2 h' => ?_
  obtain ⟨rfl, rfl⟩ := h'
  rw [hvA, ← hq]
  refine As rfl rfl ?_
  refine WL.nil (kr11 _ _ _ (kh10 _ _ _ ?_))
  refine CW.seq fun _ kh12 => ?_
  refine CW.seqM 31 (decide ((1048576 < e ∨ 1048576 < e + (q : Int)) ∨ e + (q : Int) < -1048576)) ?_ ?_
  ·
   refine CW.region fun kR13 kr13 => ?_
   refine Mv rfl rfl ?_
   refine WL.ev (Ev.gtr rfl rfl) rfl ?_
   refine Mv rfl rfl ?_
   refine WL.boolCase (fun hg2 => ?_) (fun hg2 => ?_)
   ·
    try simp only [qs] at hg2
    refine WL.pass rfl rfl rfl rfl rfl ?_
    refine WL.pass rfl rfl rfl rfl rfl ?_
    refine WL.pass rfl rfl rfl rfl rfl ?_
    refine WL.pass rfl rfl rfl rfl rfl ?_
    refine WL.ev (Ev.pickT rfl rfl rfl) rfl ?_
    refine Mv rfl rfl ?_
    refine WL.pass rfl rfl rfl rfl rfl ?_
    refine WL.pass rfl rfl rfl rfl rfl ?_
    refine WL.pass rfl rfl rfl rfl rfl ?_
    refine WL.pass rfl rfl rfl rfl rfl ?_
    refine WL.ev (Ev.pickT rfl rfl rfl) rfl ?_
    refine WL.nil (kr13 _ _ _ ?_)
    refine ⟨rfl, rfl, Subs.consB rfl ?_ ?_⟩
    ·
     first | (simp; omega) | (simp_all; done) | (refine decide_eq_decide.2 ?_; omega)
    ·
     first | ((repeat (first | exact Subs.refl | refine Subs.drop1 (by rfl) ?_)); done) | ((repeat (first | exact Subs.nil | refine Subs.cons rfl ?_)); done)
   ·
    try simp only [qs] at hg2
    refine WL.want rfl rfl rfl rfl ?_
    refine Mv rfl rfl ?_
    refine WL.want rfl rfl rfl rfl ?_
    refine Mv rfl rfl ?_
    refine WL.want rfl rfl rfl rfl ?_
    first | refine WL.ev (Ev.addIn rfl rfl (by omega)) rfl ?_ | refine WL.ev (Ev.add rfl rfl) rfl ?_
    refine WL.want rfl rfl rfl rfl ?_
    refine WL.ev (Ev.gtr rfl rfl) rfl ?_
    refine WL.ev (Ev.pickF rfl rfl rfl) rfl ?_
    refine Mv rfl rfl ?_
    refine WL.boolCase (fun hg3 => ?_) (fun hg3 => ?_)
    ·
     try simp only [qs] at hg3
     refine WL.pass rfl rfl rfl rfl rfl ?_
     refine WL.pass rfl rfl rfl rfl rfl ?_
     refine WL.pass rfl rfl rfl rfl rfl ?_
     refine WL.pass rfl rfl rfl rfl rfl ?_
     refine WL.ev (Ev.pickT rfl rfl rfl) rfl ?_
     refine WL.nil (kr13 _ _ _ ?_)
     refine ⟨rfl, rfl, Subs.consB rfl ?_ ?_⟩
     ·
      first | (simp; omega) | (simp_all; done) | (refine decide_eq_decide.2 ?_; omega)
     ·
      first | ((repeat (first | exact Subs.refl | refine Subs.drop1 (by rfl) ?_)); done) | ((repeat (first | exact Subs.nil | refine Subs.cons rfl ?_)); done)
    ·
     try simp only [qs] at hg3
     refine WL.want rfl rfl rfl rfl ?_
     refine Mv rfl rfl ?_
     refine WL.want rfl rfl rfl rfl ?_
     refine Mv rfl rfl ?_
     refine WL.want rfl rfl rfl rfl ?_
     first | refine WL.ev (Ev.addIn rfl rfl (by omega)) rfl ?_ | refine WL.ev (Ev.add rfl rfl) rfl ?_
     refine WL.want rfl rfl rfl rfl ?_
     refine WL.ev (Ev.lss rfl rfl) rfl ?_
     refine WL.ev (Ev.pickF rfl rfl rfl) rfl ?_
     refine WL.nil (kr13 _ _ _ ?_)
     refine ⟨rfl, rfl, Subs.consB rfl ?_ ?_⟩
     ·
      first | (simp; omega) | (simp_all; done) | (refine decide_eq_decide.2 ?_; omega)
     ·
      first | ((repeat (first | exact Subs.refl | refine Subs.drop1 (by rfl) ?_)); done) | ((repeat (first | exact Subs.nil | refine Subs.cons rfl ?_)); done)
  ·
   refine CW.cond rfl (fun hc4 => ?_) (fun hc4 => ?_)
   ·
    try simp only [qs] at hc4
    refine Sq fun _ kh14 _ kr15 => ?_
    refine WL.ev (Ev.build (vs := _) (cs := [_, _, _]) rfl rfl) rfl ?_
    refine WL.storeB rfl rfl rfl ao hb6 (by simp) rfl fun ws2 hb6_ hcs2 => ?_
    try simp only [Sx.splice, qt] at hb6_
    have hch := hch.s1 hcs2
    have hN1 := hN1.keepBK hb6 hcs2 an
    have hb6 := hb6_
    refine As rfl rfl ?_
    refine WL.nil (kr15 _ _ _ (kh14 _ _ _ ?_))
    refine CW.ret ?_
    refine bodyA.retR2 rfl (RVal.cell rfl (hb6.varA rfl rfl)) (RVal.tmp rfl) ?_
    rw [formD_none hn0 (by rw [← hq]; omega)]
    exact ⟨.inr ⟨rfl, rfl⟩, hch⟩
   ·
    try simp only [qs] at hc4
    refine CW.skip ?_
    refine kh12 _ _ _ ?_
    refine Sq fun _ kh16 _ kr17 => ?_
    refine Mv rfl rfl ?_
    refine Mv rfl rfl ?_
    refine WL.ev (Ev.negIn rfl (by omega)) rfl ?_
    refine WL.call hasF126 rfl rfl (r2MovedNeg_spec _ _ q _ hN1 (by omega) (by omega)) fun v w3 h' => ?_
    obtain ⟨hN2, hC36⟩ := h'
    rw [hvA] at hN2
    obtain ⟨B, hB⟩ : ∃ B, B = wd (val l / 2 ^ q) := ⟨_, rfl⟩
    rw [← hB] at hN2
    have hN2d := hN2
    obtain ⟨⟨a2, c2, rfl, hcap2, hr2⟩, hW2, hl2⟩ := hN2d
    have hch := hch.trans (Chg.any hC36)
    have hb6 := hb6.keep0 hC36
    have hN1 := hN1.keep0 hC36
    refine As rfl rfl ?_
    refine WL.nil (kr17 _ _ _ (kh16 _ _ _ ?_))
    refine CW.seq fun _ kh18 => ?_
    refine Sq fun _ kh19 _ kr20 => ?_
    refine Mv rfl rfl ?_
    refine WL.ev (Ev.len rfl) rfl ?_
    refine WL.ev (Ev.gtr rfl rfl) rfl ?_
    refine WL.nil (kr20 _ _ _ (kh19 _ _ _ ?_))
    refine CW.cond rfl (fun hc5 => ?_) (fun hc5 => ?_)
    ·
     try simp only [qs] at hc5
     refine Sq fun _ kh21 _ kr22 => ?_
     refine WL.ev (Ev.build (vs := _) (cs := [_, _, _]) rfl rfl) rfl ?_
     refine WL.storeB rfl rfl rfl ao hb6 (by simp) rfl fun ws3 hb6_ hcs3 => ?_
     try simp only [Sx.splice, qt] at hb6_
     have hch := hch.s1 hcs3
     have hN1 := hN1.keepBK hb6 hcs3 an
     have hN2 := hN2.keepBK hb6 hcs3 an
     have hb6 := hb6_
     refine As rfl rfl ?_
     refine WL.nil (kr22 _ _ _ (kh21 _ _ _ ?_))
     refine CW.ret ?_
     refine bodyA.retR2 rfl (RVal.cell rfl (hb6.varA rfl rfl)) (RVal.tmp rfl) ?_
     rw [formD_none hn0 (by rw [← hq, ← hB]; omega)]
     exact ⟨.inr ⟨rfl, rfl⟩, hch⟩
    ·
     try simp only [qs] at hc5
     refine CW.skip ?_
     refine kh18 _ _ _ ?_
     refine Sq fun _ kh23 _ kr24 => ?_
     refine Mv rfl rfl ?_
     refine Mv rfl rfl ?_
     refine Mv rfl rfl ?_
     refine Mv rfl rfl ?_
     first | refine WL.ev (Ev.addIn rfl rfl (by omega)) rfl ?_ | refine WL.ev (Ev.add rfl rfl) rfl ?_
     refine WL.ev (Ev.build (vs := _) (cs := [_, _, _]) rfl rfl) rfl ?_
     refine WL.storeB rfl rfl rfl ao hb6 (by simp) rfl fun ws4 hb6_ hcs4 => ?_
     try simp only [Sx.splice, qt] at hb6_
     have hch := hch.s1 hcs4
     have hN1 := hN1.keepBK hb6 hcs4 an
     have hN2 := hN2.keepBK hb6 hcs4 an
     have hb6 := hb6_
     refine As rfl rfl ?_
     refine WL.nil (kr24 _ _ _ (kh23 _ _ _ ?_))
     refine CW.ret ?_
     refine bodyA.retR2 rfl (RVal.cell rfl (hb6.varA rfl rfl)) (RVal.tmp rfl) ?_
     rw [formD_some hn0 (by rw [← hq, ← hB]; omega), ← hq]
     refine ⟨.inl ⟨_, _, rfl, rfl, ?_⟩, hch⟩
     simp only
     rw [← hB]
     exact hN2

set_option maxRecDepth 8000 in
set_option maxHeartbeats 1000000 in
theorem r3Made_spec (na : Bool) (va : Value) (la : List Nat) (ea : Int) (w : World) (ha : NU w va la) (hea : -9223372036854775808 ≤ ea ∧ ea ≤ 9223372036854775807) (hla : la.length ≤ 34359738368) : Ret Tryz.prog 37 [.agg [.bool na, va, .int .i64 ea].toArray] w fun u w' => FO w' u (formD na (val la) ea) ∧ Chg [] w w' := by
 have hch : Chg [] w w := Chg.refl _ _
 have hoa := ha.one
 refine Ret.enter Tryz.func37 rfl rfl ?_
 simp only [args0, Nat.zero_add, Nat.reduceAdd]
 refine Sq fun _ kh1 _ kr2 => ?_
 refine WL.boxB rfl rfl rfl fun b1 wm1 hb1 hcm1 hge1 => ?_
 have hgehch1 := Nat.le_trans hch.size hge1
 have hch := hch.trans (Chg.any hcm1)
 have ha := ha.keep0 hcm1
 refine WL.allocB (l := [.bool false, .slice none 0 0, .int .i64 0]) rfl rfl fun b2 wm2 hb2 hcm2 hge2 => ?_
 have hgehch2 := Nat.le_trans hch.size hge2
 have hch := hch.trans (Chg.any hcm2)
 have ha := ha.keep0 hcm2
 have hneb12 : b1 ≠ b2 := by have := hb1.lt; omega
 have hb1 := hb1.keep0 hcm2
 refine As rfl rfl ?_
 refine WL.nil (kr2 _ _ _ (kh1 _ _ _ ?_))
 refine Sq fun _ kh3 _ kr4 => ?_
 refine WL.ev (Ev.fieldAddr rfl) rfl ?_
 refine WL.ev (Ev.load rfl rfl (hb1.at_ rfl)) rfl ?_
 refine WL.ev (Ev.fieldAddr rfl) rfl ?_
 refine WL.ev (Ev.load rfl rfl (hb1.at_ rfl)) rfl ?_
 refine WL.ev (Ev.fieldAddr rfl) rfl ?_
 refine WL.ev (Ev.load rfl rfl (hb1.at_ rfl)) rfl ?_
 refine WL.call hasF80 rfl rfl (r3Form_spec na va la ea _ ha hea hla) fun v w1 h' => ?_
 obtain ⟨hD1, hC1⟩ := h'
 have hch := hch.trans (Chg.any hC1)
 have hb1 := hb1.keep0 hC1
 have hb2 := hb2.keep0 hC1
 have ha := ha.keep0 hC1
 rcases hD1 with ⟨r1, d1, hd1, rfl, hNr1⟩ | ⟨hd1, rfl⟩
 ·
  refine WL.ev (Ev.extract rfl rfl) rfl ?_
  refine WL.ev (Ev.extract rfl rfl) rfl ?_
  refine WL.storeB rfl rfl rfl ao hb2 (by simp) rfl fun ws9 hb2_ hcs9 => ?_
  try simp only [Sx.splice, qt] at hb2_
  have hch := hch.s1 hcs9
  have hb1 := hb1.keep hcs9 (by simp; omega)
  have ha := ha.keepBK hb2 hcs9 an
  have hNr1 := hNr1.keepBK hb2 hcs9 an
  have hb2 := hb2_
  refine As rfl rfl ?_
  refine WL.nil (kr4 _ _ _ (kh3 _ _ _ ?_))
  refine CW.ret ?_
  refine bodyA.retR2 rfl (RVal.cell rfl (hb2.varA rfl rfl)) (RVal.tmp rfl) ?_
  exact ⟨.inl ⟨r1, d1, hd1, rfl, hNr1⟩, hch⟩
 ·
  refine WL.ev (Ev.extract rfl rfl) rfl ?_
  refine WL.ev (Ev.extract rfl rfl) rfl ?_
  refine WL.storeB rfl rfl rfl ao hb2 (by simp) rfl fun ws10 hb2_ hcs10 => ?_
  try simp only [Sx.splice, qt] at hb2_
  have hch := hch.s1 hcs10
  have hb1 := hb1.keep hcs10 (by simp; omega)
  have ha := ha.keepBK hb2 hcs10 an
  have hb2 := hb2_
  refine As rfl rfl ?_
  refine WL.nil (kr4 _ _ _ (kh3 _ _ _ ?_))
  refine CW.ret ?_
  refine bodyA.retR2 rfl (RVal.cell rfl (hb2.varA rfl rfl)) (RVal.tmp rfl) ?_
  exact ⟨.inr ⟨hd1, rfl⟩, hch⟩

theorem r3Of64_spec (w : World) : Ret Tryz.prog 82 [] w fun u w' => u = .agg [.int .i64 53, .int .i64 (-1074), .int .u64 9218868437227405312].toArray ∧ Chg [] w w' := by
 have hch : Chg [] w w := Chg.refl _ _
 refine Ret.enter Tryz.func82 rfl rfl ?_
 simp only [args0, Nat.zero_add, Nat.reduceAdd]
 refine Sq fun _ kh1 _ kr2 => ?_
 refine WL.allocB (l := [.int .i64 0, .int .i64 0, .int .u64 0]) rfl rfl fun b0 wm0 hb0 hcm0 hge0 => ?_
 have hgehch0 := Nat.le_trans hch.size hge0
 have hch := hch.trans (Chg.any hcm0)
 refine WL.nil (kr2 _ _ _ (kh1 _ _ _ ?_))
 refine Sq fun _ kh3 _ kr4 => ?_
 refine WL.ev (Ev.build (vs := _) (cs := [_, _, _]) rfl rfl) rfl ?_
 refine WL.storeB rfl rfl rfl ao hb0 (by simp) rfl fun ws11 hb0_ hcs11 => ?_
 try simp only [Sx.splice, qt] at hb0_
 have hch := hch.s1 hcs11
 have hb0 := hb0_
 refine WL.nil (kr4 _ _ _ (kh3 _ _ _ ?_))
 refine CW.ret ?_
 refine bodyA.retR1 rfl (RVal.cell rfl (hb0.varA rfl rfl)) ?_
 exact ⟨rfl, hch⟩

end Go.Proofs.YtphnpchmdpjabaaGreatDoor

/- Reference of layer 3: Number, Bits, Of, Int, Neg, Sign. No condition. -/
namespace Go.Proofs.YtphnpchmdpjabaaGreatDoor
open Go Sx Wd

/-- The k-th number: a whole number, and its power of two. -/
def numM (k : Nat) : Nat := if k / 4503599627370496 = 0 then k % 4503599627370496 else 4503599627370496 + k % 4503599627370496
def numE (k : Nat) : Int := if k / 4503599627370496 = 0 then -1074 else -1074 + ((k / 4503599627370496 : Nat) : Int) - 1
theorem numM_lt (k : Nat) : numM k < 9007199254740992 := by unfold numM; split <;> omega
theorem numE_le (k : Nat) (h : k < 18446744073709551616) : -1074 ≤ numE k ∧ numE k ≤ 3100 := by unfold numE; split <;> omega
set_option maxRecDepth 8000 in
set_option maxHeartbeats 1000000 in
theorem r3Number_spec (k : Nat) (w : World) (hk : k < 18446744073709551616) : Ret Tryz.prog 168 [.agg [.int .i64 53, .int .i64 (-1074), .int .u64 9218868437227405312].toArray, .int .u64 (k : Int)] w fun u w' => (∃ r, u = .tuple [r, .int .i64 (numE k)].toArray ∧ NU w' r (wd (numM k))) ∧ Chg [] w w' := by
 have hch : Chg [] w w := Chg.refl _ _
 refine Ret.enter Tryz.func168 rfl rfl ?_
 simp only [args0, Nat.zero_add, Nat.reduceAdd]
 refine Sq fun _ kh1 _ kr2 => ?_
 refine WL.boxB rfl rfl rfl fun b2 wm2 hb2 hcm2 hge2 => ?_
 have hgehch2 := Nat.le_trans hch.size hge2
 have hch := hch.trans (Chg.any hcm2)
 refine As rfl rfl ?_
 refine As rfl rfl ?_
 refine WL.nil (kr2 _ _ _ (kh1 _ _ _ ?_))
 refine Sq fun _ kh3 _ kr4 => ?_
 refine WL.ev (Ev.fieldAddr rfl) rfl ?_
 refine WL.ev (Ev.load rfl rfl (hb2.at_ rfl)) rfl ?_
 refine WL.ev (Ev.subIn rfl rfl (by omega)) rfl ?_
 rw [show (53 : Int) - 1 = ((52 : Nat) : Int) by omega]
 refine WL.ev (Ev.convIn rfl rfl (in_u64 (by omega))) rfl ?_
 refine WL.ev (Ev.shlU64 (a := 1) (b := 52) rfl rfl) rfl ?_
 rw [show 1 * 2 ^ 52 % 18446744073709551616 = 4503599627370496 from rfl]
 refine As rfl rfl ?_
 refine WL.nil (kr4 _ _ _ (kh3 _ _ _ ?_))
 refine Sq fun _ kh5 _ kr6 => ?_
 refine Mv rfl rfl ?_
 refine Mv rfl rfl ?_
 refine WL.ev (Ev.quoU (b := 4503599627370496) rfl rfl (by omega) (in_u64 (by omega)).2) rfl ?_
 refine As rfl rfl ?_
 refine WL.nil (kr6 _ _ _ (kh5 _ _ _ ?_))
 refine Sq fun _ kh7 _ kr8 => ?_
 refine Mv rfl rfl ?_
 refine Mv rfl rfl ?_
 refine WL.ev (Ev.remU (b := 4503599627370496) rfl rfl (by omega)) rfl ?_
 refine As rfl rfl ?_
 refine WL.nil (kr8 _ _ _ (kh7 _ _ _ ?_))
 refine CW.seq fun _ kh9 => ?_
 refine Sq fun _ kh10 _ kr11 => ?_
 refine Mv rfl rfl ?_
 refine WL.ev (Ev.eql rfl rfl) rfl ?_
 refine WL.nil (kr11 _ _ _ (kh10 _ _ _ ?_))
 refine CW.cond rfl (fun hc1 => ?_) (fun hc1 => ?_)
 ·
  try simp only [qs] at hc1
  have hz : k / 4503599627370496 = 0 := by omega
  have e1 : numM k = k % 4503599627370496 := by unfold numM; rw [if_pos hz]
  have e2 : numE k = -1074 := by unfold numE; rw [if_pos hz]
  refine CW.seq fun _ kh12 => ?_
  refine CW.regionHC 6 rfl hmix fun kR13 kr13 hS hdr => ?_
  have hch := hch.trans (Chg.any hdr)
  have hb2 := hb2.keep0 hdr
  have hch_r := hch
  have hb2_r := hb2
  refine WH.take 0 rfl (by kernel_rfl) (by kernel_rfl) (by kernel_rfl) hS (fun w' hw' => Ev.move rfl) rfl ?_
  refine WH.take 2 rfl (by kernel_rfl) (by kernel_rfl) (by kernel_rfl) hS (fun w' hw' => Ev.fieldAddr rfl) rfl ?_
  refine WH.take 3 rfl (by kernel_rfl) (by kernel_rfl) (by kernel_rfl) hS (fun w' hw' => Ev.load rfl rfl ((hb2_r.keep0 hw').at_ rfl)) rfl ?_
  refine WH.oneCall 1 rfl (by kernel_rfl) hasF84 rfl rfl (r2Of_spec (k % 4503599627370496) _ (by omega)) fun v w1 h' => ?_
  obtain ⟨hN, hC, hF⟩ := h'
  rw [← e1] at hN
  have hch := hch.trans (Chg.any hC)
  have hb2 := hb2.keep0 hC
  have hS := hS.trans hC
  refine ⟨hS, ?_⟩
  refine WH.take 4 rfl (by kernel_rfl) (by kernel_rfl) (by kernel_rfl) hS (fun w' hw' => Ev.assign rfl) rfl ?_
  refine WH.take 5 rfl (by kernel_rfl) (by kernel_rfl) (by kernel_rfl) hS (fun w' hw' => Ev.assign rfl) rfl ?_
  refine WH.done (by kernel_rfl) (kr13 _ _ _ ?_)
  refine kh12 _ _ _ ?_
  refine CW.ret ?_
  refine bodyA.ret2 rfl rfl rfl ?_
  rw [e2]
  exact ⟨⟨_, rfl, hN⟩, hch⟩
 ·
  try simp only [qs] at hc1
  have hz : k / 4503599627370496 ≠ 0 := by omega
  have e1 : numM k = 4503599627370496 + k % 4503599627370496 := by unfold numM; rw [if_neg hz]
  have e2 : numE k = -1074 + ((k / 4503599627370496 : Nat) : Int) - 1 := by unfold numE; rw [if_neg hz]
  refine CW.skip ?_
  refine kh9 _ _ _ ?_
  refine CW.seq fun _ kh14 => ?_
  refine CW.regionHC 12 rfl hmix fun kR15 kr15 hS hdr => ?_
  have hch := hch.trans (Chg.any hdr)
  have hb2 := hb2.keep0 hdr
  have hch_r := hch
  have hb2_r := hb2
  refine WH.take 0 rfl (by kernel_rfl) (by kernel_rfl) (by kernel_rfl) hS (fun w' hw' => Ev.move rfl) rfl ?_
  refine WH.take 1 rfl (by kernel_rfl) (by kernel_rfl) (by kernel_rfl) hS (fun w' hw' => Ev.move rfl) rfl ?_
  refine WH.take 2 rfl (by kernel_rfl) (by kernel_rfl) (by kernel_rfl) hS (fun w' hw' => Ev.add64In rfl rfl (by omega)) rfl ?_
  refine WH.take 4 rfl (by kernel_rfl) (by kernel_rfl) (by kernel_rfl) hS (fun w' hw' => Ev.fieldAddr rfl) rfl ?_
  refine WH.take 5 rfl (by kernel_rfl) (by kernel_rfl) (by kernel_rfl) hS (fun w' hw' => Ev.load rfl rfl ((hb2_r.keep0 hw').at_ rfl)) rfl ?_
  refine WH.take 6 rfl (by kernel_rfl) (by kernel_rfl) (by kernel_rfl) hS (fun w' hw' => Ev.move rfl) rfl ?_
  refine WH.take 7 rfl (by kernel_rfl) (by kernel_rfl) (by kernel_rfl) hS (fun w' hw' => Ev.convIn rfl rfl (in_i64 (by omega))) rfl ?_
  refine WH.take 8 rfl (by kernel_rfl) (by kernel_rfl) (by kernel_rfl) hS (fun w' hw' => Ev.addIn rfl rfl (by omega)) rfl ?_
  refine WH.take 9 rfl (by kernel_rfl) (by kernel_rfl) (by kernel_rfl) hS (fun w' hw' => Ev.subIn rfl rfl (by omega)) rfl ?_
  refine WH.oneCall 3 rfl (by kernel_rfl) hasF84 rfl rfl (r2Of_spec (4503599627370496 + k % 4503599627370496) _ (by omega)) fun v w2 h' => ?_
  obtain ⟨hN, hC, hF⟩ := h'
  rw [← e1] at hN
  have hch := hch.trans (Chg.any hC)
  have hb2 := hb2.keep0 hC
  have hS := hS.trans hC
  refine ⟨hS, ?_⟩
  refine WH.take 10 rfl (by kernel_rfl) (by kernel_rfl) (by kernel_rfl) hS (fun w' hw' => Ev.assign rfl) rfl ?_
  refine WH.take 11 rfl (by kernel_rfl) (by kernel_rfl) (by kernel_rfl) hS (fun w' hw' => Ev.assign rfl) rfl ?_
  refine WH.done (by kernel_rfl) (kr15 _ _ _ ?_)
  refine kh14 _ _ _ ?_
  refine CW.ret ?_
  refine bodyA.ret2 rfl rfl rfl ?_
  rw [e2]
  exact ⟨⟨_, rfl, hN⟩, hch⟩

set_option maxRecDepth 8000 in
set_option maxHeartbeats 1000000 in
theorem r3Int_spec (n : Int) (w : World) (hn : -9223372036854775808 ≤ n ∧ n ≤ 9223372036854775807) : Ret Tryz.prog 39 [.int .i64 n] w fun u w' => DY w' u (intD n) ∧ Chg [] w w' := by
 have hch : Chg [] w w := Chg.refl _ _
 refine Ret.enter Tryz.func39 rfl rfl ?_
 simp only [args0, Nat.zero_add, Nat.reduceAdd]
 refine Sq fun _ kh1 _ kr2 => ?_
 refine WL.allocB (l := [.bool false, .slice none 0 0, .int .i64 0]) rfl rfl fun b2 wm2 hb2 hcm2 hge2 => ?_
 have hgehch2 := Nat.le_trans hch.size hge2
 have hch := hch.trans (Chg.any hcm2)
 refine WL.nil (kr2 _ _ _ (kh1 _ _ _ ?_))
 refine Sq fun _ kh3 _ kr4 => ?_
 refine Mv rfl rfl ?_
 refine WL.ev (Ev.conv rfl rfl) rfl ?_
 rw [wrap_u64i]
 refine As rfl rfl ?_
 refine WL.nil (kr4 _ _ _ (kh3 _ _ _ ?_))
 refine CW.seq fun _ kh5 => ?_
 refine Sq fun _ kh6 _ kr7 => ?_
 refine Mv rfl rfl ?_
 refine WL.ev (Ev.lss rfl rfl) rfl ?_
 refine WL.nil (kr7 _ _ _ (kh6 _ _ _ ?_))
 refine CW.cond rfl (fun hc1 => ?_) (fun hc1 => ?_)
 ·
  try simp only [qs] at hc1
  refine CW.region fun kR8 kr8 => ?_
  refine Mv rfl rfl ?_
  refine WL.ev (Ev.sub rfl rfl) rfl ?_
  rw [wrap_u64i, show (0 - n % 18446744073709551616) % 18446744073709551616 = ((n.natAbs : Nat) : Int) by omega]
  have hab : n.natAbs = n.natAbs := rfl
  refine As rfl rfl ?_
  refine WL.nil (kr8 _ _ _ (kh5 _ _ _ ?_))
  refine Sq fun _ kh9 _ kr10 => ?_
  refine Mv rfl rfl ?_
  refine WL.ev (Ev.lss rfl rfl) rfl ?_
  refine Mv rfl rfl ?_
  refine WL.call hasF84 rfl rfl (r2Of_spec n.natAbs _ (by omega)) fun v w1 h' => ?_
  obtain ⟨hN16, hC16, hF16⟩ := h'
  have hch := hch.trans (Chg.any hC16)
  have hb2 := hb2.keep0 hC16
  refine WL.call hasF80 rfl rfl (r3Form_spec _ _ _ 0 _ hN16 (by omega) (by have := wd_length_le (n := n.natAbs) (k := 2); have := this.2 (by omega); omega)) fun v w2 h' => ?_
  obtain ⟨hD, hC17⟩ := h'
  rw [val_wd, hab, intD_eq (by omega)] at hD
  rcases hD with ⟨r, d, hd, rfl, hNr⟩ | ⟨hd, rfl⟩
  rotate_left
  · cases hd
  cases hd
  have hch := hch.trans (Chg.any hC17)
  have hb2 := hb2.keep0 hC17
  have hN16 := hN16.keep0 hC17
  refine Mv rfl rfl ?_
  refine WL.ev (Ev.extract rfl rfl) rfl ?_
  refine WL.ev (Ev.extract rfl rfl) rfl ?_
  refine WL.allocB (l := [.bool false, .slice none 0 0, .int .i64 0]) rfl rfl fun b4 wm4 hb4 hcm4 hge4 => ?_
  have hgehch4 := Nat.le_trans hch.size hge4
  have hch := hch.trans (Chg.any hcm4)
  have hN16 := hN16.keep0 hcm4
  have hNr := hNr.keep0 hcm4
  have hneb24 : b2 ≠ b4 := by have := hb2.lt; omega
  have hb2 := hb2.keep0 hcm4
  refine WL.storeB rfl rfl rfl ao hb4 (by simp) rfl fun ws19 hb4_ hcs19 => ?_
  try simp only [Sx.splice, qt] at hb4_
  have hch := hch.s1 hcs19
  have hb2 := hb2.keep hcs19 (by simp; omega)
  have hN16 := hN16.keepBK hb4 hcs19 an
  have hNr := hNr.keepBK hb4 hcs19 an
  have hb4 := hb4_
  refine As rfl rfl ?_
  refine WL.nil (kr10 _ _ _ (kh9 _ _ _ ?_))
  refine Sq fun _ kh11 _ kr12 => ?_
  refine WL.ev (Ev.loadA rfl rfl hb4 rfl) rfl ?_
  refine WL.storeB rfl rfl rfl ao hb2 (by simp) rfl fun ws20 hb2_ hcs20 => ?_
  try simp only [Sx.splice, qt] at hb2_
  have hch := hch.s1 hcs20
  have hb4 := hb4.keep hcs20 (by simp; omega)
  have hN16 := hN16.keepBK hb2 hcs20 an
  have hNr := hNr.keepBK hb2 hcs20 an
  have hb2 := hb2_
  refine WL.nil (kr12 _ _ _ (kh11 _ _ _ ?_))
  refine CW.ret ?_
  refine bodyA.retR1 rfl (RVal.cell rfl (hb2.varA rfl rfl)) ?_
  exact ⟨⟨⟨_, rfl, hNr⟩⟩, hch⟩
 ·
  try simp only [qs] at hc1
  rw [show n % 18446744073709551616 = ((n.natAbs : Nat) : Int) by omega]
  have hab : n.natAbs = n.natAbs := rfl
  refine CW.skip ?_
  refine kh5 _ _ _ ?_
  refine Sq fun _ kh13 _ kr14 => ?_
  refine Mv rfl rfl ?_
  refine WL.ev (Ev.lss rfl rfl) rfl ?_
  refine Mv rfl rfl ?_
  refine WL.call hasF84 rfl rfl (r2Of_spec n.natAbs _ (by omega)) fun v w3 h' => ?_
  obtain ⟨hN16, hC16, hF16⟩ := h'
  have hch := hch.trans (Chg.any hC16)
  have hb2 := hb2.keep0 hC16
  refine WL.call hasF80 rfl rfl (r3Form_spec _ _ _ 0 _ hN16 (by omega) (by have := wd_length_le (n := n.natAbs) (k := 2); have := this.2 (by omega); omega)) fun v w4 h' => ?_
  obtain ⟨hD, hC17⟩ := h'
  rw [val_wd, hab, intD_eq (by omega)] at hD
  rcases hD with ⟨r, d, hd, rfl, hNr⟩ | ⟨hd, rfl⟩
  rotate_left
  · cases hd
  cases hd
  have hch := hch.trans (Chg.any hC17)
  have hb2 := hb2.keep0 hC17
  have hN16 := hN16.keep0 hC17
  refine Mv rfl rfl ?_
  refine WL.ev (Ev.extract rfl rfl) rfl ?_
  refine WL.ev (Ev.extract rfl rfl) rfl ?_
  refine WL.allocB (l := [.bool false, .slice none 0 0, .int .i64 0]) rfl rfl fun b4 wm4 hb4 hcm4 hge4 => ?_
  have hgehch4 := Nat.le_trans hch.size hge4
  have hch := hch.trans (Chg.any hcm4)
  have hN16 := hN16.keep0 hcm4
  have hNr := hNr.keep0 hcm4
  have hneb24 : b2 ≠ b4 := by have := hb2.lt; omega
  have hb2 := hb2.keep0 hcm4
  refine WL.storeB rfl rfl rfl ao hb4 (by simp) rfl fun ws21 hb4_ hcs21 => ?_
  try simp only [Sx.splice, qt] at hb4_
  have hch := hch.s1 hcs21
  have hb2 := hb2.keep hcs21 (by simp; omega)
  have hN16 := hN16.keepBK hb4 hcs21 an
  have hNr := hNr.keepBK hb4 hcs21 an
  have hb4 := hb4_
  refine As rfl rfl ?_
  refine WL.nil (kr14 _ _ _ (kh13 _ _ _ ?_))
  refine Sq fun _ kh15 _ kr16 => ?_
  refine WL.ev (Ev.loadA rfl rfl hb4 rfl) rfl ?_
  refine WL.storeB rfl rfl rfl ao hb2 (by simp) rfl fun ws22 hb2_ hcs22 => ?_
  try simp only [Sx.splice, qt] at hb2_
  have hch := hch.s1 hcs22
  have hb4 := hb4.keep hcs22 (by simp; omega)
  have hN16 := hN16.keepBK hb2 hcs22 an
  have hNr := hNr.keepBK hb2 hcs22 an
  have hb2 := hb2_
  refine WL.nil (kr16 _ _ _ (kh15 _ _ _ ?_))
  refine CW.ret ?_
  refine bodyA.retR1 rfl (RVal.cell rfl (hb2.varA rfl rfl)) ?_
  exact ⟨⟨⟨_, rfl, hNr⟩⟩, hch⟩

set_option maxRecDepth 8000 in
set_option maxHeartbeats 1000000 in
theorem r3Sign_spec (na : Bool) (va : Value) (la : List Nat) (ea : Int) (w : World) (ha : NU w va la) (hla : la.length ≤ 35184372088832) : Ret Tryz.prog 167 [.agg [.bool na, va, .int .i64 ea].toArray] w fun u w' => u = .int .i64 (sgD na (val la)) ∧ Chg [] w w' := by
 have hch : Chg [] w w := Chg.refl _ _
 have hoa := ha.one
 have hbz := bl_eq_zero (n := val la)
 refine Ret.enter Tryz.func167 rfl rfl ?_
 simp only [args0, Nat.zero_add, Nat.reduceAdd]
 refine Sq fun _ kh1 _ kr2 => ?_
 refine WL.boxB rfl rfl rfl fun b1 wm1 hb1 hcm1 hge1 => ?_
 have hgehch1 := Nat.le_trans hch.size hge1
 have hch := hch.trans (Chg.any hcm1)
 have ha := ha.keep0 hcm1
 refine As rfl rfl ?_
 refine WL.nil (kr2 _ _ _ (kh1 _ _ _ ?_))
 refine CW.seq fun _ kh3 => ?_
 refine Sq fun _ kh4 _ kr5 => ?_
 refine WL.ev (Ev.fieldAddr rfl) rfl ?_
 refine WL.ev (Ev.load rfl rfl (hb1.at_ rfl)) rfl ?_
 refine WL.call hasF182 rfl rfl (r2Len_spec _ _ _ ha hla) fun v w1 h' => ?_
 obtain ⟨rfl, rfl⟩ := h'
 refine WL.ev (Ev.eql rfl rfl) rfl ?_
 refine WL.nil (kr5 _ _ _ (kh4 _ _ _ ?_))
 refine CW.cond rfl (fun hc1 => ?_) (fun hc1 => ?_)
 ·
  try simp only [qs] at hc1
  refine Sq fun _ kh6 _ kr7 => ?_
  refine As rfl rfl ?_
  refine WL.nil (kr7 _ _ _ (kh6 _ _ _ ?_))
  refine CW.ret ?_
  refine bodyA.ret1 rfl rfl ?_
  unfold sgD; rw [if_pos (by omega)]
  exact ⟨rfl, hch⟩
 ·
  try simp only [qs] at hc1
  refine CW.skip ?_
  refine kh3 _ _ _ ?_
  refine CW.seq fun _ kh8 => ?_
  refine Sq fun _ kh9 _ kr10 => ?_
  refine WL.ev (Ev.fieldAddr rfl) rfl ?_
  refine WL.ev (Ev.load rfl rfl (hb1.at_ rfl)) rfl ?_
  refine WL.nil (kr10 _ _ _ (kh9 _ _ _ ?_))
  refine CW.cond rfl (fun hc2 => ?_) (fun hc2 => ?_)
  ·
   try simp only [qs] at hc2
   have hcc := hc2
   refine Sq fun _ kh11 _ kr12 => ?_
   refine As rfl rfl ?_
   refine WL.nil (kr12 _ _ _ (kh11 _ _ _ ?_))
   refine CW.ret ?_
   refine bodyA.ret1 rfl rfl ?_
   unfold sgD; rw [if_neg (show ¬ val la = 0 by omega), if_pos hcc]
   exact ⟨rfl, hch⟩
  ·
   try simp only [qs] at hc2
   have hcc := hc2
   refine CW.skip ?_
   refine kh8 _ _ _ ?_
   refine Sq fun _ kh13 _ kr14 => ?_
   refine As rfl rfl ?_
   refine WL.nil (kr14 _ _ _ (kh13 _ _ _ ?_))
   refine CW.ret ?_
   refine bodyA.ret1 rfl rfl ?_
   unfold sgD; rw [if_neg (show ¬ val la = 0 by omega), if_neg (by rw [hcc]; decide)]
   exact ⟨rfl, hch⟩

end Go.Proofs.YtphnpchmdpjabaaGreatDoor

/- Reference of layer 3: Add, Mul, Against. No condition. -/
namespace Go.Proofs.YtphnpchmdpjabaaGreatDoor
open Go Sx Wd

theorem mul_len {x y a b : Nat} (hx : (wd x).length ≤ a) (hy : (wd y).length ≤ b) : (wd (x * y)).length ≤ a + b := by
  refine wd_length_le.2 ?_
  rw [Nat.mul_add, Nat.pow_add]
  exact Nat.mul_lt_mul_of_lt_of_lt (wd_length_le.1 hx) (wd_length_le.1 hy)
end Go.Proofs.YtphnpchmdpjabaaGreatDoor

/- Reference of layer 3: Against. No condition. -/
namespace Go.Proofs.YtphnpchmdpjabaaGreatDoor
open Go Sx Wd

theorem sgn_neg (a b : Nat) : -(sgn a b) = sgn b a := by unfold sgn; split <;> split <;> (try split) <;> omega
theorem sgn_pos {a b : Nat} (h : b < a) : sgn a b = 1 := by unfold sgn; rw [if_neg (by omega), if_pos h]
theorem sgn_lt {a b : Nat} (h : a < b) : sgn a b = -1 := by unfold sgn; rw [if_pos h]
theorem sgn_mulr {a b : Nat} (h : a = 0 ∨ b = 0) (d : Nat) : sgn (a * 2 ^ d) b = sgn a b := by
  have hp := Nat.two_pow_pos d
  rcases h with h | h
  · rw [h, Nat.zero_mul]
  · subst h
    rcases Nat.eq_zero_or_pos a with h1 | h1
    · rw [h1, Nat.zero_mul]
    · rw [sgn_pos h1, sgn_pos (Nat.mul_pos h1 hp)]
theorem bl_up_gt {m n d : Nat} (hm : m ≠ 0) (h : bl n < bl m + d) : n < m * 2 ^ d := by
  rw [← bl_mul_pow hm] at h
  exact Nat.lt_of_lt_of_le (bl_lt n) (lt_bl.1 h)
theorem bl_up_lt {m n d : Nat} (hm : m ≠ 0) (h : bl m + d < bl n) : m * 2 ^ d < n := by
  rw [← bl_mul_pow hm] at h
  exact Nat.lt_of_lt_of_le (bl_lt _) (lt_bl.1 h)
/-- How m times 2^e stands to n times 2^f. -/
def cmpX (m : Nat) (e : Int) (n : Nat) (f : Int) : Int := sgn (m * 2 ^ (e - min e f).toNat) (n * 2 ^ (f - min e f).toNat)

set_option maxRecDepth 8000 in
set_option maxHeartbeats 1000000 in
theorem r3AgainstGe_spec (va vb : Value) (la lb : List Nat) (e f : Int) (w : World) (ha : NU w va la) (hb : NU w vb lb) (he : -9223372036854775808 ≤ e ∧ e ≤ 9223372036854775807) (hf : -9223372036854775808 ≤ f ∧ f ≤ 9223372036854775807) (hla : la.length ≤ 17179869184) (hlb : lb.length ≤ 17179869184) (hfe : f ≤ e) : Ret Tryz.prog 195 [va, .int .i64 e, vb, .int .i64 f] w fun u w' => u = .int .i64 (sgn (val la * 2 ^ (e - f).toNat) (val lb)) ∧ Chg [] w w' := by
 obtain ⟨d, hd⟩ : ∃ d : Nat, (d : Int) = e - f := ⟨(e - f).toNat, by omega⟩
 rw [show (e - f).toNat = d by omega]
 have ha0 := ha
 have hb0 := hb
 have hba := bl_le.2 (val_lt ha.hw)
 have hbb := bl_le.2 (val_lt hb.hw)
 have hza := bl_eq_zero (n := val la)
 have hzb := bl_eq_zero (n := val lb)
 obtain ⟨i, hi⟩ : ∃ i, i = bl (val la) := ⟨_, rfl⟩
 obtain ⟨k, hk⟩ : ∃ k, k = bl (val lb) := ⟨_, rfl⟩
 rw [← hi] at hba hza
 rw [← hk] at hbb hzb
 have hch : Chg [] w w := Chg.refl _ _
 refine Ret.enter Tryz.func195 rfl rfl ?_
 simp only [args0, Nat.zero_add, Nat.reduceAdd]
 refine Sq fun _ kh1 _ kr2 => ?_
 refine As rfl rfl ?_
 refine WL.nil (kr2 _ _ _ (kh1 _ _ _ ?_))
 refine Sq fun _ kh3 _ kr4 => ?_
 refine Mv rfl rfl ?_
 refine WL.call hasF182 rfl rfl (r2Len_spec _ _ _ (ha.keep0 hch) (by omega)) fun v w1 h' => ?_
 obtain ⟨rfl, rfl⟩ := h'
 rw [← hi]
 refine WL.ev (Ev.convIn rfl rfl (in_u64 (by omega))) rfl ?_
 refine As rfl rfl ?_
 refine WL.nil (kr4 _ _ _ (kh3 _ _ _ ?_))
 refine Sq fun _ kh5 _ kr6 => ?_
 refine Mv rfl rfl ?_
 refine WL.call hasF182 rfl rfl (r2Len_spec _ _ _ (hb.keep0 hch) (by omega)) fun v w2 h' => ?_
 obtain ⟨rfl, rfl⟩ := h'
 rw [← hk]
 refine WL.ev (Ev.convIn rfl rfl (in_u64 (by omega))) rfl ?_
 refine As rfl rfl ?_
 refine WL.nil (kr6 _ _ _ (kh5 _ _ _ ?_))
 refine CW.seq fun _ kh7 => ?_
 refine CW.seqM 23 (decide (i = 0 ∨ k = 0)) ?_ ?_
 ·
  refine CW.region fun kR8 kr8 => ?_
  refine Mv rfl rfl ?_
  refine WL.ev (Ev.eql rfl rfl) rfl ?_
  refine Mv rfl rfl ?_
  refine WL.boolCase (fun hg1 => ?_) (fun hg1 => ?_)
  ·
   try simp only [qs] at hg1
   refine WL.pass rfl rfl rfl rfl rfl ?_
   refine WL.pass rfl rfl rfl rfl rfl ?_
   refine WL.ev (Ev.pickT rfl rfl rfl) rfl ?_
   refine WL.nil (kr8 _ _ _ ?_)
   refine ⟨rfl, rfl, Subs.consB rfl ?_ ?_⟩
   ·
    first | (simp; omega) | (simp_all; done) | (refine decide_eq_decide.2 ?_; omega)
   ·
    first | ((repeat (first | exact Subs.refl | refine Subs.drop1 (by rfl) ?_)); done) | ((repeat (first | exact Subs.nil | refine Subs.cons rfl ?_)); done)
  ·
   try simp only [qs] at hg1
   refine WL.want rfl rfl rfl rfl ?_
   refine Mv rfl rfl ?_
   refine WL.want rfl rfl rfl rfl ?_
   refine WL.ev (Ev.eql rfl rfl) rfl ?_
   refine WL.ev (Ev.pickF rfl rfl rfl) rfl ?_
   refine WL.nil (kr8 _ _ _ ?_)
   refine ⟨rfl, rfl, Subs.consB rfl ?_ ?_⟩
   ·
    first | (simp; omega) | (simp_all; done) | (refine decide_eq_decide.2 ?_; omega)
   ·
    first | ((repeat (first | exact Subs.refl | refine Subs.drop1 (by rfl) ?_)); done) | ((repeat (first | exact Subs.nil | refine Subs.cons rfl ?_)); done)
 ·
  refine CW.cond rfl (fun hc2 => ?_) (fun hc2 => ?_)
  ·
   try simp only [qs] at hc2
   have hz := hc2
   refine Sq fun _ kh9 _ kr10 => ?_
   refine Mv rfl rfl ?_
   refine Mv rfl rfl ?_
   refine WL.call hasF180 rfl rfl (r2Cmp_spec _ _ _ _ _ (ha.keep0 hch) (hb.keep0 hch)) fun v w3 h' => ?_
   obtain ⟨rfl, hC⟩ := h'
   have hch := hch.trans (Chg.any hC)
   refine As rfl rfl ?_
   refine WL.nil (kr10 _ _ _ (kh9 _ _ _ ?_))
   refine CW.ret ?_
   refine bodyA.ret1 rfl rfl ?_
   rw [sgn_mulr (by omega)]
   exact ⟨rfl, hch⟩
  ·
   try simp only [qs] at hc2
   have hz := hc2
   have hm0 : val la ≠ 0 := by omega
   refine CW.skip ?_
   refine kh7 _ _ _ ?_
   refine CW.seq fun _ kh11 => ?_
   refine Sq fun _ kh12 _ kr13 => ?_
   refine Mv rfl rfl ?_
   refine Mv rfl rfl ?_
   refine WL.ev (Ev.lss rfl rfl) rfl ?_
   refine WL.nil (kr13 _ _ _ (kh12 _ _ _ ?_))
   refine CW.cond rfl (fun hc3 => ?_) (fun hc3 => ?_)
   ·
    try simp only [qs] at hc3
    exfalso; omega
   ·
    try simp only [qs] at hc3
    refine CW.skip ?_
    refine kh11 _ _ _ ?_
    refine Sq fun _ kh14 _ kr15 => ?_
    refine Mv rfl rfl ?_
    refine WL.ev (Ev.conv rfl rfl) rfl ?_
    rw [wrap_u64i]
    refine Mv rfl rfl ?_
    refine WL.ev (Ev.conv rfl rfl) rfl ?_
    rw [wrap_u64i]
    refine WL.ev (Ev.sub rfl rfl) rfl ?_
    rw [wrap_u64i, show (e % 18446744073709551616 - f % 18446744073709551616) % 18446744073709551616 = ((d : Nat) : Int) by omega]
    refine As rfl rfl ?_
    refine WL.nil (kr15 _ _ _ (kh14 _ _ _ ?_))
    refine CW.seq fun _ kh16 => ?_
    refine CW.seqM 49 (decide (1099511627776 < d ∨ k < i + d)) ?_ ?_
    ·
     refine CW.region fun kR17 kr17 => ?_
     refine Mv rfl rfl ?_
     refine WL.ev (Ev.gtr rfl rfl) rfl ?_
     refine Mv rfl rfl ?_
     refine WL.boolCase (fun hg4 => ?_) (fun hg4 => ?_)
     ·
      try simp only [qs] at hg4
      refine WL.pass rfl rfl rfl rfl rfl ?_
      refine WL.pass rfl rfl rfl rfl rfl ?_
      refine WL.pass rfl rfl rfl rfl rfl ?_
      refine WL.pass rfl rfl rfl rfl rfl ?_
      refine WL.pass rfl rfl rfl rfl rfl ?_
      refine WL.ev (Ev.pickT rfl rfl rfl) rfl ?_
      refine WL.nil (kr17 _ _ _ ?_)
      refine ⟨rfl, rfl, Subs.consB rfl ?_ ?_⟩
      ·
       first | (simp; omega) | (simp_all; done) | (refine decide_eq_decide.2 ?_; omega)
      ·
       first | ((repeat (first | exact Subs.refl | refine Subs.drop1 (by rfl) ?_)); done) | ((repeat (first | exact Subs.nil | refine Subs.cons rfl ?_)); done)
     ·
      try simp only [qs] at hg4
      refine WL.want rfl rfl rfl rfl ?_
      refine Mv rfl rfl ?_
      refine WL.want rfl rfl rfl rfl ?_
      refine Mv rfl rfl ?_
      refine WL.want rfl rfl rfl rfl ?_
      first | refine WL.ev (Ev.add64In rfl rfl (by omega)) rfl ?_ | refine WL.ev (Ev.add64 rfl rfl) rfl ?_
      refine WL.want rfl rfl rfl rfl ?_
      refine Mv rfl rfl ?_
      refine WL.want rfl rfl rfl rfl ?_
      refine WL.ev (Ev.gtr rfl rfl) rfl ?_
      refine WL.ev (Ev.pickF rfl rfl rfl) rfl ?_
      refine WL.nil (kr17 _ _ _ ?_)
      refine ⟨rfl, rfl, Subs.consB rfl ?_ ?_⟩
      ·
       first | (simp; omega) | (simp_all; done) | (refine decide_eq_decide.2 ?_; omega)
      ·
       first | ((repeat (first | exact Subs.refl | refine Subs.drop1 (by rfl) ?_)); done) | ((repeat (first | exact Subs.nil | refine Subs.cons rfl ?_)); done)
    ·
     refine CW.cond rfl (fun hc5 => ?_) (fun hc5 => ?_)
     ·
      try simp only [qs] at hc5
      have hz := hc5
      refine Sq fun _ kh18 _ kr19 => ?_
      refine As rfl rfl ?_
      refine WL.nil (kr19 _ _ _ (kh18 _ _ _ ?_))
      refine CW.ret ?_
      refine bodyA.ret1 rfl rfl ?_
      rw [sgn_pos (bl_up_gt hm0 (by omega))]
      exact ⟨rfl, hch⟩
     ·
      try simp only [qs] at hc5
      refine CW.skip ?_
      refine kh16 _ _ _ ?_
      refine CW.seq fun _ kh20 => ?_
      refine Sq fun _ kh21 _ kr22 => ?_
      refine Mv rfl rfl ?_
      refine Mv rfl rfl ?_
      first | refine WL.ev (Ev.add64In rfl rfl (by omega)) rfl ?_ | refine WL.ev (Ev.add64 rfl rfl) rfl ?_
      refine Mv rfl rfl ?_
      refine WL.ev (Ev.lss rfl rfl) rfl ?_
      refine WL.nil (kr22 _ _ _ (kh21 _ _ _ ?_))
      refine CW.cond rfl (fun hc6 => ?_) (fun hc6 => ?_)
      ·
       try simp only [qs] at hc6
       have hz2 := hc6
       refine Sq fun _ kh23 _ kr24 => ?_
       refine As rfl rfl ?_
       refine WL.nil (kr24 _ _ _ (kh23 _ _ _ ?_))
       refine CW.ret ?_
       refine bodyA.ret1 rfl rfl ?_
       rw [sgn_lt (bl_up_lt hm0 (by omega))]
       exact ⟨rfl, hch⟩
      ·
       try simp only [qs] at hc6
       refine CW.skip ?_
       refine kh20 _ _ _ ?_
       refine Sq fun _ kh25 _ kr26 => ?_
       refine Mv rfl rfl ?_
       refine Mv rfl rfl ?_
       refine WL.ev (Ev.convIn rfl rfl (in_i64 (by omega))) rfl ?_
       refine WL.call hasF126 rfl rfl (r2MovedUp_spec _ _ _ (ha.keep0 hch) d (by omega) (by omega)) fun v w4 h' => ?_
       obtain ⟨hNm, hC, hFm⟩ := h'
       have hch := hch.trans (Chg.any hC)
       refine Mv rfl rfl ?_
       refine WL.call hasF180 rfl rfl (r2Cmp_spec _ _ _ _ _ hNm (hb.keep0 hch)) fun v w5 h' => ?_
       obtain ⟨rfl, hC⟩ := h'
       rw [val_wd]
       have hch := hch.trans (Chg.any hC)
       have hNm := hNm.keep0 hC
       refine As rfl rfl ?_
       refine WL.nil (kr26 _ _ _ (kh25 _ _ _ ?_))
       refine CW.ret ?_
       refine bodyA.ret1 rfl rfl ?_
       exact ⟨rfl, hch⟩

set_option maxRecDepth 8000 in
set_option maxHeartbeats 1000000 in
theorem r3AgainstLt_spec (va vb : Value) (la lb : List Nat) (e f : Int) (w : World) (ha : NU w va la) (hb : NU w vb lb) (he : -9223372036854775808 ≤ e ∧ e ≤ 9223372036854775807) (hf : -9223372036854775808 ≤ f ∧ f ≤ 9223372036854775807) (hla : la.length ≤ 17179869184) (hlb : lb.length ≤ 17179869184) (hef : e < f) : Ret Tryz.prog 195 [va, .int .i64 e, vb, .int .i64 f] w fun u w' => u = .int .i64 (sgn (val la) (val lb * 2 ^ (f - e).toNat)) ∧ Chg [] w w' := by
 have ha0 := ha
 have hb0 := hb
 have hba := bl_le.2 (val_lt ha.hw)
 have hbb := bl_le.2 (val_lt hb.hw)
 have hza := bl_eq_zero (n := val la)
 have hzb := bl_eq_zero (n := val lb)
 obtain ⟨i, hi⟩ : ∃ i, i = bl (val la) := ⟨_, rfl⟩
 obtain ⟨k, hk⟩ : ∃ k, k = bl (val lb) := ⟨_, rfl⟩
 rw [← hi] at hba hza
 rw [← hk] at hbb hzb
 have hch : Chg [] w w := Chg.refl _ _
 refine Ret.enter Tryz.func195 rfl rfl ?_
 simp only [args0, Nat.zero_add, Nat.reduceAdd]
 refine Sq fun _ kh1 _ kr2 => ?_
 refine As rfl rfl ?_
 refine WL.nil (kr2 _ _ _ (kh1 _ _ _ ?_))
 refine Sq fun _ kh3 _ kr4 => ?_
 refine Mv rfl rfl ?_
 refine WL.call hasF182 rfl rfl (r2Len_spec _ _ _ (ha.keep0 hch) (by omega)) fun v w1 h' => ?_
 obtain ⟨rfl, rfl⟩ := h'
 rw [← hi]
 refine WL.ev (Ev.convIn rfl rfl (in_u64 (by omega))) rfl ?_
 refine As rfl rfl ?_
 refine WL.nil (kr4 _ _ _ (kh3 _ _ _ ?_))
 refine Sq fun _ kh5 _ kr6 => ?_
 refine Mv rfl rfl ?_
 refine WL.call hasF182 rfl rfl (r2Len_spec _ _ _ (hb.keep0 hch) (by omega)) fun v w2 h' => ?_
 obtain ⟨rfl, rfl⟩ := h'
 rw [← hk]
 refine WL.ev (Ev.convIn rfl rfl (in_u64 (by omega))) rfl ?_
 refine As rfl rfl ?_
 refine WL.nil (kr6 _ _ _ (kh5 _ _ _ ?_))
 refine CW.seq fun _ kh7 => ?_
 refine CW.seqM 23 (decide (i = 0 ∨ k = 0)) ?_ ?_
 ·
  refine CW.region fun kR8 kr8 => ?_
  refine Mv rfl rfl ?_
  refine WL.ev (Ev.eql rfl rfl) rfl ?_
  refine Mv rfl rfl ?_
  refine WL.boolCase (fun hg1 => ?_) (fun hg1 => ?_)
  ·
   try simp only [qs] at hg1
   refine WL.pass rfl rfl rfl rfl rfl ?_
   refine WL.pass rfl rfl rfl rfl rfl ?_
   refine WL.ev (Ev.pickT rfl rfl rfl) rfl ?_
   refine WL.nil (kr8 _ _ _ ?_)
   refine ⟨rfl, rfl, Subs.consB rfl ?_ ?_⟩
   ·
    first | (simp; omega) | (simp_all; done) | (refine decide_eq_decide.2 ?_; omega)
   ·
    first | ((repeat (first | exact Subs.refl | refine Subs.drop1 (by rfl) ?_)); done) | ((repeat (first | exact Subs.nil | refine Subs.cons rfl ?_)); done)
  ·
   try simp only [qs] at hg1
   refine WL.want rfl rfl rfl rfl ?_
   refine Mv rfl rfl ?_
   refine WL.want rfl rfl rfl rfl ?_
   refine WL.ev (Ev.eql rfl rfl) rfl ?_
   refine WL.ev (Ev.pickF rfl rfl rfl) rfl ?_
   refine WL.nil (kr8 _ _ _ ?_)
   refine ⟨rfl, rfl, Subs.consB rfl ?_ ?_⟩
   ·
    first | (simp; omega) | (simp_all; done) | (refine decide_eq_decide.2 ?_; omega)
   ·
    first | ((repeat (first | exact Subs.refl | refine Subs.drop1 (by rfl) ?_)); done) | ((repeat (first | exact Subs.nil | refine Subs.cons rfl ?_)); done)
 ·
  refine CW.cond rfl (fun hc2 => ?_) (fun hc2 => ?_)
  ·
   try simp only [qs] at hc2
   have hz := hc2
   refine Sq fun _ kh9 _ kr10 => ?_
   refine Mv rfl rfl ?_
   refine Mv rfl rfl ?_
   refine WL.call hasF180 rfl rfl (r2Cmp_spec _ _ _ _ _ (ha.keep0 hch) (hb.keep0 hch)) fun v w3 h' => ?_
   obtain ⟨rfl, hC⟩ := h'
   have hch := hch.trans (Chg.any hC)
   refine As rfl rfl ?_
   refine WL.nil (kr10 _ _ _ (kh9 _ _ _ ?_))
   refine CW.ret ?_
   refine bodyA.ret1 rfl rfl ?_
   rw [← sgn_neg (val lb * 2 ^ (f - e).toNat) (val la), sgn_mulr (by omega), sgn_neg]
   exact ⟨rfl, hch⟩
  ·
   try simp only [qs] at hc2
   refine CW.skip ?_
   refine kh7 _ _ _ ?_
   refine CW.seq fun _ kh11 => ?_
   refine Sq fun _ kh12 _ kr13 => ?_
   refine Mv rfl rfl ?_
   refine Mv rfl rfl ?_
   refine WL.ev (Ev.lss rfl rfl) rfl ?_
   refine WL.nil (kr13 _ _ _ (kh12 _ _ _ ?_))
   refine CW.cond rfl (fun hc3 => ?_) (fun hc3 => ?_)
   ·
    try simp only [qs] at hc3
    refine Sq fun _ kh14 _ kr15 => ?_
    refine Mv rfl rfl ?_
    refine Mv rfl rfl ?_
    refine Mv rfl rfl ?_
    refine Mv rfl rfl ?_
    refine WL.call hasF195 rfl rfl (r3AgainstGe_spec _ _ _ _ f e _ (hb.keep0 hch) (ha.keep0 hch) hf he hlb hla (by omega)) fun v w4 h' => ?_
    obtain ⟨rfl, hC⟩ := h'
    have hch := hch.trans (Chg.any hC)
    refine WL.ev (Ev.negIn rfl (by have := sgn_le (a := val lb * 2 ^ (f - e).toNat) (b := val la); unfold sgn; split <;> (try split) <;> omega)) rfl ?_
    rw [sgn_neg]
    refine As rfl rfl ?_
    refine WL.nil (kr15 _ _ _ (kh14 _ _ _ ?_))
    refine CW.ret ?_
    refine bodyA.ret1 rfl rfl ?_
    exact ⟨rfl, hch⟩
   ·
    try simp only [qs] at hc3
    exfalso; omega

theorem r3Against_spec (va vb : Value) (la lb : List Nat) (e f : Int) (w : World) (ha : NU w va la) (hb : NU w vb lb) (he : -9223372036854775808 ≤ e ∧ e ≤ 9223372036854775807) (hf : -9223372036854775808 ≤ f ∧ f ≤ 9223372036854775807) (hla : la.length ≤ 17179869184) (hlb : lb.length ≤ 17179869184) : Ret Tryz.prog 195 [va, .int .i64 e, vb, .int .i64 f] w fun u w' => u = .int .i64 (cmpX (val la) e (val lb) f) ∧ Chg [] w w' := by
  by_cases h : f ≤ e
  · have := r3AgainstGe_spec va vb la lb e f w ha hb he hf hla hlb h
    unfold cmpX
    rw [show e - min e f = e - f by omega, show (f - min e f).toNat = 0 by omega, Nat.pow_zero, Nat.mul_one]
    exact this
  · have := r3AgainstLt_spec va vb la lb e f w ha hb he hf hla hlb (by omega)
    unfold cmpX
    rw [show f - min e f = f - e by omega, show (e - min e f).toNat = 0 by omega, Nat.pow_zero, Nat.mul_one]
    exact this

end Go.Proofs.YtphnpchmdpjabaaGreatDoor

/- Sums of forms as whole numbers of the lowest unit. No condition. -/
namespace Go.Proofs.YtphnpchmdpjabaaGreatDoor
open Go Sx Wd

/-- Sums that an accumulator may have. -/
def InB (S : Int) : Prop := -((16384 * BB : Nat) : Int) < S ∧ S < (16384 * BB : Nat)
theorem InB.zero : InB 0 := ⟨by have := BB_pos; omega, by have := BB_pos; omega⟩
theorem InB.lt {S : Int} (h : InB S) : S.natAbs < 2 ^ 4238 := by
  obtain ⟨h1, h2⟩ := h
  rw [← BB_pow]; omega
end Go.Proofs.YtphnpchmdpjabaaGreatDoor

/- Reference of layer 7: things, counts, sums. No condition. -/
namespace Go.Proofs.YtphnpchmdpjabaaGreatDoor
open Go Sx Wd

end Go.Proofs.YtphnpchmdpjabaaGreatDoor

/- Reference of layer 7: Whole. No condition. -/
namespace Go.Proofs.YtphnpchmdpjabaaGreatDoor
open Go Sx Wd

end Go.Proofs.YtphnpchmdpjabaaGreatDoor

/- Reference of layer 11: may. No condition. -/
namespace Go.Proofs.YtphnpchmdpjabaaGreatDoor
open Go Sx Wd

set_option maxRecDepth 8000 in
set_option maxHeartbeats 2000000 in
theorem r11may_spec (b : Nat) (nn nd : Bool) (vn vd : Value) (ln ld : List Nat) (en ed : Int) (w : World) (hB : BK w b 73 [.bool nn, vn, .int .i64 en, .bool nd, vd, .int .i64 ed]) (hn : NU w vn ln) (hd : NU w vd ld) (hen : -9223372036854775808 ≤ en ∧ en ≤ 9223372036854775807) (hed : -9223372036854775808 ≤ ed ∧ ed ≤ 9223372036854775807) (hln : ln.length ≤ 34359738368) (hld : ld.length ≤ 34359738368) : Ret Tryz.prog 127 [.slice (some ⟨b, 0, none⟩) 1 1] w fun u w' => FmR w' u (formD nn (val ln) en) (formD nd (val ld) ed) (sgD nd (val ld)) ∧ Chg [] w w' := by
 have hch : Chg [] w w := Chg.refl _ _
 have hB0 := hB
 have hn0 := hn
 have hd0 := hd
 have hon := hn.one
 have hod := hd.one
 refine Ret.enter Tryz.func127 rfl rfl ?_
 simp only [args0, Nat.zero_add, Nat.reduceAdd]
 refine Sq fun _ kh1 _ kr2 => ?_
 refine As rfl rfl ?_
 refine As rfl rfl ?_
 refine WL.nil (kr2 _ _ _ (kh1 _ _ _ ?_))
 refine CW.seq fun _ kh3 => ?_
 refine Sq fun _ kh4 _ kr5 => ?_
 refine As rfl rfl ?_
 refine WL.nil (kr5 _ _ _ (kh4 _ _ _ ?_))
 refine CW.block ?_
 refine CW.loop (S := fun i : Nat => [(0, .slice (some ⟨b, 0, none⟩) 1 1), (4, .int .i64 (i : Int))]) (Inv := KF1 (sgD nd (val ld)) w) (mu := fun i => 1 - i) (0) ?_ ?_ ?_
 ·
  exact ⟨by decide, fun h => (by cases h), hch⟩
 ·
  repeat (first | exact Subs.nil | refine Subs.cons rfl ?_ | refine Subs.consI rfl (by omega) ?_)
 ·
  rintro i wr ⟨hi1, hs1, hch⟩
  have hB := hB0.keep0 hch
  have hn := hn0.keep0 hch
  have hd := hd0.keep0 hch
  refine CW.seq fun _ kh6 => ?_
  refine Sq fun _ kh7 _ kr8 => ?_
  refine Mv rfl rfl ?_
  refine Mv rfl rfl ?_
  refine WL.ev (Ev.len rfl) rfl ?_
  refine WL.ev (Ev.lss rfl rfl) rfl ?_
  refine WL.nil (kr8 _ _ _ (kh7 _ _ _ ?_))
  refine CW.cond rfl (fun hc1 => ?_) (fun hc1 => ?_)
  ·
   try simp only [qs] at hc1
   have hi0 : i = 0 := by omega
   subst hi0
   refine CW.skip ?_
   refine kh6 _ _ _ ?_
   refine CW.seq fun _ kh9 => ?_
   refine CW.block ?_
   refine Sq fun _ kh10 _ kr11 => ?_
   refine Mv rfl rfl ?_
   refine Mv rfl rfl ?_
   refine WL.ev (Ev.indexAddr rfl rfl (by omega) (by omega)) rfl ?_
   rw [show 0 + ((0 : Nat) : Int).toNat * 6 = 0 from rfl]
   refine WL.ev (Ev.fieldAddr rfl) rfl ?_
   refine WL.ev (Ev.loadB rfl rfl hB rfl rfl) rfl ?_
   try simp only [List.drop_succ_cons, List.drop_zero, List.take_succ_cons, List.take_zero]
   refine WL.call hasF167 rfl rfl (r3Sign_spec nd vd ld ed _ hd (by omega)) fun v w1 h' => ?_
   obtain ⟨rfl, hC23⟩ := h'
   have hch := hch.trans (Chg.any hC23)
   have hB := hB.keep0 hC23
   have hn := hn.keep0 hC23
   have hd := hd.keep0 hC23
   refine WL.ev (Ev.lss rfl rfl) rfl ?_
   refine WL.nil (kr11 _ _ _ (kh10 _ _ _ ?_))
   refine CW.cond rfl (fun hc2 => ?_) (fun hc2 => ?_)
   ·
    try simp only [qs] at hc2
    have hs2 : sgD nd (val ld) < 0 := hc2
    refine Sq fun _ kh12 _ kr13 => ?_
    refine As rfl rfl ?_
    refine As rfl rfl ?_
    refine WL.nil (kr13 _ _ _ (kh12 _ _ _ ?_))
    refine CW.ret ?_
    refine bodyA.ret2 rfl rfl rfl ?_
    exact ⟨.inl ⟨hs2, rfl⟩, hch⟩
   ·
    try simp only [qs] at hc2
    have hs2 : 0 ≤ sgD nd (val ld) := by have := hc2; omega
    refine CW.skip ?_
    refine kh9 _ _ _ ?_
    refine CW.region fun kR14 kr14 => ?_
    refine Mv rfl rfl ?_
    first | refine WL.ev (Ev.addIn rfl rfl (by omega)) rfl ?_ | refine WL.ev (Ev.add rfl rfl) rfl ?_
    refine As rfl rfl ?_
    refine WL.nil (kr14 _ _ _ ?_)
    refine ⟨rfl, 1, ?_, ?_, ?_⟩
    ·
     repeat (first | exact Subs.nil | refine Subs.cons rfl ?_ | refine Subs.consI rfl (by omega) ?_)
    ·
     exact ⟨by decide, fun _ => hs2, hch⟩
    ·
     decide
  ·
   try simp only [qs] at hc1
   have hi0 : i = 1 := by omega
   subst hi0
   have hs1 := hs1 rfl
   refine CW.exit ?_
   refine kh3 _ _ _ ?_
   refine Sq fun _ kh15 _ kr16 => ?_
   refine As rfl rfl ?_
   refine WL.nil (kr16 _ _ _ (kh15 _ _ _ ?_))
   refine CW.seq fun _ kh17 => ?_
   refine Sq fun _ kh18 _ kr19 => ?_
   refine As rfl rfl ?_
   refine WL.nil (kr19 _ _ _ (kh18 _ _ _ ?_))
   refine CW.block ?_
   refine CW.loop (S := fun g : Nat × Value => [(0, .slice (some ⟨b, 0, none⟩) 1 1), (5, g.2), (6, .int .i64 (g.1 : Int))]) (Inv := KF2 (formD nn (val ln) en) (formD nd (val ld) ed) w) (mu := fun g => 1 - g.1) ((0, .slice none 0 0)) ?_ ?_ ?_
   ·
    exact ⟨by decide, fun _ => rfl, fun h => (by cases h), hch⟩
   ·
    repeat (first | exact Subs.nil | refine Subs.cons rfl ?_ | refine Subs.consI rfl (by omega) ?_)
   ·
    rintro ⟨i, vo⟩ wr ⟨hi1, hz, ho, hch⟩
    dsimp only at hi1 hz ho hch
    dsimp only
    have hB := hB0.keep0 hch
    have hn := hn0.keep0 hch
    have hd := hd0.keep0 hch
    refine CW.seq fun _ kh20 => ?_
    refine Sq fun _ kh21 _ kr22 => ?_
    refine Mv rfl rfl ?_
    refine Mv rfl rfl ?_
    refine WL.ev (Ev.len rfl) rfl ?_
    refine WL.ev (Ev.lss rfl rfl) rfl ?_
    refine WL.nil (kr22 _ _ _ (kh21 _ _ _ ?_))
    refine CW.cond rfl (fun hc3 => ?_) (fun hc3 => ?_)
    ·
     try simp only [qs] at hc3
     have hi0 : i = 0 := by omega
     subst hi0
     obtain rfl := hz rfl
     refine CW.skip ?_
     refine kh20 _ _ _ ?_
     refine CW.seq fun _ kh23 => ?_
     refine CW.block ?_
     refine Sq fun _ kh24 _ kr25 => ?_
     refine Mv rfl rfl ?_
     refine Mv rfl rfl ?_
     refine WL.ev (Ev.indexAddr rfl rfl (by omega) (by omega)) rfl ?_
     rw [show 0 + ((0 : Nat) : Int).toNat * 6 = 0 from rfl]
     refine WL.ev (Ev.fieldAddr rfl) rfl ?_
     refine WL.ev (Ev.loadB rfl rfl hB rfl rfl) rfl ?_
     try simp only [List.drop_succ_cons, List.drop_zero, List.take_succ_cons, List.take_zero]
     refine WL.call hasF37 rfl rfl (r3Made_spec nn vn ln en _ hn hen hln) fun v w2 h' => ?_
     obtain ⟨hD37, hC37⟩ := h'
     have hch := hch.trans (Chg.any hC37)
     have hB := hB.keep0 hC37
     have hn := hn.keep0 hC37
     have hd := hd.keep0 hC37
     rcases hD37 with ⟨rx, dx, he37, rfl, hNx⟩ | ⟨he37, rfl⟩
     ·
      refine Mv rfl rfl ?_
      refine WL.ev (Ev.extract rfl rfl) rfl ?_
      refine WL.ev (Ev.extract rfl rfl) rfl ?_
      refine WL.allocB (l := [.bool false, .slice none 0 0, .int .i64 0]) rfl rfl fun b7 wm7 hb7 hcm7 hge7 => ?_
      have hgehch7 := Nat.le_trans hch.size hge7
      have hch := hch.trans (Chg.any hcm7)
      have hn := hn.keep0 hcm7
      have hd := hd.keep0 hcm7
      have hNx := hNx.keep0 hcm7
      have hneb7 : b ≠ b7 := by have := hB.lt; omega
      have hB := hB.keep0 hcm7
      refine WL.storeB rfl rfl rfl ao hb7 (by simp) rfl fun ws1 hb7_ hcs1 => ?_
      try simp only [Sx.splice, qt] at hb7_
      have hch := hch.s1 hcs1
      have hB := hB.keep hcs1 (by simp; omega)
      have hn := hn.keepBK hb7 hcs1 an
      have hd := hd.keepBK hb7 hcs1 an
      have hNx := hNx.keepBK hb7 hcs1 an
      have hb7 := hb7_
      refine As rfl rfl ?_
      refine WL.nil (kr25 _ _ _ (kh24 _ _ _ ?_))
      refine Sq fun _ kh26 _ kr27 => ?_
      refine Mv rfl rfl ?_
      refine Mv rfl rfl ?_
      refine WL.ev (Ev.indexAddr rfl rfl (by omega) (by omega)) rfl ?_
      rw [show 0 + ((0 : Nat) : Int).toNat * 6 = 0 from rfl]
      refine WL.ev (Ev.fieldAddr rfl) rfl ?_
      refine WL.ev (Ev.loadB rfl rfl hB rfl rfl) rfl ?_
      try simp only [List.drop_succ_cons, List.drop_zero, List.take_succ_cons, List.take_zero]
      refine WL.call hasF37 rfl rfl (r3Made_spec nd vd ld ed _ hd hed hld) fun v w3 h' => ?_
      obtain ⟨hD46, hC46⟩ := h'
      have hch := hch.trans (Chg.any hC46)
      have hB := hB.keep0 hC46
      have hb7 := hb7.keep0 hC46
      have hn := hn.keep0 hC46
      have hd := hd.keep0 hC46
      have hNx := hNx.keep0 hC46
      rcases hD46 with ⟨ry, dy, he46, rfl, hNy⟩ | ⟨he46, rfl⟩
      ·
       refine Mv rfl rfl ?_
       refine WL.ev (Ev.extract rfl rfl) rfl ?_
       refine WL.ev (Ev.extract rfl rfl) rfl ?_
       refine WL.allocB (l := [.bool false, .slice none 0 0, .int .i64 0]) rfl rfl fun b9 wm9 hb9 hcm9 hge9 => ?_
       have hgehch9 := Nat.le_trans hch.size hge9
       have hch := hch.trans (Chg.any hcm9)
       have hn := hn.keep0 hcm9
       have hd := hd.keep0 hcm9
       have hNx := hNx.keep0 hcm9
       have hNy := hNy.keep0 hcm9
       have hneb9 : b ≠ b9 := by have := hB.lt; omega
       have hB := hB.keep0 hcm9
       have hneb79 : b7 ≠ b9 := by have := hb7.lt; omega
       have hb7 := hb7.keep0 hcm9
       refine WL.storeB rfl rfl rfl ao hb9 (by simp) rfl fun ws2 hb9_ hcs2 => ?_
       try simp only [Sx.splice, qt] at hb9_
       have hch := hch.s1 hcs2
       have hB := hB.keep hcs2 (by simp; omega)
       have hb7 := hb7.keep hcs2 (by simp; omega)
       have hn := hn.keepBK hb9 hcs2 an
       have hd := hd.keepBK hb9 hcs2 an
       have hNx := hNx.keepBK hb9 hcs2 an
       have hNy := hNy.keepBK hb9 hcs2 an
       have hb9 := hb9_
       refine As rfl rfl ?_
       refine WL.nil (kr27 _ _ _ (kh26 _ _ _ ?_))
       refine CW.seq fun _ kh28 => ?_
       refine Sq fun _ kh29 _ kr30 => ?_
       refine Mv rfl rfl ?_
       refine WL.ev (Ev.not rfl) rfl ?_
       refine Mv rfl rfl ?_
       refine WL.want rfl rfl rfl rfl ?_
       refine Mv rfl rfl ?_
       refine WL.want rfl rfl rfl rfl ?_
       refine WL.ev (Ev.not rfl) rfl ?_
       refine WL.ev (Ev.pickF rfl rfl rfl) rfl ?_
       refine WL.nil (kr30 _ _ _ (kh29 _ _ _ ?_))
       refine CW.condF rfl ?_
       refine CW.skip ?_
       refine kh28 _ _ _ ?_
       refine CW.region fun kR31 kr31 => ?_
       refine Mv rfl rfl ?_
       refine WL.ev (Ev.loadA rfl rfl hb7 rfl) rfl ?_
       refine WL.ev (Ev.loadA rfl rfl hb9 rfl) rfl ?_
       refine WL.ev (Ev.build (vs := _) (cs := [_, _, _, _, _, _]) rfl rfl) rfl ?_
       refine WL.buildSlice (m := 1) (cs := [.bool dx.neg, rx, .int .i64 dx.e, .bool dy.neg, ry, .int .i64 dy.e]) (by decide) (by decide) rfl (by kernel_rfl) rfl fun b59 w59 hn59 => ?_
       have hcm59 := hn59.chg
       have hb59 : BK w59 b59 _ [.bool dx.neg, rx, .int .i64 dx.e, .bool dy.neg, ry, .int .i64 dy.e] := hn59.at_
       have hch := hch.trans hcm59
       have hNx := hNx.keep0 hcm59
       have hNy := hNy.keep0 hcm59
       have hrc59 := RC.of_BK hb59
       refine WL.append (news := [.bool dx.neg, rx, .int .i64 dx.e, .bool dy.neg, ry, .int .i64 dy.e]) (xs := []) (m := 0) (by rfl) (by decide) rfl rfl ⟨rfl, .inl ⟨rfl, rfl⟩⟩ rfl hrc59 (by intro v hv; simp only [List.mem_cons, List.not_mem_nil, or_false] at hv; rcases hv with rfl | rfl | rfl | rfl | rfl | rfl <;> first | rfl | exact NU.one (by assumption)) (by decide) (by decide) rfl fun v60 w60 ho60 hc60 hl60 => ?_
       have hc60 : Chg [] w59 w60 := by simpa [Value.ownBlock] using hc60
       have hch := hch.trans hc60
       have hNx := hNx.keep0 hc60
       have hNy := hNy.keep0 hc60
       rcases own_cases ho60 with ⟨_, h0, _⟩ | ⟨g60, cap60, rfl, _, _, hcells⟩
       · cases h0
       have hrc : RC w60 ⟨g60, 0, none⟩ (ratC dx dy rx ry) := fun j v hv => by rw [add_addr, Nat.zero_add]; exact hcells j v hv
       refine As rfl rfl ?_
       refine WL.nil (kr31 _ _ _ (kh23 _ _ _ ?_))
       refine CW.region fun kR32 kr32 => ?_
       refine Mv rfl rfl ?_
       first | refine WL.ev (Ev.addIn rfl rfl (by omega)) rfl ?_ | refine WL.ev (Ev.add rfl rfl) rfl ?_
       refine As rfl rfl ?_
       refine WL.nil (kr32 _ _ _ ?_)
       refine ⟨rfl, (1, .slice (some ⟨g60, 0, none⟩) 1 cap60), ?_, ?_, ?_⟩
       ·
        repeat (first | exact Subs.nil | refine Subs.cons rfl ?_ | refine Subs.consI rfl (by omega) ?_)
       ·
        exact ⟨Nat.le_refl 1, fun h => (by cases h), fun _ => ⟨dx, dy, g60, cap60, rx, ry, he37, he46, rfl, hrc, hNx, hNy⟩, hch⟩
       ·
        show 1 - 1 < 1 - 0; decide
      ·
       refine Mv rfl rfl ?_
       refine WL.ev (Ev.extract rfl rfl) rfl ?_
       refine WL.ev (Ev.extract rfl rfl) rfl ?_
       refine WL.allocB (l := [.bool false, .slice none 0 0, .int .i64 0]) rfl rfl fun b9 wm9 hb9 hcm9 hge9 => ?_
       have hgehch9 := Nat.le_trans hch.size hge9
       have hch := hch.trans (Chg.any hcm9)
       have hNx := hNx.keep0 hcm9
       have hn := hn.keep0 hcm9
       have hd := hd.keep0 hcm9
       have hneb9 : b ≠ b9 := by have := hB.lt; omega
       have hB := hB.keep0 hcm9
       have hneb79 : b7 ≠ b9 := by have := hb7.lt; omega
       have hb7 := hb7.keep0 hcm9
       refine WL.storeB rfl rfl rfl ao hb9 (by simp) rfl fun ws3 hb9_ hcs3 => ?_
       try simp only [Sx.splice, qt] at hb9_
       have hch := hch.s1 hcs3
       have hB := hB.keep hcs3 (by simp; omega)
       have hb7 := hb7.keep hcs3 (by simp; omega)
       have hNx := hNx.keepBK hb9 hcs3 an
       have hn := hn.keepBK hb9 hcs3 an
       have hd := hd.keepBK hb9 hcs3 an
       have hb9 := hb9_
       refine As rfl rfl ?_
       refine WL.nil (kr27 _ _ _ (kh26 _ _ _ ?_))
       refine CW.seq fun _ kh33 => ?_
       refine Sq fun _ kh34 _ kr35 => ?_
       refine Mv rfl rfl ?_
       refine WL.ev (Ev.not rfl) rfl ?_
       refine Mv rfl rfl ?_
       refine WL.want rfl rfl rfl rfl ?_
       refine Mv rfl rfl ?_
       refine WL.want rfl rfl rfl rfl ?_
       refine WL.ev (Ev.not rfl) rfl ?_
       refine WL.ev (Ev.pickF rfl rfl rfl) rfl ?_
       refine WL.nil (kr35 _ _ _ (kh34 _ _ _ ?_))
       refine CW.condT rfl ?_
       refine Sq fun _ kh36 _ kr37 => ?_
       refine As rfl rfl ?_
       refine As rfl rfl ?_
       refine WL.nil (kr37 _ _ _ (kh36 _ _ _ ?_))
       refine CW.ret ?_
       refine bodyA.ret2 rfl rfl rfl ?_
       exact ⟨.inr (.inl ⟨hs1, by first | exact .inl he37 | exact .inr he46, rfl⟩), hch⟩
     ·
      refine Mv rfl rfl ?_
      refine WL.ev (Ev.extract rfl rfl) rfl ?_
      refine WL.ev (Ev.extract rfl rfl) rfl ?_
      refine WL.allocB (l := [.bool false, .slice none 0 0, .int .i64 0]) rfl rfl fun b7 wm7 hb7 hcm7 hge7 => ?_
      have hgehch7 := Nat.le_trans hch.size hge7
      have hch := hch.trans (Chg.any hcm7)
      have hn := hn.keep0 hcm7
      have hd := hd.keep0 hcm7
      have hneb7 : b ≠ b7 := by have := hB.lt; omega
      have hB := hB.keep0 hcm7
      refine WL.storeB rfl rfl rfl ao hb7 (by simp) rfl fun ws4 hb7_ hcs4 => ?_
      try simp only [Sx.splice, qt] at hb7_
      have hch := hch.s1 hcs4
      have hB := hB.keep hcs4 (by simp; omega)
      have hn := hn.keepBK hb7 hcs4 an
      have hd := hd.keepBK hb7 hcs4 an
      have hb7 := hb7_
      refine As rfl rfl ?_
      refine WL.nil (kr25 _ _ _ (kh24 _ _ _ ?_))
      refine Sq fun _ kh38 _ kr39 => ?_
      refine Mv rfl rfl ?_
      refine Mv rfl rfl ?_
      refine WL.ev (Ev.indexAddr rfl rfl (by omega) (by omega)) rfl ?_
      rw [show 0 + ((0 : Nat) : Int).toNat * 6 = 0 from rfl]
      refine WL.ev (Ev.fieldAddr rfl) rfl ?_
      refine WL.ev (Ev.loadB rfl rfl hB rfl rfl) rfl ?_
      try simp only [List.drop_succ_cons, List.drop_zero, List.take_succ_cons, List.take_zero]
      refine WL.call hasF37 rfl rfl (r3Made_spec nd vd ld ed _ hd hed hld) fun v w4 h' => ?_
      obtain ⟨hD46, hC46⟩ := h'
      have hch := hch.trans (Chg.any hC46)
      have hB := hB.keep0 hC46
      have hb7 := hb7.keep0 hC46
      have hn := hn.keep0 hC46
      have hd := hd.keep0 hC46
      rcases hD46 with ⟨ry, dy, he46, rfl, hNy⟩ | ⟨he46, rfl⟩
      ·
       refine Mv rfl rfl ?_
       refine WL.ev (Ev.extract rfl rfl) rfl ?_
       refine WL.ev (Ev.extract rfl rfl) rfl ?_
       refine WL.allocB (l := [.bool false, .slice none 0 0, .int .i64 0]) rfl rfl fun b9 wm9 hb9 hcm9 hge9 => ?_
       have hgehch9 := Nat.le_trans hch.size hge9
       have hch := hch.trans (Chg.any hcm9)
       have hn := hn.keep0 hcm9
       have hd := hd.keep0 hcm9
       have hNy := hNy.keep0 hcm9
       have hneb9 : b ≠ b9 := by have := hB.lt; omega
       have hB := hB.keep0 hcm9
       have hneb79 : b7 ≠ b9 := by have := hb7.lt; omega
       have hb7 := hb7.keep0 hcm9
       refine WL.storeB rfl rfl rfl ao hb9 (by simp) rfl fun ws5 hb9_ hcs5 => ?_
       try simp only [Sx.splice, qt] at hb9_
       have hch := hch.s1 hcs5
       have hB := hB.keep hcs5 (by simp; omega)
       have hb7 := hb7.keep hcs5 (by simp; omega)
       have hn := hn.keepBK hb9 hcs5 an
       have hd := hd.keepBK hb9 hcs5 an
       have hNy := hNy.keepBK hb9 hcs5 an
       have hb9 := hb9_
       refine As rfl rfl ?_
       refine WL.nil (kr39 _ _ _ (kh38 _ _ _ ?_))
       refine CW.seq fun _ kh40 => ?_
       refine Sq fun _ kh41 _ kr42 => ?_
       refine Mv rfl rfl ?_
       refine WL.ev (Ev.not rfl) rfl ?_
       refine Mv rfl rfl ?_
       refine WL.pass rfl rfl rfl rfl rfl ?_
       refine WL.pass rfl rfl rfl rfl rfl ?_
       refine WL.ev (Ev.pickT rfl rfl rfl) rfl ?_
       refine WL.nil (kr42 _ _ _ (kh41 _ _ _ ?_))
       refine CW.condT rfl ?_
       refine Sq fun _ kh43 _ kr44 => ?_
       refine As rfl rfl ?_
       refine As rfl rfl ?_
       refine WL.nil (kr44 _ _ _ (kh43 _ _ _ ?_))
       refine CW.ret ?_
       refine bodyA.ret2 rfl rfl rfl ?_
       exact ⟨.inr (.inl ⟨hs1, by first | exact .inl he37 | exact .inr he46, rfl⟩), hch⟩
      ·
       refine Mv rfl rfl ?_
       refine WL.ev (Ev.extract rfl rfl) rfl ?_
       refine WL.ev (Ev.extract rfl rfl) rfl ?_
       refine WL.allocB (l := [.bool false, .slice none 0 0, .int .i64 0]) rfl rfl fun b9 wm9 hb9 hcm9 hge9 => ?_
       have hgehch9 := Nat.le_trans hch.size hge9
       have hch := hch.trans (Chg.any hcm9)
       have hn := hn.keep0 hcm9
       have hd := hd.keep0 hcm9
       have hneb9 : b ≠ b9 := by have := hB.lt; omega
       have hB := hB.keep0 hcm9
       have hneb79 : b7 ≠ b9 := by have := hb7.lt; omega
       have hb7 := hb7.keep0 hcm9
       refine WL.storeB rfl rfl rfl ao hb9 (by simp) rfl fun ws6 hb9_ hcs6 => ?_
       try simp only [Sx.splice, qt] at hb9_
       have hch := hch.s1 hcs6
       have hB := hB.keep hcs6 (by simp; omega)
       have hb7 := hb7.keep hcs6 (by simp; omega)
       have hn := hn.keepBK hb9 hcs6 an
       have hd := hd.keepBK hb9 hcs6 an
       have hb9 := hb9_
       refine As rfl rfl ?_
       refine WL.nil (kr39 _ _ _ (kh38 _ _ _ ?_))
       refine CW.seq fun _ kh45 => ?_
       refine Sq fun _ kh46 _ kr47 => ?_
       refine Mv rfl rfl ?_
       refine WL.ev (Ev.not rfl) rfl ?_
       refine Mv rfl rfl ?_
       refine WL.pass rfl rfl rfl rfl rfl ?_
       refine WL.pass rfl rfl rfl rfl rfl ?_
       refine WL.ev (Ev.pickT rfl rfl rfl) rfl ?_
       refine WL.nil (kr47 _ _ _ (kh46 _ _ _ ?_))
       refine CW.condT rfl ?_
       refine Sq fun _ kh48 _ kr49 => ?_
       refine As rfl rfl ?_
       refine As rfl rfl ?_
       refine WL.nil (kr49 _ _ _ (kh48 _ _ _ ?_))
       refine CW.ret ?_
       refine bodyA.ret2 rfl rfl rfl ?_
       exact ⟨.inr (.inl ⟨hs1, by first | exact .inl he37 | exact .inr he46, rfl⟩), hch⟩
    ·
     try simp only [qs] at hc3
     have hi0 : i = 1 := by omega
     subst hi0
     obtain ⟨dx, dy, ad, c, rx, ry, hex, hey, rfl, hrc, hNx, hNy⟩ := ho rfl
     refine CW.exit ?_
     refine kh17 _ _ _ ?_
     refine CW.seq fun _ kh50 => ?_
     refine Sq fun _ kh51 _ kr52 => ?_
     refine As rfl rfl ?_
     refine WL.nil (kr52 _ _ _ (kh51 _ _ _ ?_))
     refine CW.block ?_
     refine CW.loop (S := fun i : Nat => [(5, .slice (some ⟨ad, 0, none⟩) 1 c), (11, .int .i64 (i : Int))]) (Inv := KF3 dx dy rx ry ad w) (mu := fun i => 1 - i) (0) ?_ ?_ ?_
     ·
      exact ⟨by decide, fun h => (by cases h), hrc, hNx, hNy, hch⟩
     ·
      repeat (first | exact Subs.nil | refine Subs.cons rfl ?_ | refine Subs.consI rfl (by omega) ?_)
     ·
      rintro i wr ⟨hi1, hz3, hrc, hNx, hNy, hch⟩
      have hrl := hrc.lt (by simp [ratC])
      refine CW.seq fun _ kh53 => ?_
      refine Sq fun _ kh54 _ kr55 => ?_
      refine Mv rfl rfl ?_
      refine Mv rfl rfl ?_
      refine WL.ev (Ev.len rfl) rfl ?_
      refine WL.ev (Ev.lss rfl rfl) rfl ?_
      refine WL.nil (kr55 _ _ _ (kh54 _ _ _ ?_))
      refine CW.cond rfl (fun hc4 => ?_) (fun hc4 => ?_)
      ·
       try simp only [qs] at hc4
       have hi0 : i = 0 := by omega
       subst hi0
       have hNy2 := hNy
       obtain ⟨⟨ay, cy, hey2, hcapy, hry⟩, hWy, hly⟩ := hNy2
       refine CW.skip ?_
       refine kh53 _ _ _ ?_
       refine CW.seq fun _ kh56 => ?_
       refine CW.block ?_
       refine Sq fun _ kh57 _ kr58 => ?_
       refine Mv rfl rfl ?_
       refine Mv rfl rfl ?_
       refine WL.ev (Ev.indexAddr rfl rfl (by omega) (by omega)) rfl ?_
       rw [show 0 + ((0 : Nat) : Int).toNat * 6 = 0 from rfl]
       refine WL.ev (Ev.fieldAddr rfl) rfl ?_
       refine WL.ev (Ev.fieldAddr rfl) rfl ?_
       refine WL.ev (Ev.load (v := ry) rfl rfl (hrc 4 ry rfl)) rfl ?_
       rw [hey2]
       refine WL.ev (Ev.len rfl) rfl ?_
       refine WL.ev (Ev.eql rfl rfl) rfl ?_
       refine WL.nil (kr58 _ _ _ (kh57 _ _ _ ?_))
       refine CW.cond rfl (fun hc5 => ?_) (fun hc5 => ?_)
       ·
        try simp only [qs] at hc5
        have hy0 : dy.m = 0 := wd_eq_nil.1 (List.length_eq_zero_iff.1 (by omega))
        refine Sq fun _ kh59 _ kr60 => ?_
        refine As rfl rfl ?_
        refine As rfl rfl ?_
        refine WL.nil (kr60 _ _ _ (kh59 _ _ _ ?_))
        refine CW.ret ?_
        refine bodyA.ret2 rfl rfl rfl ?_
        exact ⟨.inr (.inr (.inl ⟨hs1, dx, dy, hex, hey, hy0, rfl⟩)), hch⟩
       ·
        try simp only [qs] at hc5
        have hy0 : dy.m ≠ 0 := fun e => by rw [e, wd_zero] at hc5; exact hc5 rfl
        refine CW.skip ?_
        refine kh56 _ _ _ ?_
        refine CW.region fun kR61 kr61 => ?_
        refine Mv rfl rfl ?_
        first | refine WL.ev (Ev.addIn rfl rfl (by omega)) rfl ?_ | refine WL.ev (Ev.add rfl rfl) rfl ?_
        refine As rfl rfl ?_
        refine WL.nil (kr61 _ _ _ ?_)
        refine ⟨rfl, 1, ?_, ?_, ?_⟩
        ·
         repeat (first | exact Subs.nil | refine Subs.cons rfl ?_ | refine Subs.consI rfl (by omega) ?_)
        ·
         exact ⟨by decide, fun _ => hy0, hrc, hNx, hNy, hch⟩
        ·
         decide
      ·
       try simp only [qs] at hc4
       have hi0 : i = 1 := by omega
       subst hi0
       have hy0 := hz3 rfl
       refine CW.exit ?_
       refine kh50 _ _ _ ?_
       refine Sq fun _ kh62 _ kr63 => ?_
       refine Mv rfl rfl ?_
       refine As rfl rfl ?_
       refine As rfl rfl ?_
       refine WL.nil (kr63 _ _ _ (kh62 _ _ _ ?_))
       refine CW.ret ?_
       refine bodyA.ret2 rfl rfl rfl ?_
       exact ⟨.inr (.inr (.inr ⟨hs1, dx, dy, hex, hey, hy0, ad, c, rx, ry, rfl, hrc, hNx, hNy⟩)), hch⟩

end Go.Proofs.YtphnpchmdpjabaaGreatDoor

/- Reference of layer 11: Against, half, Nearby. No condition. -/
namespace Go.Proofs.YtphnpchmdpjabaaGreatDoor
open Go Sx Wd

set_option maxRecDepth 8000 in
set_option maxHeartbeats 2000000 in
theorem r11Against_spec (va : Value) (la : List Nat) (e : Int) (nn nd : Bool) (vn vd : Value) (ln ld : List Nat) (en ed : Int) (w : World) (ha : NU w va la) (he : -1099511627776 ≤ e ∧ e ≤ 1099511627776) (hla : la.length ≤ 1000000) (hn : NU w vn ln) (hd : NU w vd ld) (hen : -1048576 ≤ en ∧ en ≤ 1048576) (hed : -1048576 ≤ ed ∧ ed ≤ 1048576) (hln : ln.length ≤ 8192) (hld : ld.length ≤ 8192) : Ret Tryz.prog 169 [va, .int .i64 e, .agg [.bool nn, vn, .int .i64 en, .bool nd, vd, .int .i64 ed].toArray, .bool false] w fun u w' => u = .int .i64 (cmpX (val la * val ld) (e + ed) (val ln) en) ∧ Chg [] w w' := by
 have hch : Chg [] w w := Chg.refl _ _
 have hon := hn.one
 have hod := hd.one
 have hoa := ha.one
 refine Ret.enter Tryz.func169 rfl rfl ?_
 simp only [args0, Nat.zero_add, Nat.reduceAdd]
 refine Sq fun _ kh1 _ kr2 => ?_
 refine WL.boxB rfl rfl rfl fun b6 wm6 hb6 hcm6 hge6 => ?_
 have hgehch6 := Nat.le_trans hch.size hge6
 have hch := hch.trans (Chg.any hcm6)
 have ha := ha.keep0 hcm6
 have hn := hn.keep0 hcm6
 have hd := hd.keep0 hcm6
 refine As rfl rfl ?_
 refine WL.nil (kr2 _ _ _ (kh1 _ _ _ ?_))
 refine Sq fun _ kh3 _ kr4 => ?_
 refine Mv rfl rfl ?_
 refine As rfl rfl ?_
 refine WL.nil (kr4 _ _ _ (kh3 _ _ _ ?_))
 refine Sq fun _ kh5 _ kr6 => ?_
 refine Mv rfl rfl ?_
 refine As rfl rfl ?_
 refine WL.nil (kr6 _ _ _ (kh5 _ _ _ ?_))
 refine CW.seq fun _ kh7 => ?_
 refine Sq fun _ kh8 _ kr9 => ?_
 refine Mv rfl rfl ?_
 refine WL.nil (kr9 _ _ _ (kh8 _ _ _ ?_))
 refine CW.condF rfl ?_
 refine CW.skip ?_
 refine kh7 _ _ _ ?_
 refine CW.seq fun _ kh10 => ?_
 refine CW.regionHC 18 rfl hmix fun kR11 kr11 hS hdr => ?_
 have hch := hch.trans (Chg.any hdr)
 have hb6 := hb6.keep0 hdr
 have ha := ha.keep0 hdr
 have hn := hn.keep0 hdr
 have hd := hd.keep0 hdr
 have hch_r := hch
 have hb6_r := hb6
 refine WH.take 0 rfl (by kernel_rfl) (by kernel_rfl) (by kernel_rfl) hS (fun w' hw' => Ev.move rfl) rfl ?_
 refine WH.take 1 rfl (by kernel_rfl) (by kernel_rfl) (by kernel_rfl) hS (fun w' hw' => Ev.fieldAddr rfl) rfl ?_
 refine WH.take 2 rfl (by kernel_rfl) (by kernel_rfl) (by kernel_rfl) hS (fun w' hw' => Ev.fieldAddr rfl) rfl ?_
 refine WH.take 3 rfl (by kernel_rfl) (by kernel_rfl) (by kernel_rfl) hS (fun w' hw' => Ev.load rfl rfl ((hb6_r.keep0 hw').at_ rfl)) rfl ?_
 refine WH.take 5 rfl (by kernel_rfl) (by kernel_rfl) (by kernel_rfl) hS (fun w' hw' => Ev.move rfl) rfl ?_
 refine WH.take 6 rfl (by kernel_rfl) (by kernel_rfl) (by kernel_rfl) hS (fun w' hw' => Ev.fieldAddr rfl) rfl ?_
 refine WH.take 7 rfl (by kernel_rfl) (by kernel_rfl) (by kernel_rfl) hS (fun w' hw' => Ev.fieldAddr rfl) rfl ?_
 refine WH.take 8 rfl (by kernel_rfl) (by kernel_rfl) (by kernel_rfl) hS (fun w' hw' => Ev.load rfl rfl ((hb6_r.keep0 hw').at_ rfl)) rfl ?_
 refine WH.take 9 rfl (by kernel_rfl) (by kernel_rfl) (by kernel_rfl) hS (fun w' hw' => Ev.addIn rfl rfl (by omega)) rfl ?_
 refine WH.take 10 rfl (by kernel_rfl) (by kernel_rfl) (by kernel_rfl) hS (fun w' hw' => Ev.fieldAddr rfl) rfl ?_
 refine WH.take 11 rfl (by kernel_rfl) (by kernel_rfl) (by kernel_rfl) hS (fun w' hw' => Ev.fieldAddr rfl) rfl ?_
 refine WH.take 12 rfl (by kernel_rfl) (by kernel_rfl) (by kernel_rfl) hS (fun w' hw' => Ev.load rfl rfl ((hb6_r.keep0 hw').at_ rfl)) rfl ?_
 refine WH.take 13 rfl (by kernel_rfl) (by kernel_rfl) (by kernel_rfl) hS (fun w' hw' => Ev.fieldAddr rfl) rfl ?_
 refine WH.take 14 rfl (by kernel_rfl) (by kernel_rfl) (by kernel_rfl) hS (fun w' hw' => Ev.fieldAddr rfl) rfl ?_
 refine WH.take 15 rfl (by kernel_rfl) (by kernel_rfl) (by kernel_rfl) hS (fun w' hw' => Ev.load rfl rfl ((hb6_r.keep0 hw').at_ rfl)) rfl ?_
 refine WH.oneCall 4 rfl (by kernel_rfl) hasF166 rfl rfl (r2Times_spec _ _ _ _ _ ha hd (by omega)) fun v w1 h' => ?_
 obtain ⟨hNp, hC, hF⟩ := h'
 have hpl := mul_len (wd_length_val_le ha.hw) (wd_length_val_le hd.hw)
 have hch := hch.trans (Chg.any hC)
 have hb6 := hb6.keep0 hC
 have ha := ha.keep0 hC
 have hn := hn.keep0 hC
 have hd := hd.keep0 hC
 have hS := hS.trans hC
 refine ⟨hS, ?_⟩
 refine WH.oneCall 16 rfl (by kernel_rfl) hasF195 rfl rfl (r3Against_spec _ _ _ _ _ _ _ hNp hn (by omega) (by omega) (by omega) (by omega)) fun v w2 h' => ?_
 obtain ⟨rfl, hC⟩ := h'
 rw [val_wd]
 have hch := hch.trans (Chg.any hC)
 have hb6 := hb6.keep0 hC
 have ha := ha.keep0 hC
 have hn := hn.keep0 hC
 have hd := hd.keep0 hC
 have hNp := hNp.keep0 hC
 have hS := hS.trans hC
 refine ⟨hS, ?_⟩
 refine WH.take 17 rfl (by kernel_rfl) (by kernel_rfl) (by kernel_rfl) hS (fun w' hw' => Ev.assign rfl) rfl ?_
 refine WH.done (by kernel_rfl) (kr11 _ _ _ ?_)
 refine kh10 _ _ _ ?_
 refine CW.ret ?_
 refine bodyA.ret1 rfl rfl ?_
 exact ⟨rfl, hch⟩

end Go.Proofs.YtphnpchmdpjabaaGreatDoor

/- Reference of layer 11: half, Nearby. No condition. -/
namespace Go.Proofs.YtphnpchmdpjabaaGreatDoor
open Go Sx Wd

theorem nz_num (k : Nat) : nz k = numM k * 2 ^ (numE k + 1074).toNat := by
  unfold nz numM numE
  by_cases h : k < 4503599627370496
  · rw [if_pos h, if_pos (show k / 4503599627370496 = 0 by omega), if_pos (show k / 4503599627370496 = 0 by omega), show k % 4503599627370496 = k by omega]
    simp
  · rw [if_neg h, if_neg (show ¬ k / 4503599627370496 = 0 by omega), if_neg (show ¬ k / 4503599627370496 = 0 by omega), show (-1074 + ((k / 4503599627370496 : Nat) : Int) - 1 + 1074).toNat = k / 4503599627370496 - 1 by omega]
theorem numE_step (k : Nat) : numE k ≤ numE (k + 1) ∧ numE (k + 1) ≤ numE k + 1 := by
  unfold numE
  by_cases h : k / 4503599627370496 = 0
  · rw [if_pos h]
    by_cases h2 : (k + 1) / 4503599627370496 = 0
    · rw [if_pos h2]; omega
    · rw [if_neg h2]; omega
  · rw [if_neg h, if_neg (show ¬ (k + 1) / 4503599627370496 = 0 by omega)]; omega
theorem sgn_scale (x y c : Nat) : sgn (x * 2 ^ c) (y * 2 ^ c) = sgn x y := by
  have hp := Nat.two_pow_pos c
  have h1 : x * 2 ^ c < y * 2 ^ c ↔ x < y := Nat.mul_lt_mul_right hp
  have h2 : y * 2 ^ c < x * 2 ^ c ↔ y < x := Nat.mul_lt_mul_right hp
  unfold sgn
  simp only [h1, h2]
theorem cmpX_eq {m n a b : Nat} {e f : Int} (h : (a : Int) - b = e - f) : cmpX m e n f = sgn (m * 2 ^ a) (n * 2 ^ b) := by
  unfold cmpX
  obtain ⟨c, hc1, hc2⟩ : ∃ c, a = (e - min e f).toNat + c ∧ b = (f - min e f).toNat + c := by
    rcases Int.le_total e f with q | q
    · exact ⟨a, by omega, by omega⟩
    · exact ⟨b, by omega, by omega⟩
  rw [hc1, hc2, Nat.pow_add, Nat.pow_add, ← Nat.mul_assoc, ← Nat.mul_assoc, sgn_scale]
theorem cmp_num {x y : Nat} {ex ey : Int} {k : Nat} (hk : k < 18446744073709551616) : cmpX (numM k * y) (numE k + ey) x ex = sgn (2 * nz k * (y * dyB (ex - ey))) (dyA x (ex - ey)) := by
  have h1 := (numE_le k hk).1
  unfold dyA dyB
  rw [nz_num, cmpX_eq (a := (numE k + 1074).toNat + 1 + (-(ex - ey + 1075)).toNat) (b := (ex - ey + 1075).toNat) (by omega)]
  congr 1
  rw [Nat.pow_add, Nat.pow_succ]
  simp only [Nat.mul_comm, Nat.mul_left_comm, Nat.mul_assoc]
theorem cmp_mid {x y : Nat} {ex ey : Int} {k d : Nat} (hk : k < 9223372036854775808) (hd : (d : Int) = numE (k + 1) - numE k) : cmpX ((numM k + numM (k + 1) * 2 ^ d) * y) (numE k - 1 + ey) x ex = sgn ((nz k + nz (k + 1)) * (y * dyB (ex - ey))) (dyA x (ex - ey)) := by
  have h1 := (numE_le k (by omega)).1
  have e : nz k + nz (k + 1) = (numM k + numM (k + 1) * 2 ^ d) * 2 ^ (numE k + 1074).toNat := by
    rw [nz_num, nz_num, show (numE (k + 1) + 1074).toNat = d + (numE k + 1074).toNat by omega, Nat.pow_add, Nat.add_mul, Nat.mul_assoc]
  unfold dyA dyB
  rw [e, cmpX_eq (a := (numE k + 1074).toNat + (-(ex - ey + 1075)).toNat) (b := (ex - ey + 1075).toNat) (by omega)]
  congr 1
  rw [Nat.pow_add]
  simp only [Nat.mul_comm, Nat.mul_left_comm, Nat.mul_assoc]
theorem near_of {A B k : Nat} {neg : Bool} {mode : Int} {r : Nat} (hk : k < 9218868437227405312) (h1 : 2 * nz k * B ≤ A) (h2 : A < 2 * nz (k + 1) * B ∨ k + 1 = 9218868437227405312) (hne : 2 * nz k * B ≠ A) {on : Bool} (hup : upM mode neg k A ((nz k + nz (k + 1)) * B) = on) (hr : r = if on = true then k + 1 else k) : IsNear A B neg mode r :=
  ⟨k, hk, h1, h2, by rw [if_neg hne, hup, hr]⟩
theorem near_eq {A B k : Nat} {neg : Bool} {mode : Int} (hk : k < 9218868437227405312) (h2 : A < 2 * nz (k + 1) * B ∨ k + 1 = 9218868437227405312) (he : 2 * nz k * B = A) : IsNear A B neg mode k :=
  ⟨k, hk, Nat.le_of_eq he, h2, by rw [if_pos he]⟩
theorem up_even {neg : Bool} {k A M : Nat} : upM 0 neg k A M = (decide (M < A) || (decide (M = A) && decide (k % 2 = 1))) := by unfold upM; rw [if_pos rfl]
theorem up_up {neg : Bool} {k A M : Nat} : upM 2 neg k A M = !neg := by unfold upM; rw [if_neg (by decide), if_pos rfl]
theorem up_down {neg : Bool} {k A M : Nat} : upM 3 neg k A M = neg := by unfold upM; rw [if_neg (by decide), if_neg (by decide), if_pos rfl]
theorem up_away {neg : Bool} {k A M : Nat} : upM 4 neg k A M = decide (M ≤ A) := by unfold upM; rw [if_neg (by decide), if_neg (by decide), if_neg (by decide), if_pos rfl]
theorem up_zero {neg : Bool} {k A M : Nat} : upM 1 neg k A M = false := by unfold upM; rw [if_neg (by decide), if_neg (by decide), if_neg (by decide), if_neg (by decide)]
structure KNb (x y : Dy) (A B : Nat) (w0 : World) (b4 b5 : Nat) (vn vd : Value) (g : Nat × Nat) (w : World) : Prop where
  lt : g.1 < g.2
  le : g.2 ≤ 9218868437227405312
  lo : 2 * nz g.1 * B ≤ A
  hi : A < 2 * nz g.2 * B ∨ g.2 = 9218868437227405312
  h4 : BK w b4 124 [.int .i64 53, .int .i64 (-1074), .int .u64 9218868437227405312]
  h5 : BK w b5 73 [.bool x.neg, vn, .int .i64 x.e, .bool y.neg, vd, .int .i64 y.e]
  hn : NU w vn (wd x.m)
  hd : NU w vd (wd y.m)
  ch : Chg [] w0 w
theorem num_len (k : Nat) : (wd (numM k)).length ≤ 2 := wd_length_le.2 (by have := numM_lt k; omega)

set_option maxRecDepth 8000 in
set_option maxHeartbeats 2000000 in
theorem r11half_spec (k : Nat) (nn nd : Bool) (vn vd : Value) (ln ld : List Nat) (en ed : Int) (w : World) (hk : k < 9218868437227405312) (hn : NU w vn ln) (hd : NU w vd ld) (hen : -1048576 ≤ en ∧ en ≤ 1048576) (hed : -1048576 ≤ ed ∧ ed ≤ 1048576) (hln : ln.length ≤ 8192) (hld : ld.length ≤ 8192) : Ret Tryz.prog 170 [.agg [.int .i64 53, .int .i64 (-1074), .int .u64 9218868437227405312].toArray, .int .u64 (k : Int), .agg [.bool nn, vn, .int .i64 en, .bool nd, vd, .int .i64 ed].toArray, .bool false] w fun u w' => u = .int .i64 (cmpX ((numM k + numM (k + 1) * 2 ^ (numE (k + 1) - numE k).toNat) * val ld) (numE k - 1 + ed) (val ln) en) ∧ Chg [] w w' := by
 have hch : Chg [] w w := Chg.refl _ _
 have hon := hn.one
 have hod := hd.one
 have hes := numE_step k
 have he1 := numE_le k (by omega)
 have hm1 := num_len k
 have hm2 := num_len (k + 1)
 obtain ⟨d, hdd⟩ : ∃ d : Nat, (d : Int) = numE (k + 1) - numE k := ⟨(numE (k + 1) - numE k).toNat, by omega⟩
 rw [show (numE (k + 1) - numE k).toNat = d by omega]
 refine Ret.enter Tryz.func170 rfl rfl ?_
 simp only [args0, Nat.zero_add, Nat.reduceAdd]
 refine Sq fun _ kh1 _ kr2 => ?_
 refine WL.boxB rfl rfl rfl fun b4 wm4 hb4 hcm4 hge4 => ?_
 have hgehch4 := Nat.le_trans hch.size hge4
 have hch := hch.trans (Chg.any hcm4)
 have hn := hn.keep0 hcm4
 have hd := hd.keep0 hcm4
 refine WL.boxB rfl rfl rfl fun b6 wm6 hb6 hcm6 hge6 => ?_
 have hgehch6 := Nat.le_trans hch.size hge6
 have hch := hch.trans (Chg.any hcm6)
 have hn := hn.keep0 hcm6
 have hd := hd.keep0 hcm6
 have hneb46 : b4 ≠ b6 := by have := hb4.lt; omega
 have hb4 := hb4.keep0 hcm6
 refine As rfl rfl ?_
 refine WL.nil (kr2 _ _ _ (kh1 _ _ _ ?_))
 refine Sq fun _ kh3 _ kr4 => ?_
 refine WL.ev (Ev.loadA rfl rfl hb4 rfl) rfl ?_
 refine Mv rfl rfl ?_
 refine WL.call hasF168 rfl rfl (r3Number_spec (k) _ (by omega)) fun v w1 h' => ?_
 obtain ⟨⟨va, rfl, hNa⟩, hC⟩ := h'
 have hch := hch.trans (Chg.any hC)
 have hb4 := hb4.keep0 hC
 have hb6 := hb6.keep0 hC
 have hn := hn.keep0 hC
 have hd := hd.keep0 hC
 refine Mv rfl rfl ?_
 refine WL.ev (Ev.extract rfl rfl) rfl ?_
 refine WL.ev (Ev.extract rfl rfl) rfl ?_
 refine As rfl rfl ?_
 refine As rfl rfl ?_
 refine WL.nil (kr4 _ _ _ (kh3 _ _ _ ?_))
 refine Sq fun _ kh5 _ kr6 => ?_
 refine WL.ev (Ev.loadA rfl rfl hb4 rfl) rfl ?_
 refine Mv rfl rfl ?_
 first | refine WL.ev (Ev.add64In (b := 1) rfl rfl (by omega)) rfl ?_ | refine WL.ev (Ev.add64 (b := 1) rfl rfl) rfl ?_
 refine WL.call hasF168 rfl rfl (r3Number_spec (k + 1) _ (by omega)) fun v w2 h' => ?_
 obtain ⟨⟨vb, rfl, hNb⟩, hC⟩ := h'
 have hch := hch.trans (Chg.any hC)
 have hb4 := hb4.keep0 hC
 have hb6 := hb6.keep0 hC
 have hn := hn.keep0 hC
 have hd := hd.keep0 hC
 have hNa := hNa.keep0 hC
 refine Mv rfl rfl ?_
 refine WL.ev (Ev.extract rfl rfl) rfl ?_
 refine WL.ev (Ev.extract rfl rfl) rfl ?_
 refine As rfl rfl ?_
 refine As rfl rfl ?_
 refine WL.nil (kr6 _ _ _ (kh5 _ _ _ ?_))
 refine Sq fun _ kh7 _ kr8 => ?_
 refine Mv rfl rfl ?_
 refine Mv rfl rfl ?_
 refine Mv rfl rfl ?_
 refine Mv rfl rfl ?_
 refine WL.ev (Ev.subIn rfl rfl (by omega)) rfl ?_
 rw [← hdd]
 refine WL.call hasF126 rfl rfl (r2MovedUp_spec _ _ _ hNb d (by omega) (by omega)) fun v w3 h' => ?_
 obtain ⟨hNc, hC, hF⟩ := h'
 rw [val_wd] at hNc
 have hcl : (wd (numM (k + 1) * 2 ^ d)).length ≤ 3 := wd_length_le.2 (by have h7 := numM_lt (k + 1); have h8 : 2 ^ d ≤ 2 ^ 1 := Nat.pow_le_pow_right (by decide) (by omega); have h9 := Nat.mul_le_mul (Nat.le_of_lt h7) h8; omega)
 have hch := hch.trans (Chg.any hC)
 have hb4 := hb4.keep0 hC
 have hb6 := hb6.keep0 hC
 have hn := hn.keep0 hC
 have hd := hd.keep0 hC
 have hNa := hNa.keep0 hC
 have hNb := hNb.keep0 hC
 refine WL.call hasF179 rfl rfl (r2Plus_spec _ _ _ _ _ hNa hNc (by omega) (by omega)) fun v w4 h' => ?_
 obtain ⟨hNs, hC, hF⟩ := h'
 rw [val_wd, val_wd] at hNs
 have hsl : (wd (numM k + numM (k + 1) * 2 ^ d)).length ≤ 4 := wd_length_le.2 (by have h5 := numM_lt k; have h6 := wd_length_le.1 hcl; omega)
 have hch := hch.trans (Chg.any hC)
 have hb4 := hb4.keep0 hC
 have hb6 := hb6.keep0 hC
 have hn := hn.keep0 hC
 have hd := hd.keep0 hC
 have hNa := hNa.keep0 hC
 have hNb := hNb.keep0 hC
 have hNc := hNc.keep0 hC
 refine As rfl rfl ?_
 refine WL.nil (kr8 _ _ _ (kh7 _ _ _ ?_))
 refine Sq fun _ kh9 _ kr10 => ?_
 refine Mv rfl rfl ?_
 refine Mv rfl rfl ?_
 refine WL.ev (Ev.subIn rfl rfl (by omega)) rfl ?_
 refine WL.ev (Ev.loadA rfl rfl hb6 rfl) rfl ?_
 refine Mv rfl rfl ?_
 refine WL.call hasF169 rfl rfl (r11Against_spec _ _ _ _ _ _ _ _ _ _ _ _ hNs (by omega) (by omega) hn hd hen hed hln hld) fun v w5 h' => ?_
 obtain ⟨rfl, hC⟩ := h'
 rw [val_wd]
 have hch := hch.trans (Chg.any hC)
 have hb4 := hb4.keep0 hC
 have hb6 := hb6.keep0 hC
 have hn := hn.keep0 hC
 have hd := hd.keep0 hC
 have hNa := hNa.keep0 hC
 have hNb := hNb.keep0 hC
 have hNc := hNc.keep0 hC
 have hNs := hNs.keep0 hC
 refine As rfl rfl ?_
 refine WL.nil (kr10 _ _ _ (kh9 _ _ _ ?_))
 refine CW.ret ?_
 refine bodyA.ret1 rfl rfl ?_
 exact ⟨rfl, hch⟩

end Go.Proofs.YtphnpchmdpjabaaGreatDoor
