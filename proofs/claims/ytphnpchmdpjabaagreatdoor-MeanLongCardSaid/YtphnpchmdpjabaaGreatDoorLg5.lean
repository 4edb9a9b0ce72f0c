/- The statement on MeanLong. -/
import Derived.Test.YtphnpchmdpjabaaGreatDoorLg4
import Derived.Shelf.SlSortCmp.Whole1
import Derived.WalkKit
import Derived.ProofKit
import Derived.OpenShut
import Derived.ChangeOld
import Derived.Below
import Derived.Deep.Slices
import Derived.Laws.Cover2
import Derived.LaidMore
import Derived.SizedLaws
import Derived.SevenTiedAt
import Derived.Stop.Joined
import Derived.Test.YtphnpchmdpjabaaGreatDoorRows
import Derived.Test.YtphnpchmdpjabaaGreatDoorTie
import Derived.Test.YtphnpchmdpjabaaGreatDoorCards
set_option linter.unusedVariables false
set_option linter.unusedSimpArgs false
/- slices.SortFunc over numbers by the numbers' order: the row holds the numbers in order. No condition but that each number has 64 bits. -/
namespace Go.Proofs.YtphnpchmdpjabaaGreatDoor
open Go Sx Fl Go.Sort Go.Shelf

abbrev F64 := {b : Nat // b < 18446744073709551616}
instance f64Inh : Inhabited F64 := ⟨⟨0, by decide⟩⟩
def encF (x : F64) : Value := .float .f64 x.1
def cfF (x y : F64) : Int := cmpI (key x.1) (key y.1)
theorem ltF (x y : F64) : ltOf cfF x y = decide (key x.1 < key y.1) := by
  unfold ltOf cfF cmpI
  by_cases h1 : key x.1 < key y.1
  · simp [h1]
  · by_cases h2 : key y.1 < key x.1 <;> simp [h1, h2]
theorem swoF : SWO (ltOf cfF) where
  irrefl x := by rw [ltF]; simp
  trans x y z h1 h2 := by rw [ltF] at *; simp at *; omega
  ntrans x y z h1 h2 := by rw [ltF] at *; simp at *; omega
theorem cmpLaysF (blk off size : Nat) (w : World) : CmpLays1 Tryz.prog 65 #[] encF cfF blk off size w := fun _ _ _ _ x y =>
  Calls.mono (bits_Order_spec _ _ x.2 y.2 _) fun e w' ⟨v, he, hv, hw⟩ => ⟨by rw [he, hv]; rfl, 0, #[], by rw [grow_empty]; exact hw.symm⟩
def f64s (l : List Nat) (h : ∀ p ∈ l, p < 18446744073709551616) : List F64 := l.attach.map fun x => ⟨x.1, h x.1 x.2⟩
theorem f64s_val (l : List Nat) (h : ∀ p ∈ l, p < 18446744073709551616) : (f64s l h).map (·.1) = l := by
  unfold f64s
  rw [List.map_map]
  exact List.attach_map_subtype_val l
theorem f64s_get {l : List Nat} {h : ∀ p ∈ l, p < 18446744073709551616} {j : Nat} (hj : j < l.length) : encF ((f64s l h).toArray[j]!) = f64v (l[j]'hj) := by
  have hl : j < (f64s l h).toArray.size := by simpa [f64s] using hj
  rw [getElem!_pos _ j hl]
  simp [f64s, encF, f64v]
theorem sortWorldF_heap {w : World} {blk n : Nat} {d : Array F64} {os : Array Obj} {cur : Array Value} {T : TypeId} (h : w.heap[blk]? = some (.cells cur T (0, 0))) :
    Chg [blk] w (sortWorld encF w blk 0 n d os) ∧ (sortWorld encF w blk 0 n d os).heap[blk]? = some (.cells (putCells encF 0 d cur) T (0, 0)) := by
  have hlt := lt_of_heap h
  unfold sortWorld grow putRow mapBlock Go.Sort.ahead
  refine ⟨⟨rfl, rfl, rfl, by simp, fun k hk hn => ?_⟩, ?_⟩
  · simp only [List.mem_singleton] at hn
    rw [Array.getElem?_append_left (by simpa using hk), Array.getElem?_modify, if_neg (fun e => hn e.symm)]
  · rw [Array.getElem?_append_left (by simpa using hlt), Array.getElem?_modify, if_pos rfl, h]; rfl
/-- THE SORT: a row of one's own comes in order. -/
theorem sortF_spec (w : World) (v : Value) (l : List Nat) (lo : Nat) (X : List Nat) (hl : ∀ p ∈ l, p < 18446744073709551616) (hne : l ≠ []) (hsz : l.length < 4611686018427387904) (hown : GR w 28 f64v lo X v l) :
    Ret Tryz.prog 64 [v, .func (.func 65) #[] #[]] w fun u w' =>
      ∃ l' : List Nat, l'.Perm l ∧ Srt l' ∧ Chg v.ownBlock.toList w w' ∧ GR w' 28 f64v lo X v l' := by
  obtain ⟨blk, cap, cur, rfl, hheap, hnc, hcm, hcs, htake, hlo, hX⟩ := hown.own hne
  have hd : (f64s l hl).toArray.size = l.length := by simp [f64s]
  have hblk := lt_of_heap hheap
  have hH : Holds encF w blk 0 (f64s l hl).toArray := by
    intro j hj
    have hj' : j < l.length := by rw [← hd]; exact hj
    refine ⟨?_, by rw [Nat.zero_add]; exact frozen_no hheap⟩
    rw [Nat.zero_add, cell_at' hheap, f64s_get hj']
    have : cur.toList[j]? = (l.map f64v)[j]? := by
      rw [← htake, List.getElem?_take, if_pos (by omega)]
    rw [← Array.getElem?_toList, this]
    simp [hj']
  have eg : ∀ args w, (callFunc 65 args).run Tryz.prog w = .ok (.enter 65 args) w := fun args w => HasF.run hasF65 args
  have hcon := Any.slices_SortFunc Tryz.laySortLayF encF (fun x => rfl) cfF swoF 65 #[] blk 0 cap (f64s l hl).toArray w eg (cmpLaysF blk 0 _ w) hH hblk (by rw [hd]; exact hsz)
  rw [hd] at hcon
  refine Calls.mono hcon fun e w' ⟨he, d', n, os, hp, hs, hw⟩ => ⟨_, he, ?_⟩
  obtain ⟨hps, _, hpp⟩ := hp
  have hsz' : d'.size = l.length := by rw [hps, hd]
  have hperm : d'.toList.Perm (f64s l hl) := by
    have e1 : d'.extract 0 l.length = d' := by rw [← hsz']; simp
    have e2 : (f64s l hl).toArray.extract 0 l.length = (f64s l hl).toArray := by rw [← hd]; simp
    rw [e1, e2] at hpp
    exact hpp
  subst hw
  obtain ⟨hc, hh⟩ := sortWorldF_heap (n := n) (d := d') (os := os) hheap
  have hlen : (d'.toList.map (·.1)).length = l.length := by simp [hsz']
  refine ⟨d'.toList.map (·.1), ?_, ?_, hc, ?_⟩
  · have := hperm.map Subtype.val
    rw [f64s_val] at this
    exact this
  · unfold Srt
    rw [List.pairwise_iff_getElem]
    intro i j hi hj hij
    have := hs i j (Nat.zero_le _) hij (by simpa [hsz'] using hj)
    rw [ltF] at this
    have hi' : i < d'.size := by simpa using hi
    have hj' : j < d'.size := by simpa using hj
    rw [getElem!_pos d' i hi', getElem!_pos d' j hj'] at this
    simp at this
    simpa using this
  · refine ⟨⟨by simp, .inr ⟨blk, cap, _, ?_, Nat.zero_le _, hh, ?_, hcm, ?_, ?_⟩⟩, fun b hb => ?_⟩
    · rw [hlen]
    · rw [hlen]; exact hnc
    · simp [putCells, hcs]
    · rw [hlen, Nat.mul_one]
      apply List.ext_getElem?
      intro i
      rw [List.getElem?_take]
      by_cases hi : i < l.length
      · rw [if_pos hi]
        have hi' : i < d'.size := by rw [hsz']; exact hi
        have hc' : i < cur.size := by rw [hcs]; exact Nat.lt_of_lt_of_le hi hnc
        simp [putCells, hi', hc', encF, f64v]
      · rw [if_neg hi, List.getElem?_eq_none (by rw [List.length_map, hlen]; omega)]
    · cases hb; exact ⟨hlo, hX⟩
end Go.Proofs.YtphnpchmdpjabaaGreatDoor

/- Package mean: Trimmed. No condition. -/
namespace Go.Proofs.YtphnpchmdpjabaaGreatDoor
open Go Sx Wd Fl

set_option maxRecDepth 8000 in
set_option maxHeartbeats 2000000 in
theorem mTrimmed_spec (v : Value) (l : List Nat) (k mode : Int) (w : World) (hv : NF w v l) (hk : -9223372036854775808 ≤ k ∧ k ≤ 9223372036854775807) (hg : GW w) : Ret Tryz.prog 22 [v, .int .i64 k, .int .i64 mode] w fun u w' => (∃ bits e, u = .tuple [.float .f64 bits, .int .i64 e].toArray ∧ trimR l k mode bits e) ∧ Chg [] w w' := by
 have hch : Chg [] w w := Chg.refl _ _
 have hv0 := hv
 obtain ⟨⟨al, cl, rfl, hcapl, hrl⟩, hWl, hll⟩ := hv
 have hg0 := hg
 refine Ret.enterD 31 hasF31 Tryz.func22 rfl rfl ?_
 simp only [args0, Nat.zero_add, Nat.reduceAdd]
 refine Sr fun _ kh1 => ?_
 refine WL.allocB (l := [.float .f64 0]) rfl rfl fun b6 wm6 hb6 hcm6 hge6 => ?_
 have hgehch6 := Nat.le_trans hch.size hge6
 have hch := hch.trans (Chg.any hcm6)
 refine WL.allocB (l := [.int .i64 0]) rfl rfl fun b7 wm7 hb7 hcm7 hge7 => ?_
 have hgehch7 := Nat.le_trans hch.size hge7
 have hch := hch.trans (Chg.any hcm7)
 have hneb67 : b6 ≠ b7 := by have := hb6.lt; omega
 have hb6 := hb6.keep0 hcm7
 refine zz (kh1 (Sr fun _ kh3 => ?_))
 refine WL.defer rfl ?_
 refine zz (kh3 (zc fun _ kh5 => ?_))
 refine CW.block ?_
 refine CW.seqM 8 (decide (¬ ((0 ≤ mode ∧ mode ≤ 4) ∧ 0 ≤ k))) ?_ ?_
 ·
  refine CW.region fun kR6 kr6 => ?_
  refine zm rfl ?_
  refine WL.call hasF32 rfl rfl (right_spec mode _) fun v w1 h' => ?_
  obtain ⟨rfl, rfl⟩ := h'
  refine WL.ev (Ev.not rfl) rfl ?_
  refine zm rfl ?_
  refine WL.boolCase (fun hg1 => ?_) (fun hg1 => ?_)
  ·
   try simp only [qs] at hg1
   have hq : ¬ (0 ≤ mode ∧ mode ≤ 4) := by simpa using hg1
   refine zv rfl (zv rfl (zt rfl rfl (za rfl ?_)))
   refine WL.nil (kr6 _ _ _ ?_)
   refine ⟨rfl, rfl, Subs.consB rfl ?_ ?_⟩
   ·
    first | (simp; omega) | (refine decide_eq_decide.2 ?_; omega)
   ·
    exact SMg
  ·
   try simp only [qs] at hg1
   have hq : 0 ≤ mode ∧ mode ≤ 4 := by simpa using hg1
   refine zw rfl (zm rfl (zw rfl ?_))
   refine WL.ev (Ev.lss rfl rfl) rfl ?_
   refine ze rfl rfl (za rfl ?_)
   refine WL.nil (kr6 _ _ _ ?_)
   refine ⟨rfl, rfl, Subs.consB rfl ?_ ?_⟩
   ·
    first | (simp; omega) | (refine decide_eq_decide.2 ?_; omega)
   ·
    exact SMg
 ·
  refine CW.cond rfl (fun hc2 => ?_) (fun hc2 => ?_)
  ·
   try simp only [qs] at hc2
   have hbad : ¬ ((0 ≤ mode ∧ mode ≤ 4) ∧ 0 ≤ k) := hc2
   refine Sr fun _ kh7 => ?_
   refine WL.storeC rfl rfl o1 hb6 (by simp) rfl fun ws2 hb6_ hcs2 => ?_
   try simp only [Sx.splice, qt] at hb6_
   have hch := hch.s1 hcs2
   have hb7 := hb7.keep hcs2 (by simp; omega)
   have hb6 := hb6_
   refine WL.storeC rfl rfl o1 hb7 (by simp) rfl fun ws3 hb7_ hcs3 => ?_
   try simp only [Sx.splice, qt] at hb7_
   have hch := hch.s1 hcs3
   have hb6 := hb6.keep hcs3 (by simp; omega)
   have hb7 := hb7_
   refine zz (kh7 ?_)
   refine CW.ret ?_
   refine clean_door rfl rfl rfl hb6 hb7 hneb67 fun w9 hc9 => ?_
   have hch := hch.step hc9 (fun y hy => by simp only [List.mem_singleton] at hy; subst hy; exact .inr (by omega))
   exact ⟨⟨_, _, rfl, .inl ⟨hbad, rfl, rfl⟩⟩, hch⟩
  ·
   try simp only [qs] at hc2
   have hgood : (0 ≤ mode ∧ mode ≤ 4) ∧ 0 ≤ k := by have := hc2; omega
   obtain ⟨kn, rfl⟩ := Int.eq_ofNat_of_zero_le hgood.2
   refine Sr fun _ kh9 => zm rfl (zn rfl ?_)
   refine WL.ev (Ev.gtr rfl rfl) rfl ?_
   refine za rfl (zz (kh9 ?_))
   refine CW.cond rfl (fun hc3 => ?_) (fun hc3 => ?_)
   ·
    try simp only [qs] at hc3
    have hlong : 65536 < l.length := by omega
    refine Sr fun _ kh11 => ?_
    refine WL.storeC rfl rfl o1 hb6 (by simp) rfl fun ws4 hb6_ hcs4 => ?_
    try simp only [Sx.splice, qt] at hb6_
    have hch := hch.s1 hcs4
    have hb7 := hb7.keep hcs4 (by simp; omega)
    have hb6 := hb6_
    refine WL.storeC rfl rfl o1 hb7 (by simp) rfl fun ws5 hb7_ hcs5 => ?_
    try simp only [Sx.splice, qt] at hb7_
    have hch := hch.s1 hcs5
    have hb6 := hb6.keep hcs5 (by simp; omega)
    have hb7 := hb7_
    refine zz (kh11 ?_)
    refine CW.ret ?_
    refine clean_door rfl rfl rfl hb6 hb7 hneb67 fun w9 hc9 => ?_
    have hch := hch.step hc9 (fun y hy => by simp only [List.mem_singleton] at hy; subst hy; exact .inr (by omega))
    exact ⟨⟨_, _, rfl, .inr ⟨hgood, .inl ⟨hlong, rfl, rfl⟩⟩⟩, hch⟩
   ·
    try simp only [qs] at hc3
    have hlong : ¬ 65536 < l.length := by omega
    refine Sr fun _ kh13 => zm rfl ?_
    refine WL.call hasF62 rfl rfl (mfinite_spec _ l _ (hv0.keep0 hch)) fun v w2 h' => ?_
    obtain ⟨rfl, hC⟩ := h'
    have hch := hch.trans (Chg.any hC)
    have hb6 := hb6.keep0 hC
    have hb7 := hb7.keep0 hC
    refine WL.ev (Ev.not rfl) rfl ?_
    refine za rfl (zz (kh13 ?_))
    refine CW.cond rfl (fun hc4 => ?_) (fun hc4 => ?_)
    ·
     try simp only [qs] at hc4
     have hf : ¬ finL l := by simpa using hc4
     refine Sr fun _ kh15 => ?_
     refine WL.storeC rfl rfl o1 hb6 (by simp) rfl fun ws6 hb6_ hcs6 => ?_
     try simp only [Sx.splice, qt] at hb6_
     have hch := hch.s1 hcs6
     have hb7 := hb7.keep hcs6 (by simp; omega)
     have hb6 := hb6_
     refine WL.storeC rfl rfl o1 hb7 (by simp) rfl fun ws7 hb7_ hcs7 => ?_
     try simp only [Sx.splice, qt] at hb7_
     have hch := hch.s1 hcs7
     have hb6 := hb6.keep hcs7 (by simp; omega)
     have hb7 := hb7_
     refine zz (kh15 ?_)
     refine CW.ret ?_
     refine clean_door rfl rfl rfl hb6 hb7 hneb67 fun w9 hc9 => ?_
     have hch := hch.step hc9 (fun y hy => by simp only [List.mem_singleton] at hy; subst hy; exact .inr (by omega))
     exact ⟨⟨_, _, rfl, .inr ⟨hgood, .inr ⟨hlong, .inl ⟨hf, rfl, rfl⟩⟩⟩⟩, hch⟩
    ·
     try simp only [qs] at hc4
     have hf : finL l := by simpa using hc4
     refine CW.seqM 24 (decide ((l.length : Int) ≤ 2 * (kn : Int))) ?_ ?_
     ·
      refine CW.region fun kR17 kr17 => ?_
      refine zm rfl ?_
      refine WL.ev (Ev.gtr rfl rfl) rfl ?_
      refine zm rfl ?_
      refine WL.boolCase (fun hg5 => ?_) (fun hg5 => ?_)
      ·
       try simp only [qs] at hg5
       refine zv rfl (zv rfl (zv rfl (zv rfl (zv rfl (zt rfl rfl (za rfl ?_))))))
       refine WL.nil (kr17 _ _ _ ?_)
       refine ⟨rfl, rfl, Subs.consB rfl ?_ ?_⟩
       ·
        first | (simp; omega) | (simp_all; done) | (refine decide_eq_decide.2 ?_; omega)
       ·
        exact SMg
      ·
       try simp only [qs] at hg5
       refine zw rfl (zm rfl (zw rfl (zn rfl (zw rfl (zm rfl (zw rfl ?_))))))
       refine WL.ev (Ev.mulIn rfl rfl (by omega)) rfl ?_
       refine zw rfl ?_
       refine WL.ev (Ev.leq rfl rfl) rfl ?_
       refine ze rfl rfl (za rfl ?_)
       refine WL.nil (kr17 _ _ _ ?_)
       refine ⟨rfl, rfl, Subs.consB rfl ?_ ?_⟩
       ·
        first | (simp; omega) | (simp_all; done) | (refine decide_eq_decide.2 ?_; omega)
       ·
        exact SMg
     ·
      refine CW.cond rfl (fun hc6 => ?_) (fun hc6 => ?_)
      ·
       try simp only [qs] at hc6
       have hno : (l.length : Int) ≤ 2 * (kn : Int) := hc6
       refine Sr fun _ kh18 => ?_
       refine WL.storeC rfl rfl o1 hb6 (by simp) rfl fun ws8 hb6_ hcs8 => ?_
       try simp only [Sx.splice, qt] at hb6_
       have hch := hch.s1 hcs8
       have hb7 := hb7.keep hcs8 (by simp; omega)
       have hb6 := hb6_
       refine WL.storeC rfl rfl o1 hb7 (by simp) rfl fun ws9 hb7_ hcs9 => ?_
       try simp only [Sx.splice, qt] at hb7_
       have hch := hch.s1 hcs9
       have hb6 := hb6.keep hcs9 (by simp; omega)
       have hb7 := hb7_
       refine zz (kh18 ?_)
       refine CW.ret ?_
       refine clean_door rfl rfl rfl hb6 hb7 hneb67 fun w9 hc9 => ?_
       have hch := hch.step hc9 (fun y hy => by simp only [List.mem_singleton] at hy; subst hy; exact .inr (by omega))
       exact ⟨⟨_, _, rfl, .inr ⟨hgood, .inr ⟨hlong, .inr ⟨hf, .inl ⟨hno, rfl, rfl⟩⟩⟩⟩⟩, hch⟩
      ·
       try simp only [qs] at hc6
       have hyes : 2 * (kn : Int) < (l.length : Int) := by have := hc6; omega
       have hne : l ≠ [] := fun q => by rw [q] at hyes; simp at hyes; omega
       refine CW.skip ?_
       refine kh5 (Sr fun _ kh20 => zm rfl ?_)
       refine WL.call hasF63 rfl rfl (CloneF_spec _ l _ (hv0.keep0 hch) (by omega)) fun v w3 h' => ?_
       obtain ⟨hgc, hC⟩ := h'
       have hl6 := hb6.lt
       have hl7 := hb7.lt
       have hszc := hch.size
       have hch := hch.trans (Chg.any hC)
       have hb6 := hb6.keep0 hC
       have hb7 := hb7.keep0 hC
       refine za rfl (zz (kh20 (Sr fun _ kh22 => zm rfl ?_)))
       refine WL.call hasF64 rfl rfl (sortF_spec _ v l _ _ hWl hne (by omega) hgc) fun v w4 h' => ?_
       obtain ⟨ls, hperm, hsrt, hcs, hgs⟩ := h'
       have hch := GR.frame hgc hcs hch hszc
       have hb6 := hb6.keep hcs (hgc.notin (.inr hl6))
       have hb7 := hb7.keep hcs (hgc.notin (.inr hl7))
       have hls : ls = sortP l := sortP_eq hperm hsrt (finL_nums hf hWl)
       have hlen : ls.length = l.length := hperm.length_eq
       have hWs : ∀ x ∈ ls, x < 18446744073709551616 := fun x hx => hWl x (hperm.mem_iff.1 hx)
       have hNs := hgs.nf hWs (by omega)
       obtain ⟨⟨adl, cpl, rfl, hcaps, hrs⟩, -, -⟩ := id hNs
       refine zz (kh22 (zc fun _ kh24 => ?_))
       refine CW.regionKC 12 14 rfl hmix fun kR25 kr25 hS hdr => ?_
       have hch := hch.trans (Chg.any hdr)
       have hb6 := hb6.keep0 hdr
       have hb7 := hb7.keep0 hdr
       have hNs := hNs.keep0 hdr
       have hch_r := hch
       have hb6_r := hb6
       have hb7_r := hb7
       refine wk 0 rfl hS (fun _ _ => Ev.move rfl) (wk 1 rfl hS (fun _ _ => Ev.move rfl) (wk 2 rfl hS (fun _ _ => Ev.move rfl) (wk 3 rfl hS (fun _ _ => Ev.len rfl) (wk 4 rfl hS (fun _ _ => Ev.move rfl) (wk 5 rfl hS (fun _ _ => Ev.subIn rfl rfl (by omega)) ?_)))))
       rw [show ((ls.length : Nat) : Int) - (kn : Int) = ((ls.length - kn : Nat) : Int) by omega]
       refine wk 6 rfl hS (fun _ _ => Ev.sliceLHn (kn) ((ls.length - kn)) rfl rfl rfl (by omega) (by omega) (by omega) (by omega)) (wk 7 rfl hS (fun _ _ => Ev.move rfl) ?_)
       refine WK.oneCall 8 rfl (by kernel_rfl) hasF66 rfl rfl (Plain_spec _) fun v w5 h' => ?_
       obtain ⟨rfl, hC⟩ := h'
       have hch := hch.trans (Chg.any hC)
       have hb6 := hb6.keep0 hC
       have hb7 := hb7.keep0 hC
       have hNs := hNs.keep0 hC
       have hS := hS.trans hC
       refine ⟨hS, ?_⟩
       refine WK.oneCall 9 rfl (by kernel_rfl) hasF15 rfl rfl (Mean_spec _ ((ls.drop kn).take (ls.length - kn - kn)) mode 0 0 _ (NF.mid hNs (by omega) (by omega)) (hg0.keep0 hch)) fun v w6 h' => ?_
       obtain ⟨⟨bits, e, rfl, hM⟩, hC⟩ := h'
       have hch := hch.trans (Chg.any hC)
       have hb6 := hb6.keep0 hC
       have hb7 := hb7.keep0 hC
       have hNs := hNs.keep0 hC
       have hS := hS.trans hC
       refine ⟨hS, ?_⟩
       refine wk 10 rfl hS (fun _ _ => Ev.extract rfl rfl) (wk 11 rfl hS (fun _ _ => Ev.extract rfl rfl) ?_)
       refine WK.storeC 12 rfl (by kernel_rfl) (by kernel_rfl) rfl rfl o1 hb6 (by simp) rfl fun ws10 hb6_ hcs10 => ?_
       try simp only [Sx.splice, qt] at hb6_
       have hch := hch.s1 hcs10
       have hb7 := hb7.keep hcs10 (by simp; omega)
       have hb6 := hb6_
       refine WK.storeC 13 rfl (by kernel_rfl) (by kernel_rfl) rfl rfl o1 hb7 (by simp) rfl fun ws11 hb7_ hcs11 => ?_
       try simp only [Sx.splice, qt] at hb7_
       have hch := hch.s1 hcs11
       have hb6 := hb6.keep hcs11 (by simp; omega)
       have hb7 := hb7_
       refine WK.done (by kernel_rfl) (kr25 _ _ _ ?_)
       refine kh24 ?_
       refine CW.ret ?_
       refine clean_door rfl rfl rfl hb6 hb7 hneb67 fun w9 hc9 => ?_
       have hch := hch.step hc9 (fun y hy => by simp only [List.mem_singleton] at hy; subst hy; exact .inr (by omega))
       refine ⟨⟨_, _, rfl, .inr ⟨hgood, .inr ⟨hlong, .inr ⟨hf, .inr ⟨hyes, ?_⟩⟩⟩⟩⟩, hch⟩
       rw [hM.err]
       rw [show ls.length - kn - kn = l.length - 2 * kn by omega, hls] at hM
       exact hM

end Go.Proofs.YtphnpchmdpjabaaGreatDoor

/- The numbers that every statement on means asks first. No condition. -/
namespace Go.Proofs.YtphnpchmdpjabaaGreatDoor
open Go Sx Wd
set_option exponentiation.threshold 9000

def lv1 : List Nat := [4607182418800017408, 4611686018427387904, 4618441417868443648]
def lv2 : List Nat := [4607182418800017408, 4611686018427387904]
def lv3 : List Nat := [4607182418800017408, 4613937818241073152]
theorem lv1_fil : filP lv1 = lv1 := by decide +kernel
theorem lv2_fil : filP lv2 = lv2 := by decide +kernel
theorem lv1_sum : sumI lv1 = (9 * 2 ^ 2148 : Nat) := by decide +kernel
theorem lv2_sum : sumI lv2 = (3 * 2 ^ 2148 : Nat) := by decide +kernel
theorem lv3_sum : sumI lv3 = (4 * 2 ^ 2148 : Nat) := by decide +kernel
theorem lv23_prod : sumP lv2 lv3 = (7 * 2 ^ 2148 : Nat) := by decide +kernel
theorem p2148 : (0 : Int) < ((2 ^ 2148 : Nat) : Int) := by have := Nat.two_pow_pos 2148; omega
theorem meanQ_of {S n r : Nat} {mode : Int} {bits : Nat} (hn : n ≠ 0) (hr : r < 9218868437227405312) (h : 2 * nz r * (n * 2 ^ 1073) = S) (hM : MeanQ (S : Int) n mode bits) : bits = r := by
  obtain ⟨r', h1, _, hb⟩ := hM
  rw [if_neg (by omega)] at hb
  rw [hb]
  rw [Int.natAbs_natCast] at h1
  exact h1.unique (Nat.mul_pos (by omega) (Nat.two_pow_pos _)) (near_is hr (Nat.mul_pos (by omega) (Nat.two_pow_pos _)) h)
theorem live_mean {bits : Nat} {e : Int} (h : meanR lv1 0 0 0 bits e) : bits = 4613937818241073152 ∧ e = 0 := by
  obtain ⟨he, hh⟩ := mean_fin h (by decide) (by decide +kernel) (by decide +kernel) (by rw [lv1_fil]; decide)
  rw [lv1_fil, lv1_sum] at hh
  rcases hh with ⟨hz, _⟩ | ⟨_, hM⟩
  · have := p2148; exact absurd hz (by rw [Int.natCast_mul]; omega)
  · exact ⟨meanQ_of (by decide) (by decide) (by decide +kernel) hM, he⟩
theorem live_mid {bits : Nat} {e : Int} (h : midR 4607182418800017408 4611686018427387904 0 bits e) : bits = 4609434218613702656 ∧ e = 0 := by
  rcases h with ⟨hh, _⟩ | ⟨_, ⟨hh, _⟩ | ⟨_, h⟩⟩
  · exact absurd (by decide) hh
  · exact absurd (by decide +kernel) hh
  obtain ⟨he, hh⟩ := mean_fin (l := lv2) h (by decide) (by decide +kernel) (by decide +kernel) (by rw [lv2_fil]; decide)
  rw [lv2_fil, lv2_sum] at hh
  rcases hh with ⟨hz, _⟩ | ⟨_, hM⟩
  · have := p2148; exact absurd hz (by rw [Int.natCast_mul]; omega)
  · exact ⟨meanQ_of (by decide) (by decide) (by decide +kernel) hM, he⟩
theorem lv_in {a : Nat} (h : a ≤ 16) : ((a * 2 ^ 2148 : Nat) : Int) < (16384 * BB : Nat) := by
  rw [BB_pow]
  have : a * 2 ^ 2148 < 2 ^ 4238 := by
    have h1 : a * 2 ^ 2148 ≤ 2 ^ 4 * 2 ^ 2148 := Nat.mul_le_mul_right _ h
    rw [← Nat.pow_add] at h1
    exact Nat.lt_of_le_of_lt h1 (Nat.pow_lt_pow_right (by decide) (by decide))
  omega
theorem live_wt {bits : Nat} {e : Int} (h : wtR lv2 lv3 0 bits e) : bits = 4610560118520545280 ∧ e = 0 := by
  have hp := p2148
  rcases h with ⟨hh, _⟩ | ⟨_, ⟨hh, _⟩ | ⟨_, ⟨hh, _⟩ | ⟨_, ⟨hh, _⟩ | ⟨_, ⟨hh, _⟩ | ⟨_, h⟩⟩⟩⟩⟩
  · exact absurd (by decide) hh
  · exact absurd hh (by decide)
  · exact absurd rfl hh
  · exact absurd (by decide +kernel) hh
  · cases hh
  rw [lv3_sum, lv23_prod, if_neg (by rw [Int.natCast_mul]; omega), if_neg (by rw [Int.natCast_mul]; omega)] at h
  have i7 := lv_in (a := 7) (by decide)
  have i4 := lv_in (a := 4) (by decide)
  obtain ⟨he, r, hN, hr, hb⟩ := quo_sum (by have := BB_pos; omega) i7 (by rw [Int.natCast_mul]; omega) i4 (by decide) h
  refine ⟨?_, he⟩
  rw [if_neg (by rw [Int.natCast_mul]; omega)] at hb
  rw [hb]
  rw [Int.natAbs_natCast, Int.natAbs_natCast] at hN
  have hB : 0 < 4 * 2 ^ 2148 := Nat.mul_pos (by decide) (Nat.two_pow_pos _)
  exact hN.unique hB (near_is (by decide) hB (by decide +kernel))
end Go.Proofs.YtphnpchmdpjabaaGreatDoor

/- Package steelyardlaw13: live, exact. No condition. -/
namespace Go.Proofs.YtphnpchmdpjabaaGreatDoor
open Go Sx Wd
set_option exponentiation.threshold 5000

theorem exact_spec (x y : Nat) (w : World) : Ret Tryz.prog 13 [.float .f64 x, .float .f64 y] w fun u w' => u = .bool (decide (x = y)) ∧ w = w' := by
 refine Ret.enter Tryz.func13 rfl rfl ?_
 simp only [args0, Nat.zero_add, Nat.reduceAdd]
 refine Sr fun _ kh1 => za rfl (zz (kh1 (Sr fun _ kh3 => zm rfl ?_)))
 refine WL.ev (Ev.ext rfl (ext40 _ _)) rfl ?_
 refine zm rfl ?_
 refine WL.ev (Ev.ext rfl (ext40 _ _)) rfl ?_
 refine zq rfl rfl (za rfl (zz (kh3 ?_)))
 refine CW.ret ?_
 refine bodyA.ret1 rfl rfl ?_
 refine ⟨congrArg Value.bool (decide_eq_decide.2 (by omega)), rfl⟩

set_option maxRecDepth 8000 in
theorem live_spec (w : World) (hg : GW w) : Ret Tryz.prog 8 [] w fun u w' => u = .bool true ∧ Chg [] w w' := by
 have hch : Chg [] w w := Chg.refl _ _
 have hg0 := hg
 refine Ret.enter Tryz.func8 rfl rfl ?_
 simp only [args0, Nat.zero_add, Nat.reduceAdd]
 refine Sr fun _ kh1 => za rfl (zz (kh1 (Sr fun _ kh3 => ?_)))
 refine WL.buildSlice (m := 3) (cs := [f64v (4607182418800017408), f64v (4611686018427387904), f64v (4618441417868443648)]) (by decide) (by decide) rfl (by kernel_rfl) rfl fun b8 w8 hn8 => ?_
 have hcm8 := hn8.chg
 have hge8 := hn8.ge
 have hb8 : FB w8 b8 _ [4607182418800017408, 4611686018427387904, 4618441417868443648] := hn8.at_
 have hgehch8 := Nat.le_trans hch.size hge8
 have hch := hch.trans (Chg.any hcm8)
 refine WL.ev (Ev.build (vs := _) (cs := [_, _]) rfl rfl) rfl ?_
 refine WL.call hasF15 rfl rfl (Mean_spec _ lv1 0 0 0 _ (NF.of_row hb8.row (by decide) (by decide) rfl (by decide)) (hg0.keep0 hch)) fun v w1 h' => ?_
 obtain ⟨⟨bits, e, rfl, hM⟩, hC10⟩ := h'
 obtain ⟨rfl, rfl⟩ := live_mean hM
 have hch := hch.trans (Chg.any hC10)
 have hb8 := hb8.keep0 hC10
 refine zm rfl (zx rfl rfl (zx rfl rfl (za rfl (za rfl (zz (kh3 (Sr fun _ kh5 => ?_)))))))
 refine WL.buildSlice (m := 2) (cs := [f64v (4607182418800017408), f64v (4611686018427387904)]) (by decide) (by decide) rfl (by kernel_rfl) rfl fun b14 w14 hn14 => ?_
 have hcm14 := hn14.chg
 have hge14 := hn14.ge
 have hb14 : FB w14 b14 _ [4607182418800017408, 4611686018427387904] := hn14.at_
 have hgehch14 := Nat.le_trans hch.size hge14
 have hch := hch.trans (Chg.any hcm14)
 have hneb814 : b8 ≠ b14 := by have := hb8.lt; omega
 have hb8 := hb8.keep0 hcm14
 refine WL.buildSlice (m := 2) (cs := [f64v (4607182418800017408), f64v (4613937818241073152)]) (by decide) (by decide) rfl (by kernel_rfl) rfl fun b15 w15 hn15 => ?_
 have hcm15 := hn15.chg
 have hge15 := hn15.ge
 have hb15 : FB w15 b15 _ [4607182418800017408, 4613937818241073152] := hn15.at_
 have hgehch15 := Nat.le_trans hch.size hge15
 have hch := hch.trans (Chg.any hcm15)
 have hneb815 : b8 ≠ b15 := by have := hb8.lt; omega
 have hb8 := hb8.keep0 hcm15
 have hneb1415 : b14 ≠ b15 := by have := hb14.lt; omega
 have hb14 := hb14.keep0 hcm15
 refine WL.call hasF25 rfl rfl (Weighted_spec _ _ lv2 lv3 0 _ (NF.of_row hb14.row (by decide) (by decide) rfl (by decide)) (NF.of_row hb15.row (by decide) (by decide) rfl (by decide)) (hg0.keep0 hch)) fun v w2 h' => ?_
 obtain ⟨⟨bits, e, rfl, hM⟩, hC16⟩ := h'
 obtain ⟨rfl, rfl⟩ := live_wt hM
 have hch := hch.trans (Chg.any hC16)
 have hb8 := hb8.keep0 hC16
 have hb14 := hb14.keep0 hC16
 have hb15 := hb15.keep0 hC16
 refine zm rfl (zx rfl rfl (zx rfl rfl (za rfl (za rfl (zz (kh5 (Sr fun _ kh7 => ?_)))))))
 refine WL.call hasF29 rfl rfl (Middle_spec _ _ 0 _ (by decide) (by decide) (hg0.keep0 hch)) fun v w3 h' => ?_
 obtain ⟨⟨bits, e, rfl, hM⟩, hC20⟩ := h'
 obtain ⟨rfl, rfl⟩ := live_mid hM
 have hch := hch.trans (Chg.any hC20)
 have hb8 := hb8.keep0 hC20
 have hb14 := hb14.keep0 hC20
 have hb15 := hb15.keep0 hC20
 refine zm rfl (zx rfl rfl (zx rfl rfl (za rfl (za rfl (zz (kh7 (Sr fun _ kh9 => zm rfl (zq rfl rfl (zm rfl (zw rfl (zm rfl (zw rfl ?_))))))))))))
 refine WL.ev (Ev.feql rfl rfl) rfl ?_
 rw [show (FloatKind.f64.format.order 4613937818241073152 4613937818241073152 == some .eq) = true by rw [Fl.order_self_eq]; decide]
 refine zt rfl rfl (zm rfl (zw rfl (zm rfl (zw rfl (zq rfl rfl (zt rfl rfl (zm rfl (zw rfl (zm rfl (zw rfl ?_))))))))))
 refine WL.ev (Ev.feql rfl rfl) rfl ?_
 rw [show (FloatKind.f64.format.order 4610560118520545280 4610560118520545280 == some .eq) = true by rw [Fl.order_self_eq]; decide]
 refine zt rfl rfl (zm rfl (zw rfl (zm rfl (zw rfl (zq rfl rfl (zt rfl rfl (zm rfl (zw rfl (zm rfl (zw rfl ?_))))))))))
 refine WL.ev (Ev.feql rfl rfl) rfl ?_
 rw [show (FloatKind.f64.format.order 4609434218613702656 4609434218613702656 == some .eq) = true by rw [Fl.order_self_eq]; decide]
 refine zt rfl rfl (za rfl (zz (kh9 ?_)))
 refine CW.ret ?_
 refine bodyA.ret1 rfl rfl ?_
 exact ⟨rfl, hch⟩

end Go.Proofs.YtphnpchmdpjabaaGreatDoor

/- Package steelyardlaw13: MeanLong. No condition. -/
namespace Go.Proofs.YtphnpchmdpjabaaGreatDoor
open Go Sx Wd Fl

structure KLg (n x b c : Nat) (w0 : World) (i : Nat) (w : World) : Prop where
  hi : i ≤ n
  hB : FB w b 28 (List.replicate i x ++ List.replicate (n - i) 0)
  hC : FB w c 28 (List.replicate i 4613937818241073152 ++ List.replicate (n - i) 0)
  ch : Chg [] w0 w

set_option maxRecDepth 8000 in
set_option maxHeartbeats 4000000 in
theorem MeanLong_spec (n : Int) (x : Nat) (mode : Int) (w : World) (hg : GW w) (hn : -9223372036854775808 ≤ n ∧ n ≤ 9223372036854775807) (hx : x < 18446744073709551616) (hmode : -9223372036854775808 ≤ mode ∧ mode ≤ 9223372036854775807) : Ret Tryz.prog 6 [.int .i64 n, .float .f64 x, .int .i64 mode] w fun u w' => u = .bool true ∧ Chg [] w w' := by
 have hch : Chg [] w w := Chg.refl _ _
 have hg0 := hg
 refine Ret.enter Tryz.func6 rfl rfl ?_
 simp only [args0, Nat.zero_add, Nat.reduceAdd]
 refine Sr fun _ kh1 => za rfl (zz (kh1 (Sr fun _ kh3 => ?_)))
 refine WL.call hasF8 rfl rfl (live_spec _ (hg0.keep0 hch)) fun v w1 h' => ?_
 obtain ⟨rfl, hC⟩ := h'
 have hch := hch.trans (Chg.any hC)
 refine za rfl (zz (kh3 (zc fun _ kh5 => Sr fun _ kh6 => zm rfl ?_)))
 refine WL.ev (Ev.lss rfl rfl) rfl ?_
 refine zm rfl ?_
 refine WL.boolCase (fun hg1 => ?_) (fun hg1 => ?_)
 ·
  try simp only [qs] at hg1
  have hq := hg1
  refine zv rfl (zv rfl (zt rfl rfl (zm rfl (zv rfl (zv rfl (zv rfl (zv rfl (zt rfl rfl (zm rfl (zv rfl (zv rfl (zt rfl rfl (zm rfl (zv rfl (zv rfl (zt rfl rfl (zz (kh6 ?_))))))))))))))))))
  refine CW.condT rfl ?_
  refine Sr fun _ kh8 => zm rfl (za rfl (zz (kh8 ?_)))
  refine CW.ret ?_
  refine bodyA.ret1 rfl rfl ?_
  exact ⟨rfl, hch⟩
 ·
  try simp only [qs] at hg1
  have h1 : 65535 ≤ n := by have := hg1; omega
  refine zw rfl (zm rfl (zw rfl ?_))
  refine WL.ev (Ev.gtr rfl rfl) rfl ?_
  refine ze rfl rfl (zm rfl ?_)
  refine WL.boolCase (fun hg2 => ?_) (fun hg2 => ?_)
  ·
   try simp only [qs] at hg2
   have hq := hg2
   refine zv rfl (zv rfl (zv rfl (zv rfl (zt rfl rfl (zm rfl (zv rfl (zv rfl (zt rfl rfl (zm rfl (zv rfl (zv rfl (zt rfl rfl (zz (kh6 ?_))))))))))))))
   refine CW.condT rfl ?_
   refine Sr fun _ kh10 => zm rfl (za rfl (zz (kh10 ?_)))
   refine CW.ret ?_
   refine bodyA.ret1 rfl rfl ?_
   exact ⟨rfl, hch⟩
  ·
   try simp only [qs] at hg2
   have h2 : n ≤ 65538 := by have := hg2; omega
   refine zw rfl (zm rfl (zw rfl (zm rfl (zw rfl ?_))))
   refine WL.fsubSelf rfl rfl rfl fun r29 w29 hc29 hr29 ho29 => ?_
   have hch := hch.trans hc29
   refine zw rfl ?_
   refine WL.ev (Ev.fneq rfl rfl) rfl ?_
   rw [show (FloatKind.f64.format.order r29 0 != some .eq) = !decide ((splitP x).cls ≤ 2) from by rw [← ho29]; rfl]
   refine ze rfl rfl (zm rfl ?_)
   refine WL.boolCase (fun hg3 => ?_) (fun hg3 => ?_)
   ·
    try simp only [qs] at hg3
    have hq := hg3
    refine zv rfl (zv rfl (zt rfl rfl (zm rfl (zv rfl (zv rfl (zt rfl rfl (zz (kh6 ?_))))))))
    refine CW.condT rfl ?_
    refine Sr fun _ kh12 => zm rfl (za rfl (zz (kh12 ?_)))
    refine CW.ret ?_
    refine bodyA.ret1 rfl rfl ?_
    exact ⟨rfl, hch⟩
   ·
    try simp only [qs] at hg3
    have hfx : (splitP x).cls ≤ 2 := by have := hg3; simpa using this
    refine zw rfl (zm rfl (zw rfl ?_))
    refine WL.ev (Ev.lss rfl rfl) rfl ?_
    refine ze rfl rfl (zm rfl ?_)
    refine WL.boolCase (fun hg4 => ?_) (fun hg4 => ?_)
    ·
     try simp only [qs] at hg4
     have hq := hg4
     refine zv rfl (zv rfl (zt rfl rfl (zz (kh6 ?_))))
     refine CW.condT rfl ?_
     refine Sr fun _ kh14 => zm rfl (za rfl (zz (kh14 ?_)))
     refine CW.ret ?_
     refine bodyA.ret1 rfl rfl ?_
     exact ⟨rfl, hch⟩
    ·
     try simp only [qs] at hg4
     have h3 : 0 ≤ mode := by have := hg4; omega
     refine zw rfl (zm rfl (zw rfl ?_))
     refine WL.ev (Ev.gtr rfl rfl) rfl ?_
     refine ze rfl rfl (zz (kh6 ?_))
     refine CW.cond rfl (fun hc5 => ?_) (fun hc5 => ?_)
     ·
      try simp only [qs] at hc5
      have hq := hc5
      refine Sr fun _ kh16 => zm rfl (za rfl (zz (kh16 ?_)))
      refine CW.ret ?_
      refine bodyA.ret1 rfl rfl ?_
      exact ⟨rfl, hch⟩
     ·
      try simp only [qs] at hc5
      have hm : 0 ≤ mode ∧ mode ≤ 4 := by have := hc5; omega
      obtain ⟨nn, rfl⟩ := Int.eq_ofNat_of_zero_le (show 0 ≤ n by omega)
      refine CW.skip ?_
      refine kh5 (Sr fun _ kh18 => zm rfl ?_)
      refine WL.makeF (nn) (nn) rfl rfl (by omega) (by omega) (by omega) (by omega) (by omega) rfl fun b42 wm42 hb42 hcm42 hge42 => ?_
      have hgehch42 := Nat.le_trans hch.size hge42
      have hch := hch.trans (Chg.any hcm42)
      refine za rfl (zz (kh18 (Sr fun _ kh20 => zm rfl ?_)))
      refine WL.makeF (nn) (nn) rfl rfl (by omega) (by omega) (by omega) (by omega) (by omega) rfl fun b44 wm44 hb44 hcm44 hge44 => ?_
      have hgehch44 := Nat.le_trans hch.size hge44
      have hch := hch.trans (Chg.any hcm44)
      have hneb4244 : b42 ≠ b44 := by have := hb42.lt; omega
      have hb42 := hb42.keep0 hcm44
      refine za rfl (zz (kh20 (zc fun _ kh22 => Sr fun _ kh23 => za rfl (zz (kh23 ?_)))))
      refine CW.block ?_
      refine CW.loop (S := fun i : Nat => [(0, .int .i64 (nn : Int)), (1, .float .f64 x), (2, .int .i64 mode), (7, .bool true), (8, .slice (some ⟨b42, 0, none⟩) nn nn), (9, .slice (some ⟨b44, 0, none⟩) nn nn), (10, .int .i64 (i : Int))]) (Inv := KLg nn x b42 b44 w) (mu := fun i => nn - i) (0) ?_ ?_ ?_
      ·
       exact ⟨Nat.zero_le _, hb42, hb44, hch⟩
      ·
       exact SLp
      ·
       rintro i wr ⟨hi, hb42, hb44, hch⟩
       have hne : b42 ≠ b44 := hneb4244
       refine zc fun _ kh25 => Sr fun _ kh26 => zm rfl (zm rfl ?_)
       refine WL.ev (Ev.lss rfl rfl) rfl ?_
       refine zz (kh26 ?_)
       refine CW.cond rfl (fun hc6 => ?_) (fun hc6 => ?_)
       ·
        try simp only [qs] at hc6
        obtain ⟨m, hmm⟩ : ∃ m, nn - i = m + 1 := ⟨nn - i - 1, by omega⟩
        rw [hmm] at hb42 hb44
        have hlA : (List.replicate i x ++ List.replicate (m + 1) 0).length = nn := by simp; omega
        have hlB : (List.replicate i 4613937818241073152 ++ List.replicate (m + 1) 0).length = nn := by simp; omega
        generalize hA : List.replicate i x ++ List.replicate (m + 1) 0 = LA at *
        generalize hBB : List.replicate i 4613937818241073152 ++ List.replicate (m + 1) 0 = LB at *
        skip
        refine CW.skip ?_
        refine kh25 (zc fun _ kh28 => ?_)
        refine CW.block ?_
        refine Sr fun _ kh29 => zm rfl (zm rfl (zm rfl ?_))
        refine WL.ev (Ev.ixB (i) rfl rfl (by omega) (by omega)) rfl ?_
        refine WL.storeF rfl rfl hb42 (by first | omega | (simp; done) | (simp; omega)) fun ws1 hb42_ hcs1 => ?_
        have hch := hch.s1 hcs1
        have hb44 := hb44.keep hcs1 (by simp; omega)
        have hb42 := hb42_
        refine zz (kh29 ?_)
        refine CW.region fun kR31 kr31 => ?_
        refine zm rfl (zm rfl ?_)
        refine WL.ev (Ev.ixB (i) rfl rfl (by omega) (by omega)) rfl ?_
        refine WL.storeF rfl rfl hb44 (by first | omega | (simp; done) | (simp; omega)) fun ws2 hb44_ hcs2 => ?_
        have hch := hch.s1 hcs2
        have hb42 := hb42.keep hcs2 (by simp; omega)
        have hb44 := hb44_
        refine WL.nil (kr31 _ _ _ (kh28 ?_))
        refine CW.region fun kR32 kr32 => ?_
        refine zm rfl ?_
        first | refine WL.ev (Ev.addIn rfl rfl (by omega)) rfl ?_ | refine WL.ev (Ev.add rfl rfl) rfl ?_
        refine za rfl ?_
        refine WL.nil (kr32 _ _ _ ?_)
        refine ⟨rfl, i + 1, ?_, ?_, ?_⟩
        ·
         exact SLp
        ·
         refine ⟨by omega, ?_, ?_, hch⟩
         · rw [← hA, rep_set] at hb42; rw [show nn - (i + 1) = m by omega]; exact hb42
         · rw [← hBB, rep_set] at hb44; rw [show nn - (i + 1) = m by omega]; exact hb44
        ·
         show nn - (i + 1) < nn - i; omega
       ·
        try simp only [qs] at hc6
        have hiX : i = nn := by omega
        subst hiX
        rw [Nat.sub_self] at hb42 hb44
        simp only [List.replicate_zero, List.append_nil] at hb42 hb44
        refine CW.exit ?_
        refine kh22 (Sr fun _ kh33 => zm rfl (zm rfl ?_))
        refine WL.ev (Ev.build (vs := _) (cs := [_, _]) rfl rfl) rfl ?_
        refine WL.call hasF15 rfl rfl (Mean_spec _ (List.replicate i x) mode 0 0 _ (NF.of_row hb42.row (by intro z hz; rw [List.eq_of_mem_replicate hz]; first | exact hx | decide) (by simp; omega) (by simp) (by omega)) (hg0.keep0 hch)) fun v w2 h' => ?_
        obtain ⟨⟨bA, eA, rfl, hMA⟩, hC⟩ := h'
        have hch := hch.trans (Chg.any hC)
        have hb42 := hb42.keep0 hC
        have hb44 := hb44.keep0 hC
        refine zm rfl (zx rfl rfl (zx rfl rfl (za rfl (za rfl (zz (kh33 (Sr fun _ kh35 => zm rfl (zm rfl (zm rfl ?_)))))))))
        refine WL.call hasF25 rfl rfl (Weighted_spec _ _ (List.replicate i x) (List.replicate i 4613937818241073152) mode _ (NF.of_row hb42.row (by intro z hz; rw [List.eq_of_mem_replicate hz]; first | exact hx | decide) (by simp; omega) (by simp) (by omega)) (NF.of_row hb44.row (by intro z hz; rw [List.eq_of_mem_replicate hz]; first | exact hx | decide) (by simp; omega) (by simp) (by omega)) (hg0.keep0 hch)) fun v w3 h' => ?_
        obtain ⟨⟨bB, eB, rfl, hMB⟩, hC⟩ := h'
        have hch := hch.trans (Chg.any hC)
        have hb42 := hb42.keep0 hC
        have hb44 := hb44.keep0 hC
        refine zm rfl (zx rfl rfl (zx rfl rfl (za rfl (za rfl (zz (kh35 (Sr fun _ kh37 => zm rfl (zm rfl ?_))))))))
        refine WL.call hasF22 rfl rfl (mTrimmed_spec _ (List.replicate i x) 32767 mode _ (NF.of_row hb42.row (by intro z hz; rw [List.eq_of_mem_replicate hz]; first | exact hx | decide) (by simp; omega) (by simp) (by omega)) (by decide) (hg0.keep0 hch)) fun v w4 h' => ?_
        obtain ⟨⟨bC, eC, rfl, hMC⟩, hC⟩ := h'
        have hch := hch.trans (Chg.any hC)
        have hb42 := hb42.keep0 hC
        have hb44 := hb44.keep0 hC
        refine zm rfl (zx rfl rfl (zx rfl rfl (za rfl (za rfl (zz (kh37 (Sr fun _ kh39 => zm rfl (zm rfl ?_))))))))
        refine WL.ev (Ev.sliceLn (1) rfl rfl (by omega) (by omega)) rfl ?_
        refine zm rfl ?_
        refine WL.call hasF25 rfl rfl (Weighted_spec _ _ (List.replicate i x) ((List.replicate i 4613937818241073152).drop 1) mode _ (NF.of_row hb42.row (by intro z hz; rw [List.eq_of_mem_replicate hz]; first | exact hx | decide) (by simp; omega) (by simp) (by omega)) (NF.tail_ (lo := 1) (NF.of_row hb44.row (by intro z hz; rw [List.eq_of_mem_replicate hz]; first | exact hx | decide) (by simp; omega) (by simp) (by omega)) (by simp; omega)) (hg0.keep0 hch)) fun v w5 h' => ?_
        obtain ⟨⟨bD, eD, rfl, hMD⟩, hC⟩ := h'
        have hch := hch.trans (Chg.any hC)
        have hb42 := hb42.keep0 hC
        have hb44 := hb44.keep0 hC
        refine zm rfl (zx rfl rfl (zx rfl rfl (za rfl (za rfl (zz (kh39 (zc fun _ kh41 => Sr fun _ kh42 => zm rfl ?_)))))))
        refine WL.ev (Ev.gtr rfl rfl) rfl ?_
        refine zz (kh42 ?_)
        refine CW.cond rfl (fun hc7 => ?_) (fun hc7 => ?_)
        ·
         try simp only [qs] at hc7
         have hbig : 65536 < (List.replicate i x).length := by simp; omega
         obtain ⟨rfl, rfl⟩ := long_mean hMA hm hbig
         obtain ⟨rfl, rfl⟩ := long_wt hMB hm hbig
         obtain ⟨rfl, rfl⟩ := long_trim hMC hm (by decide) hbig
         obtain ⟨rfl, rfl⟩ := long_wt hMD hm hbig
         refine Sr fun _ kh44 => zm rfl (zm rfl (zw rfl (zm rfl (zw rfl (zq rfl rfl ?_)))))
         rw [decide_eq_true rfl]
         refine zt rfl rfl (zm rfl (zw rfl (zm rfl (zw rfl (zq rfl rfl ?_)))))
         rw [decide_eq_true rfl]
         refine zt rfl rfl (zm rfl (zw rfl (zm rfl (zw rfl (zq rfl rfl ?_)))))
         rw [decide_eq_true rfl]
         refine zt rfl rfl (zm rfl (zw rfl (zm rfl (zw rfl (zq rfl rfl ?_)))))
         rw [decide_eq_true rfl]
         refine zt rfl rfl (zm rfl (zw rfl (zm rfl (zw rfl ?_))))
         refine WL.call hasF13 rfl rfl (exact_spec _ _ _) fun v w6 h' => ?_
         obtain ⟨rfl, rfl⟩ := h'
         rw [decide_eq_true rfl]
         refine zt rfl rfl (zm rfl (zw rfl (zm rfl (zw rfl ?_))))
         refine WL.call hasF13 rfl rfl (exact_spec _ _ _) fun v w7 h' => ?_
         obtain ⟨rfl, rfl⟩ := h'
         rw [decide_eq_true rfl]
         refine zt rfl rfl (zm rfl (zw rfl (zm rfl (zw rfl ?_))))
         refine WL.call hasF13 rfl rfl (exact_spec _ _ _) fun v w8 h' => ?_
         obtain ⟨rfl, rfl⟩ := h'
         rw [decide_eq_true rfl]
         refine zt rfl rfl (za rfl (zz (kh44 ?_)))
         refine CW.ret ?_
         refine bodyA.ret1 rfl rfl ?_
         exact ⟨rfl, hch⟩
        ·
         try simp only [qs] at hc7
         have hsm : i ≤ 65536 := by omega
         obtain ⟨rfl, rfl⟩ := mean_like hMA hfx hx (by omega) hsm hm
         have hlr := List.length_replicate (n := i) (a := bA)
         obtain ⟨rfl, hzc, hxc, hzx⟩ := wt_same (l := List.replicate i bA) (w := 4613937818241073152) (finL_rep hfx) (fun z hz => by rw [List.eq_of_mem_replicate hz]; exact hx) (by omega) (by rw [Ne, ← List.length_eq_zero_iff]; omega) hm three.1 three.2 (by rw [hlr]; exact hMB) hMA
         obtain ⟨rfl, rfl⟩ := trim_like (k := 32767) hMC hfx hx hsm (by omega) hm
         obtain rfl := wt_len hMD hm (by omega) (by simp; omega) (by simp; omega)
         refine CW.skip ?_
         refine kh41 (Sr fun _ kh46 => zm rfl (zm rfl (zw rfl (zm rfl (zw rfl (zq rfl rfl ?_))))))
         rw [decide_eq_true rfl]
         refine zt rfl rfl (zm rfl (zw rfl (zm rfl (zw rfl (zq rfl rfl ?_)))))
         rw [decide_eq_true rfl]
         refine zt rfl rfl (zm rfl (zw rfl (zm rfl (zw rfl (zq rfl rfl ?_)))))
         rw [decide_eq_true rfl]
         refine zt rfl rfl (zm rfl (zw rfl (zm rfl (zw rfl (zq rfl rfl ?_)))))
         rw [decide_eq_true rfl]
         refine zt rfl rfl (zm rfl (zw rfl (zm rfl (zw rfl (zm rfl (zw rfl ?_))))))
         refine WL.call hasF13 rfl rfl (exact_spec _ _ _) fun v w9 h' => ?_
         obtain ⟨rfl, rfl⟩ := h'
         rw [decide_eq_true rfl]
         refine zt rfl rfl (zm rfl (zw rfl (zm rfl (zw rfl (zm rfl (zw rfl ?_))))))
         refine WL.ev (Ev.feql rfl rfl) rfl ?_
         rw [feq_val hzc hxc hzx]
         refine zt rfl rfl (zm rfl (zw rfl (zm rfl (zw rfl (zm rfl (zw rfl ?_))))))
         refine WL.call hasF13 rfl rfl (exact_spec _ _ _) fun v w10 h' => ?_
         obtain ⟨rfl, rfl⟩ := h'
         rw [decide_eq_true rfl]
         refine zt rfl rfl (za rfl (zz (kh46 ?_)))
         refine CW.ret ?_
         refine bodyA.ret1 rfl rfl ?_
         exact ⟨rfl, hch⟩

end Go.Proofs.YtphnpchmdpjabaaGreatDoor

/- What came in, opened; the listed table, opened. No condition. -/
namespace Go.Proofs.YtphnpchmdpjabaaGreatDoor
open Go Sx Wd
open Go.ChangeShapes Go.WideShapes Go.ChangeAt Go.WideMaps Go.WideElems Go.RowKit

theorem own : ownKnob Tryz.prog.godebug = none := by kernel_rfl
theorem laidOut : laidOutB Tryz.prog = true := by kernel_rfl
theorem door_met (os : Os) (args : Array Value) : laidMetH Tryz.prog [("math/bits.deBruijn32tab", Rows.laid_math_bits_deBruijn32tab)] ((World.doorLaid Tryz.prog 400 os).forCall (fun _ _ => 0) ⟨#[], args, []⟩).memory :=
  laidMetH_of_parts3 (fuel := 8) (laidMet_of_run' 8 (by kernel_rfl) (by kernel_rfl)) (by kernel_rfl) (by kernel_rfl)
theorem gDeb : Tryz.prog.globalNamed "math/bits.deBruijn32tab" = some 1 := by kernel_rfl
theorem tDeb : (Tryz.prog.globals[1]?).map (·.type) = some 199 := by kernel_rfl
theorem deb_data {H : Type} : (Rows.laid_math_bits_deBruijn32tab : DataW H) = .agg (deb.map fun n : Nat => .lit (.int .u8 (n : Int))) := rfl
theorem gw_of_laid {W : World} (h : laidMetH Tryz.prog [("math/bits.deBruijn32tab", Rows.laid_math_bits_deBruijn32tab)] W) : GW W := by
  rw [MakeChecks.laidMetH_plain _ _ _ (by kernel_rfl)] at h
  obtain ⟨ps, ⟨g0, t0, cs0, f0, p0, q0, hg0, ht0, hv0, hd0, _, _⟩, _, _⟩ := h
  obtain rfl := Option.some.inj (gDeb.symm.trans hg0)
  obtain rfl := Option.some.inj (tDeb.symm.trans ht0)
  obtain ⟨xs, m1, rfl, hx1, hlen, hn3, hel⟩ := DataW.trod_array Tryz.underlying199 hd0
  have c8 : Tryz.prog.cellsOf 5 = 1 := by kernel_rfl
  simp only [Prod.mk.injEq] at hx1
  intro i hi
  have hi' := hel i hi
  rw [c8, Nat.mul_one] at hi'
  have hxi : xs[i]? = some (xs[i]'(by omega)) := List.getElem?_eq_getElem (by omega)
  rw [hxi] at hi'
  obtain ⟨k, e1, e2, _⟩ := DataW.trod_int Tryz.underlying5 hi'
  have hxs : (deb.map fun n : Nat => (DataW.lit (.int .u8 (n : Int)) : DataW Unit)) = xs.map (·.1) := by
    have := hx1.1
    rw [deb_data] at this
    exact DataW.agg.inj this
  have hdat : (deb.map fun n : Nat => (DataW.lit (.int .u8 (n : Int)) : DataW Unit))[i]? = some (.lit (.int .u8 ((deb.getD i 0 : Nat) : Int))) := by
    rw [List.getElem?_map, List.getElem?_eq_getElem (show i < deb.length from hi), List.getD_eq_getElem?_getD, List.getElem?_eq_getElem (show i < deb.length from hi)]; rfl
  rw [hxs, List.getElem?_map, hxi] at hdat
  simp only [Option.map_some] at hdat
  rw [e2] at hdat
  have hk : k = ((deb.getD i 0 : Nat) : Int) := by
    have := Option.some.inj hdat
    simp only [DataW.lit.injEq, Lit.int.injEq, true_and] at this
    exact this
  subst hk
  have hc : cs0[i]? = some (.int .u8 ((deb.getD i 0 : Nat) : Int)) := by
    have h3 : (cs0.toList.drop i)[0]? = some (.int .u8 ((deb.getD i 0 : Nat) : Int)) := by
      have := congrArg (fun l : List Value => l[0]?) e1
      simpa using this
    simpa using h3
  have := World.var?_cell hg0 hv0 i
  rw [hc] at this
  exact this

/-- One float cell, read. -/
theorem float_cell {H : Type} {enc : TypeId × Value → H} {P : Program} {w : World} {base : Nat} {spare : Nat → Bool} {held : Bool} {n : Nat} {e : TypeId} {v : Value} {x : DataW H × List MemPlace} (he : P.underlying e = some (.float .f64)) (h : DataW.trod enc P w base spare held n e [v] = some x) : ∃ b, v = .float .f64 b ∧ b < 18446744073709551616 := by
  cases n with
  | zero => simp [DataW.trod] at h
  | succ n =>
    simp only [DataW.trod, he] at h
    cases v <;> simp_all
    rename_i k b
    cases k <;> simp_all [Lit.wf]
theorem open_float1 {H : Type} {enc : TypeId × Value → H} {P : Program} {w : World} {base b0 : Nat} {spare : Nat → Bool} {held : Bool} {t : TypeId} {v : Value} {d : DataW H} {ps : List MemPlace} (ht : P.underlying t = some (.float .f64)) (hval : Value.okWide P w .any b0 t v) (h : DataW.Trod enc P w base spare held t v d ps) :
    ∃ b, v = .float .f64 b ∧ b < 18446744073709551616 := by
  obtain ⟨fuel, hf⟩ := h
  simp only [Value.okWide, ht, Cell.okWide] at hval
  have hv : ∃ k b, v = .float k b := by cases v <;> simp_all [Cell.ok]
  obtain ⟨k, b, rfl⟩ := hv
  exact float_cell ht (show DataW.trod enc P w base spare held fuel t [.float k b] = some (d, ps) from by simpa [Value.cells] using hf)
end Go.Proofs.YtphnpchmdpjabaaGreatDoor

/- The statement on MeanLong. -/
namespace Go.Proofs.YtphnpchmdpjabaaGreatDoor.meanLong
open Go.ChangeShapes Go.WideShapes Go.ChangeAt Go.RowKit

set_option maxRecDepth 100000 in
theorem lifted (os : Os) (started : os.Started) (H : Type) (enc : TypeId × Value → H) :
    ReturnsInHanded {} Tryz.checked os 6 .any (fun w args => (Rows.meanLongSpec.pre enc Tryz.prog Tryz.f6 Rows.meanLongRow.domain false w args ∧ laidMetH Tryz.prog [("math/bits.deBruijn32tab", Rows.laid_math_bits_deBruijn32tab)] w) ∧ sizedMet enc Tryz.prog Tryz.f6 (OpenSpec.ofChange Rows.meanLongSpec) false w args) (Rows.meanLongSpec.post enc Tryz.prog Tryz.f6 false true false false) := by
  refine returnsInHanded_of_change_and (C := Tryz.checked) (X := fun w _ => laidMetH Tryz.prog [("math/bits.deBruijn32tab", Rows.laid_math_bits_deBruijn32tab)] w) (fun _ _ _ hh h => h.of_heap hh) own started (by kernel_rfl) Tryz.func6
    (ChangeSpec.witness_shaped (enc := enc) (C := Tryz.checked) (os := os) (X := fun w _ => laidMetH Tryz.prog [("math/bits.deBruijn32tab", Rows.laid_math_bits_deBruijn32tab)] w) false (World.doorLaid Tryz.prog 400 os) #[.int .i64 0, .float .f64 0, .int .i64 0] 8 rfl (World.shaped_of_RefB (by kernel_rfl) (by kernel_rfl)) (by kernel_rfl) (by kernel_rfl) (by kernel_rfl) (door_met os _)) ?_
  intro W base args ds gs before hval0 hW hcnd hsz0 hL _
  have hGW := gw_of_laid hL
  have hval : ∀ (j : Nat) t v, Tryz.f6.params[j]? = some t → args[j]? = some v → Value.okWide Tryz.prog W .any base t v := hval0
  have hsz : (DataW.weightsEach Tryz.prog (Tryz.f6.params.toList ++ []) (ds ++ gs)).all (· ≤ reachBytes) = true := hsz0
  have hW' := hW
  obtain ⟨p, q, hA0, hV, rfl, hfz, hnd⟩ := hW
  have hA : DataW.TrodAll enc Tryz.prog W 0 (fun _ => true) true Tryz.f6.params.toList args.toList ds p := hA0
  rw [Tryz.params6] at hA hval hsz
  obtain ⟨v0, vs0, d0, ds0, p0, q0, hargs, rfl, rfl, h0, r0⟩ := trodAll_cons hA
  obtain ⟨v1, vs1, d1, ds1, p1, q1, rfl, rfl, rfl, h1, r1⟩ := trodAll_cons r0
  obtain ⟨v2, vs2, d2, ds2, p2, q2, rfl, rfl, rfl, h2, r2⟩ := trodAll_cons r1
  obtain ⟨rfl, rfl, rfl⟩ := trodAll_nil r2
  obtain rfl : args = #[v0, v1, v2] := by cases args; simp_all
  obtain ⟨rfl, rfl⟩ := trodVars_none hV
  simp only [List.append_nil] at hsz
  have k0 := h0
  have lt0 : ∀ x ∈ p0, x.block < W.heap.size := by obtain ⟨m, hm⟩ := k0; exact DataW.trod_lt m _ _ _ hm
  obtain ⟨a0, rfl, _, _, wf0⟩ := open_int Tryz.underlying3 (hval 0 3 v0 rfl rfl) h0
  have bd0 := bounds_i64 wf0
  have k1 := h1
  have lt1 : ∀ x ∈ p1, x.block < W.heap.size := by obtain ⟨m, hm⟩ := k1; exact DataW.trod_lt m _ _ _ hm
  obtain ⟨a1, rfl, bd1⟩ := open_float1 Tryz.underlying28 (hval 1 28 v1 rfl rfl) h1
  have k2 := h2
  have lt2 : ∀ x ∈ p2, x.block < W.heap.size := by obtain ⟨m, hm⟩ := k2; exact DataW.trod_lt m _ _ _ hm
  obtain ⟨a2, rfl, _, _, wf2⟩ := open_int Tryz.underlying3 (hval 2 3 v2 rfl rfl) h2
  have bd2 := bounds_i64 wf2
  clear hA0 hval0
  refine Calls.mono (MeanLong_spec a0 a1 a2 W hGW bd0 bd1 bd2) fun e W' ⟨v, he, hv, hc⟩ => ?_
  subst he
  subst hv
  have bel : Below W.heap.size W W' := hc.below
  exact ⟨_, rfl, _, _, _, [], _, [], hW', trodAll_mk1 (shut_bool Tryz.underlying4 _), (trodAll_cons_mk (Below.trod laidOut (by kernel_rfl) (of_decide_eq_true (by kernel_rfl)) k0 bel lt0) (trodAll_cons_mk (Below.trod laidOut (by kernel_rfl) (of_decide_eq_true (by kernel_rfl)) k1 bel lt1) (trodAll_cons_mk (Below.trod laidOut (by kernel_rfl) (of_decide_eq_true (by kernel_rfl)) k2 bel lt2) trodAll_mk0))), rfl, bel.frame _, fun h => by cases h⟩

theorem over : Rows.meanLongRow.holds Tryz.pinned (OpenSpec.ofChange Rows.meanLongSpec) :=
  OpenClaim.holds_of_wide 6 Tryz.f6 rfl rfl rfl rfl rfl rfl rfl ⟨rfl, rfl, rfl, rfl, rfl⟩ rfl rfl rfl rfl rfl (by kernel_rfl) Tryz.func6 (by kernel_rfl)
    (of_decide_eq_true (by kernel_rfl)) (by unfold Func.isWrapper; first | (rw [if_pos (by decide +kernel)]; kernel_rfl) | (rw [if_neg (by decide +kernel)]; exact ⟨rfl, rfl⟩))
    (fun os started H enc _ => lifted os started H enc)

theorem proved : Rows.MeanLongCardSaid :=
  Claim7.holds_tied_plain_at .later [] [.data] true Rows.meanLongCard.stood.harness false
    over (fun _ h => by cases h) (by kernel_rfl) (fun _ h => by cases h) meanLong_row_tie rfl ⟨rfl, rfl⟩ (by kernel_rfl) rfl
    (fun f fn hf hfn => by
      obtain rfl : f = 6 := Option.some.inj ((show Tryz.prog.funcNamed "steelyard/steelyardlaw13.MeanLong" = some 6 by kernel_rfl).symm.trans hf) |>.symm
      obtain rfl : fn = Tryz.f6 := (Option.some.inj (Tryz.func6.symm.trans hfn)).symm
      exact ⟨by kernel_rfl, fun j t ht => by
        have hm : t ∈ Tryz.f6.params.toList := by simpa using Array.mem_of_getElem? ht
        have hall : (Tryz.f6.params.toList.all fun u => !Tryz.prog.wantsStandIn u) = true := by kernel_rfl
        exact (show Tryz.prog.wantsStandIn t = false by simpa using List.all_eq_true.1 hall t hm)⟩)
    (by kernel_rfl)
end Go.Proofs.YtphnpchmdpjabaaGreatDoor.meanLong
