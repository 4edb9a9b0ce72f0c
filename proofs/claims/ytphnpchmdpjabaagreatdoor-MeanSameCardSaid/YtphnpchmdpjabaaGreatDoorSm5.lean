/- The statement on MeanSame. -/
import Derived.Test.YtphnpchmdpjabaaGreatDoorSm4
import Derived.Shelf.SlGeneric
import Derived.Shelf.SlSortCmp.Whole1
import Derived.Ground.SlsfProg
import Derived.Test.YtphnpchmdpjabaaGreatDoorProg
import Derived.WalkKit
import Derived.ProofKit
import Derived.OpenShut
import Derived.ChangeOld
import Derived.Below
import Derived.Deep.Slices
import Derived.Laws.Cover2
import Derived.LaidMore
import Derived.SizedLaws
import Derived.SevenTiedAt
import Derived.Stop.Joined
import Derived.Test.YtphnpchmdpjabaaGreatDoorRows
import Derived.Test.YtphnpchmdpjabaaGreatDoorTie
import Derived.Test.YtphnpchmdpjabaaGreatDoorCards
set_option linter.unusedVariables false
set_option linter.unusedSimpArgs false
/- Copies of lists of numbers; parts of them. No condition. -/
namespace Go.Proofs.YtphnpchmdpjabaaGreatDoor
open Go Sx Wd Fl

theorem GR.nf {w : World} {e : TypeId} {lo : Nat} {X : List Nat} {v : Value} {l : List Nat} (h : GR w e f64v lo X v l) (hw : ∀ x ∈ l, x < 18446744073709551616) (hl : l.length ≤ 70368744177664) : NF w v l := by
  obtain ⟨a, c, rfl, hc, hr⟩ := h.row
  exact ⟨⟨a, c, rfl, hc, hr⟩, hw, hl⟩
theorem NF.mid {w : World} {a : Option Addr} {l : List Nat} {n c lo hi : Nat} (h : NF w (.slice a n c) l) (h1 : lo ≤ hi) (h2 : hi ≤ l.length) : NF w (.slice (cutAt a lo c 1) (hi - lo) (c - lo)) ((l.drop lo).take (hi - lo)) := by
  obtain ⟨⟨a', c', e, hc, hr⟩, hw, hl⟩ := h
  cases e
  have e1 : ((l.drop lo).take (hi - lo)).length = hi - lo := by rw [List.length_take, List.length_drop]; omega
  refine ⟨⟨cutAt a lo c 1, c - lo, by rw [e1], by omega, ?_⟩, fun x hx => hw x (List.mem_of_mem_drop (List.mem_of_mem_take hx)), by omega⟩
  rw [List.map_take, List.map_drop]
  exact (hr.cut lo c (by simp; omega) (by simpa using hc)).take _
set_option maxRecDepth 8000 in
set_option maxHeartbeats 2000000 in
theorem CloneF_spec (v : Value) (l : List Nat) (w : World) (hv : NF w v l) (hlm : l.length ≤ 1000000) : Ret Tryz.prog 63 [v] w fun u w' => GR w' 28 f64v w.heap.size [] u l ∧ Chg [] w w' := by
 obtain ⟨⟨al, cl, rfl, hcap, hrl⟩, hWl, hll⟩ := hv
 have hch : Chg [] w w := Chg.refl _ _
 refine Ret.enter Tryz.func63 rfl rfl ?_
 simp only [args0, Nat.zero_add, Nat.reduceAdd]
 refine Sr fun _ kh1 => za rfl (zz (kh1 (zc fun _ kh3 => Sr fun _ kh4 => zm rfl ?_)))
 refine WL.ev (Ev.eqlSliceNil rfl rfl) rfl ?_
 refine zz (kh4 ?_)
 refine CW.cond rfl (fun hc1 => ?_) (fun hc1 => ?_)
 ·
  try simp only [qs] at hc1
  obtain rfl : al = none := by simpa using hc1
  have hl0 : l = [] := by cases l with | nil => rfl | cons x r => obtain ⟨ad, e1, _⟩ := hrl 0 _ rfl; cases e1
  subst hl0
  refine Sr fun _ kh6 => za rfl (zz (kh6 ?_))
  refine CW.ret ?_
  refine bodyA.ret1 rfl rfl ?_
  exact ⟨GR.nil, hch⟩
 ·
  try simp only [qs] at hc1
  refine CW.skip ?_
  refine kh3 (Sr fun _ kh8 => ?_)
  refine WL.emptySlice (f := f64v) (lo := w.heap.size) (X := []) hch.size (by simp) rfl fun v5 w5 hg5 hcm5 => ?_
  have hch := hch.trans (Chg.any hcm5)
  refine zm rfl ?_
  refine WL.growR (f := f64v) (lo := w.heap.size) (X := []) (l := []) (news := l) (by rfl) (fun i => rfl) rfl rfl hg5 (by first | rfl | (simp; done) | (simp; omega) | omega) (hrl.keep0 hch) (by first | omega | exact hch.size | exact hcr.size | exact Nat.le_refl _) (by simp) (by simp only [List.length_append, List.length_cons, List.length_nil]; omega) (by simp only [List.length_append, List.length_cons, List.length_nil]; omega) rfl fun v7 w7 hg7 hcg7 => ?_
  have hch := GR.frame hg5 hcg7 hch (by first | omega | exact Nat.le_refl _)
  have hg5 := hg7
  rw [show ([] ++ l) = l from by simp] at hg5
  refine za rfl (zz (kh8 ?_))
  refine CW.ret ?_
  refine bodyA.ret1 rfl rfl ?_
  exact ⟨hg5, hch⟩

end Go.Proofs.YtphnpchmdpjabaaGreatDoor

/-
  DERIVED: THE SHELF's CONTRACTS AT THIS DUMP, IN PLAIN WORDS (tools/lay-plain.mjs out of 'TmpSortLayF.lean', which tools/lay-shelf.mjs wrote): THE SAME DECLARATIONS UNDER THE SAME NAMES: 'import', 'namespace', 'open', 'def', 'theorem' AND NOTHING ELSE: no command of the shelf's: FOR A HAND-IN. Each laying: the table of numbers ('.._ren') and one theorem, a field a fact of the dump's own or the kernel's comparison; each contract: ONE APPLICATION.
-/
namespace Go.Proofs
open Go.Shelf
def Tryz.laySortLayF_ren : Go.Shelf.Ren := ⟨fun | 6 => 64 | 15 => 109 | 14 => 108 | 28 => 131 | 29 => 144 | 20 => 136 | 21 => 137 | 22 => 138 | 23 => 139 | 24 => 140 | 25 => 141 | 26 => 142 | 27 => 143 | 46 => 171 | 47 => 172 | 48 => 173 | 49 => 174 | 50 => 175 | 57 => 196 | n => n, fun | 22 => 35 | 24 => 28 | 25 => 98 | 3 => 3 | 39 => 117 | 0 => 0 | 53 => 116 | 55 => 74 | 4 => 4 | 46 => 170 | 45 => 169 | 50 => 174 | 5 => 5 | 9 => 9 | 66 => 200 | 70 => 155 | 76 => 219 | 77 => 220 | n => n, fun | n => n⟩
theorem Tryz.laySortLayF : Go.Proofs.SlLaysF.n6 Tryz.prog Tryz.laySortLayF_ren := {
  mixed := by kernel_rfl
  f6 := ⟨Tryz.f64.name, by decide, Tryz.func64.trans (congrArg some (by kernel_rfl))⟩
  f14 := ⟨Tryz.f108.name, by decide, Tryz.func108.trans (congrArg some (by kernel_rfl))⟩
  f15 := Tryz.func109.trans (congrArg some (by kernel_rfl))
  f20 := ⟨Tryz.f136.name, by decide, Tryz.func136.trans (congrArg some (by kernel_rfl))⟩
  f21 := ⟨Tryz.f137.name, by decide, Tryz.func137.trans (congrArg some (by kernel_rfl))⟩
  f22 := ⟨Tryz.f138.name, by decide, Tryz.func138.trans (congrArg some (by kernel_rfl))⟩
  f23 := ⟨Tryz.f139.name, by decide, Tryz.func139.trans (congrArg some (by kernel_rfl))⟩
  f24 := ⟨Tryz.f140.name, by decide, Tryz.func140.trans (congrArg some (by kernel_rfl))⟩
  f25 := ⟨Tryz.f141.name, by decide, Tryz.func141.trans (congrArg some (by kernel_rfl))⟩
  f26 := ⟨Tryz.f142.name, by decide, Tryz.func142.trans (congrArg some (by kernel_rfl))⟩
  f27 := ⟨Tryz.f143.name, by decide, Tryz.func143.trans (congrArg some (by kernel_rfl))⟩
  f28 := Tryz.func131.trans (congrArg some (by kernel_rfl))
  f29 := Tryz.func144.trans (congrArg some (by kernel_rfl))
  f46 := ⟨Tryz.f171.name, by decide, Tryz.func171.trans (congrArg some (by kernel_rfl))⟩
  f47 := Tryz.func172.trans (congrArg some (by kernel_rfl))
  f48 := Tryz.func173.trans (congrArg some (by kernel_rfl))
  f49 := ⟨Tryz.f174.name, by decide, Tryz.func174.trans (congrArg some (by kernel_rfl))⟩
  f50 := ⟨Tryz.f175.name, by decide, Tryz.func175.trans (congrArg some (by kernel_rfl))⟩
  f57 := ⟨Tryz.f196.name, by decide, Tryz.func196.trans (congrArg some (by kernel_rfl))⟩
  t0 := Tryz.underlying0
  a0 := Tryz.isAgg0
  z0 := Tryz.sizeOf0
  v0 := Tryz.zeroValue0
  t3 := Tryz.underlying3
  a3 := Tryz.isAgg3
  z3 := Tryz.sizeOf3
  v3 := Tryz.zeroValue3
  t4 := Tryz.underlying4
  a4 := Tryz.isAgg4
  z4 := Tryz.sizeOf4
  v4 := Tryz.zeroValue4
  t5 := Tryz.underlying5
  a5 := Tryz.isAgg5
  z5 := Tryz.sizeOf5
  v5 := Tryz.zeroValue5
  t9 := Tryz.underlying9
  a9 := Tryz.isAgg9
  z9 := Tryz.sizeOf9
  v9 := Tryz.zeroValue9
  t22 := Tryz.underlying35
  a22 := Tryz.isAgg35
  z22 := Tryz.sizeOf35
  v22 := Tryz.zeroValue35
  a24 := Tryz.isAgg28
  z24 := Tryz.sizeOf28
  t25 := Tryz.underlying98
  a25 := Tryz.isAgg98
  z25 := Tryz.sizeOf98
  v25 := Tryz.zeroValue98
  t39 := Tryz.underlying117
  a39 := Tryz.isAgg117
  z39 := Tryz.sizeOf117
  v39 := Tryz.zeroValue117
  t45 := Tryz.underlying169
  a45 := Tryz.isAgg169
  z45 := Tryz.sizeOf169
  v45 := Tryz.zeroValue169
  t46 := Tryz.underlying170
  a46 := Tryz.isAgg170
  z46 := Tryz.sizeOf170
  v46 := Tryz.zeroValue170
  t50 := Tryz.underlying174
  a50 := Tryz.isAgg174
  z50 := Tryz.sizeOf174
  v50 := Tryz.zeroValue174
  t53 := Tryz.underlying116
  a53 := Tryz.isAgg116
  z53 := Tryz.sizeOf116
  v53 := Tryz.zeroValue116
  t55 := Tryz.underlying74
  a55 := Tryz.isAgg74
  z55 := Tryz.sizeOf74
  v55 := Tryz.zeroValue74
  t66 := Tryz.underlying200
  a66 := Tryz.isAgg200
  z66 := Tryz.sizeOf200
  v66 := Tryz.zeroValue200
  t70 := Tryz.underlying155
  a70 := Tryz.isAgg155
  z70 := Tryz.sizeOf155
  v70 := Tryz.zeroValue155
  t76 := Tryz.underlying219
  a76 := Tryz.isAgg219
  z76 := Tryz.sizeOf219
  v76 := Tryz.zeroValue219
  t77 := Tryz.underlying220
  a77 := Tryz.isAgg220
  z77 := Tryz.sizeOf220
  v77 := Tryz.zeroValue220 }
end Go.Proofs

/- Maps keyed by whole numbers, in the engine. No condition. -/
namespace Go.Proofs.YtphnpchmdpjabaaGreatDoor.Sx
open Go

structure ME where
  key : Int
  val : Value
  born : Nat
def meV (kk : IntKind) (e : ME) : MapEntry := ⟨.int kk e.key, e.val, e.born⟩
def mapO (kk : IntKind) (es : List ME) (c : Nat) : Obj := .map (es.map (meV kk)).toArray c
section
variable {P : Program} {t key elem : TypeId} {kk : IntKind} {w : World} {sk bk : Nat} {zk : Value}
end

section
variable {P : Program} {n : Nat} {D : List Deferred} {s : Sl} {w : World} {ty : TypeId} {x y z : Operand} {ops : Array Oper} {K : KK} {rest : List Oper} {pos : String} {af : Array Edge} {d : Nat}
variable {t key elem : TypeId} {kk : IntKind} {sz by_ sk bk se be : Nat} {zt zk ze : Value} {de : TypeDesc} {r c : Nat} {es : List ME} {k : Int}
/-! A range over a map -/
end
end Go.Proofs.YtphnpchmdpjabaaGreatDoor.Sx

/- The walks of the small functions on numbers' bits. No condition. -/
namespace Go.Proofs.YtphnpchmdpjabaaGreatDoor
open Go Sx Fl

theorem andNot_top (b : Nat) (h : 9223372036854775808 ≤ b) (hb : b < 18446744073709551616) : bits2 .andNot .u64 (b : Int) 9223372036854775808 = (b : Int) - 9223372036854775808 := by
  have e : (BitVec.ofInt 64 (b : Int) &&& ~~~BitVec.ofInt 64 9223372036854775808).toNat = b - 9223372036854775808 := by
    rw [BitVec.toNat_and, BitVec.toNat_not]
    have h1 : (BitVec.ofInt 64 (b : Int)).toNat = b := by simp [BitVec.toNat_ofInt]; omega
    have h2 : (BitVec.ofInt 64 9223372036854775808).toNat = 9223372036854775808 := by decide
    rw [h1, h2]
    have h3 : b &&& (2 ^ 64 - 1 - 9223372036854775808) = b % 2 ^ 63 := by
      rw [← Nat.and_two_pow_sub_one_eq_mod]
    rw [h3]
    omega
  show IntKind.u64.wrap ((BitVec.ofInt 64 (b : Int) &&& ~~~BitVec.ofInt 64 9223372036854775808).toNat : Int) = _
  rw [e, IntWalk.u64_in _ (by omega)]
  omega
theorem compl_i64 (n : Int) (h0 : 0 ≤ n) (h1 : n ≤ 9223372036854775807) : bits2 .xor .i64 (-1) n = -1 - n := by
  have e : (BitVec.ofInt 64 (-1) ^^^ BitVec.ofInt 64 n).toNat = 18446744073709551615 - n.toNat := by
    have ha : BitVec.ofInt 64 (-1) = BitVec.allOnes 64 := by decide
    rw [ha, BitVec.allOnes_xor, BitVec.toNat_not]
    have h2 : (BitVec.ofInt 64 n).toNat = n.toNat := by simp [BitVec.toNat_ofInt]; omega
    rw [h2]
  show IntKind.i64.wrap ((BitVec.ofInt 64 (-1) ^^^ BitVec.ofInt 64 n).toNat : Int) = _
  rw [e, IntKind.wrap_i64]
  omega
theorem shr63 (b : Nat) (hb : b < 18446744073709551616) : (b : Int).fdiv (2 ^ (min (63 : Int).toNat IntKind.u64.bits)) = if 9223372036854775808 ≤ b then 1 else 0 := by
  show (b : Int).fdiv 9223372036854775808 = _
  rw [Int.fdiv_eq_ediv_of_nonneg _ (by omega)]
  split <;> omega
theorem key_neg (b : Nat) (hb : b < 18446744073709551616) (h1 : isNaN b = false) (h2 : (b : Int).fdiv (2 ^ (min (63 : Int).toNat IntKind.u64.bits)) = 1) :
    bits2 .xor .i64 (if IntKind.i64.signed then -1 else IntKind.i64.max) (IntKind.i64.wrap (bits2 .andNot .u64 (b : Int) 9223372036854775808)) = key b := by
  rw [shr63 b hb] at h2
  have h3 : 9223372036854775808 ≤ b := by
    by_cases h : 9223372036854775808 ≤ b
    · exact h
    · rw [if_neg h] at h2; cases h2
  rw [key_neg_eq h1 h3, andNot_top b h3 hb, wrap_i64 (by omega)]
  exact compl_i64 _ (by omega) (by omega)
theorem key_pos (b : Nat) (hb : b < 18446744073709551616) (h1 : isNaN b = false) (h2 : ¬ (b : Int).fdiv (2 ^ (min (63 : Int).toNat IntKind.u64.bits)) = 1) : IntKind.i64.wrap (b : Int) = key b := by
  rw [shr63 b hb] at h2
  have h3 : b < 9223372036854775808 := by
    by_cases h : 9223372036854775808 ≤ b
    · rw [if_pos h] at h2; exact absurd rfl h2
    · omega
  rw [key_pos_eq h1 h3, wrap_i64 (by omega)]
theorem bits_key_spec (b : Nat) (hb : b < 18446744073709551616) (w : World) : Ret Tryz.prog 110 [.float .f64 b] w fun v w' => v = .int .i64 (key b) ∧ w = w' := by
 refine Ret.enter Tryz.func110 rfl rfl ?_
 refine Sr fun _ kh1 => za rfl (zz (kh1 (zc fun _ kh3 => Sr fun _ kh4 => zm rfl (zm rfl ?_))))
 refine WL.ev (Ev.fneq rfl rfl) rfl ?_
 refine zz (kh4 ?_)
 refine CW.cond rfl (fun hc1 => ?_) (fun hc1 => ?_)
 ·
  rw [order_self] at hc1
  refine Sr fun _ kh6 => za rfl (zz (kh6 ?_))
  refine CW.ret ?_
  refine bodyA.ret1 rfl rfl ?_
  exact ⟨by simp [key, hc1], rfl⟩
 ·
  rw [order_self] at hc1
  refine CW.skip ?_
  refine kh3 (Sr fun _ kh8 => zm rfl ?_)
  refine WL.ev (Ev.ext rfl (ext40 _ _)) rfl ?_
  refine za rfl (zz (kh8 (zc fun _ kh10 => Sr fun _ kh11 => zm rfl ?_)))
  refine WL.ev (Ev.shr rfl rfl (by omega)) rfl ?_
  refine zq rfl rfl (zz (kh11 ?_))
  refine CW.cond rfl (fun hc2 => ?_) (fun hc2 => ?_)
  ·
   simp only [decide_eq_true_eq, decide_eq_false_iff_not] at hc2
   refine Sr fun _ kh13 => zm rfl ?_
   refine WL.ev (Ev.andNot rfl rfl) rfl ?_
   refine WL.ev (Ev.conv rfl rfl) rfl ?_
   refine WL.ev (Ev.compl rfl) rfl ?_
   refine za rfl (zz (kh13 ?_))
   refine CW.ret ?_
   refine bodyA.ret1 rfl rfl ?_
   exact ⟨by rw [key_neg b hb hc1 hc2], rfl⟩
  ·
   simp only [decide_eq_true_eq, decide_eq_false_iff_not] at hc2
   refine CW.skip ?_
   refine kh10 (Sr fun _ kh15 => zm rfl ?_)
   refine WL.ev (Ev.conv rfl rfl) rfl ?_
   refine za rfl (zz (kh15 ?_))
   refine CW.ret ?_
   refine bodyA.ret1 rfl rfl ?_
   exact ⟨by rw [key_pos b hb hc1 hc2], rfl⟩

theorem bits_Order_spec (a b : Nat) (ha : a < 18446744073709551616) (hb : b < 18446744073709551616) (w : World) : Ret Tryz.prog 65 [.float .f64 a, .float .f64 b] w fun v w' => v = .int .i64 (cmpI (key a) (key b)) ∧ w = w' := by
 refine Ret.enter Tryz.func65 rfl rfl ?_
 refine Sr fun _ kh1 => za rfl (zz (kh1 (Sr fun _ kh3 => zm rfl ?_)))
 refine WL.call hasF110 rfl rfl (bits_key_spec _ ha _) fun v w1 h => ?_
 obtain ⟨rfl, rfl⟩ := h
 refine zm rfl ?_
 refine WL.call hasF110 rfl rfl (bits_key_spec _ hb _) fun v w2 h => ?_
 obtain ⟨rfl, rfl⟩ := h
 refine za rfl (za rfl (zz (kh3 (zc fun _ kh5 => ?_))))
 refine CW.block ?_
 refine Sr fun _ kh6 => zm rfl (zm rfl ?_)
 refine WL.ev (Ev.lss rfl rfl) rfl ?_
 refine za rfl (zz (kh6 ?_))
 refine CW.cond rfl (fun hc1 => ?_) (fun hc1 => ?_)
 ·
  simp only [decide_eq_true_eq, decide_eq_false_iff_not, Decidable.not_not, Bool.and_eq_true, Bool.or_eq_true, Bool.not_eq_true', ne_eq, Int.not_lt, Int.not_le] at hc1
  refine Sr fun _ kh8 => za rfl (zz (kh8 ?_))
  refine CW.ret ?_
  refine bodyA.ret1 rfl rfl ?_
  exact ⟨by rw [cmpI, if_pos hc1], rfl⟩
 ·
  simp only [decide_eq_true_eq, decide_eq_false_iff_not, Decidable.not_not, Bool.and_eq_true, Bool.or_eq_true, Bool.not_eq_true', ne_eq, Int.not_lt, Int.not_le] at hc1
  refine Sr fun _ kh10 => zm rfl (zm rfl ?_)
  refine WL.ev (Ev.gtr rfl rfl) rfl ?_
  refine za rfl (zz (kh10 ?_))
  refine CW.cond rfl (fun hc2 => ?_) (fun hc2 => ?_)
  ·
   simp only [decide_eq_true_eq, decide_eq_false_iff_not, Decidable.not_not, Bool.and_eq_true, Bool.or_eq_true, Bool.not_eq_true', ne_eq, Int.not_lt, Int.not_le] at hc2
   refine Sr fun _ kh12 => za rfl (zz (kh12 ?_))
   refine CW.ret ?_
   refine bodyA.ret1 rfl rfl ?_
   exact ⟨by rw [cmpI, if_neg (by omega), if_pos hc2], rfl⟩
  ·
   simp only [decide_eq_true_eq, decide_eq_false_iff_not, Decidable.not_not, Bool.and_eq_true, Bool.or_eq_true, Bool.not_eq_true', ne_eq, Int.not_lt, Int.not_le] at hc2
   refine CW.skip ?_
   refine kh5 (Sr fun _ kh14 => za rfl (zz (kh14 ?_)))
   refine CW.ret ?_
   refine bodyA.ret1 rfl rfl ?_
   exact ⟨by rw [cmpI, if_neg (by omega), if_neg (by omega)], rfl⟩

end Go.Proofs.YtphnpchmdpjabaaGreatDoor

/- slices.SortFunc over numbers by the numbers' order: the row holds the numbers in order. No condition but that each number has 64 bits. -/
namespace Go.Proofs.YtphnpchmdpjabaaGreatDoor
open Go Sx Fl Go.Sort Go.Shelf

abbrev F64 := {b : Nat // b < 18446744073709551616}
instance f64Inh : Inhabited F64 := ⟨⟨0, by decide⟩⟩
def encF (x : F64) : Value := .float .f64 x.1
def cfF (x y : F64) : Int := cmpI (key x.1) (key y.1)
theorem ltF (x y : F64) : ltOf cfF x y = decide (key x.1 < key y.1) := by
  unfold ltOf cfF cmpI
  by_cases h1 : key x.1 < key y.1
  · simp [h1]
  · by_cases h2 : key y.1 < key x.1 <;> simp [h1, h2]
theorem swoF : SWO (ltOf cfF) where
  irrefl x := by rw [ltF]; simp
  trans x y z h1 h2 := by rw [ltF] at *; simp at *; omega
  ntrans x y z h1 h2 := by rw [ltF] at *; simp at *; omega
theorem cmpLaysF (blk off size : Nat) (w : World) : CmpLays1 Tryz.prog 65 #[] encF cfF blk off size w := fun _ _ _ _ x y =>
  Calls.mono (bits_Order_spec _ _ x.2 y.2 _) fun e w' ⟨v, he, hv, hw⟩ => ⟨by rw [he, hv]; rfl, 0, #[], by rw [grow_empty]; exact hw.symm⟩
def f64s (l : List Nat) (h : ∀ p ∈ l, p < 18446744073709551616) : List F64 := l.attach.map fun x => ⟨x.1, h x.1 x.2⟩
theorem f64s_val (l : List Nat) (h : ∀ p ∈ l, p < 18446744073709551616) : (f64s l h).map (·.1) = l := by
  unfold f64s
  rw [List.map_map]
  exact List.attach_map_subtype_val l
theorem f64s_get {l : List Nat} {h : ∀ p ∈ l, p < 18446744073709551616} {j : Nat} (hj : j < l.length) : encF ((f64s l h).toArray[j]!) = f64v (l[j]'hj) := by
  have hl : j < (f64s l h).toArray.size := by simpa [f64s] using hj
  rw [getElem!_pos _ j hl]
  simp [f64s, encF, f64v]
theorem sortWorldF_heap {w : World} {blk n : Nat} {d : Array F64} {os : Array Obj} {cur : Array Value} {T : TypeId} (h : w.heap[blk]? = some (.cells cur T (0, 0))) :
    Chg [blk] w (sortWorld encF w blk 0 n d os) ∧ (sortWorld encF w blk 0 n d os).heap[blk]? = some (.cells (putCells encF 0 d cur) T (0, 0)) := by
  have hlt := lt_of_heap h
  unfold sortWorld grow putRow mapBlock Go.Sort.ahead
  refine ⟨⟨rfl, rfl, rfl, by simp, fun k hk hn => ?_⟩, ?_⟩
  · simp only [List.mem_singleton] at hn
    rw [Array.getElem?_append_left (by simpa using hk), Array.getElem?_modify, if_neg (fun e => hn e.symm)]
  · rw [Array.getElem?_append_left (by simpa using hlt), Array.getElem?_modify, if_pos rfl, h]; rfl
/-- THE SORT: a row of one's own comes in order. -/
theorem sortF_spec (w : World) (v : Value) (l : List Nat) (lo : Nat) (X : List Nat) (hl : ∀ p ∈ l, p < 18446744073709551616) (hne : l ≠ []) (hsz : l.length < 4611686018427387904) (hown : GR w 28 f64v lo X v l) :
    Ret Tryz.prog 64 [v, .func (.func 65) #[] #[]] w fun u w' =>
      ∃ l' : List Nat, l'.Perm l ∧ Srt l' ∧ Chg v.ownBlock.toList w w' ∧ GR w' 28 f64v lo X v l' := by
  obtain ⟨blk, cap, cur, rfl, hheap, hnc, hcm, hcs, htake, hlo, hX⟩ := hown.own hne
  have hd : (f64s l hl).toArray.size = l.length := by simp [f64s]
  have hblk := lt_of_heap hheap
  have hH : Holds encF w blk 0 (f64s l hl).toArray := by
    intro j hj
    have hj' : j < l.length := by rw [← hd]; exact hj
    refine ⟨?_, by rw [Nat.zero_add]; exact frozen_no hheap⟩
    rw [Nat.zero_add, cell_at' hheap, f64s_get hj']
    have : cur.toList[j]? = (l.map f64v)[j]? := by
      rw [← htake, List.getElem?_take, if_pos (by omega)]
    rw [← Array.getElem?_toList, this]
    simp [hj']
  have eg : ∀ args w, (callFunc 65 args).run Tryz.prog w = .ok (.enter 65 args) w := fun args w => HasF.run hasF65 args
  have hcon := Any.slices_SortFunc Tryz.laySortLayF encF (fun x => rfl) cfF swoF 65 #[] blk 0 cap (f64s l hl).toArray w eg (cmpLaysF blk 0 _ w) hH hblk (by rw [hd]; exact hsz)
  rw [hd] at hcon
  refine Calls.mono hcon fun e w' ⟨he, d', n, os, hp, hs, hw⟩ => ⟨_, he, ?_⟩
  obtain ⟨hps, _, hpp⟩ := hp
  have hsz' : d'.size = l.length := by rw [hps, hd]
  have hperm : d'.toList.Perm (f64s l hl) := by
    have e1 : d'.extract 0 l.length = d' := by rw [← hsz']; simp
    have e2 : (f64s l hl).toArray.extract 0 l.length = (f64s l hl).toArray := by rw [← hd]; simp
    rw [e1, e2] at hpp
    exact hpp
  subst hw
  obtain ⟨hc, hh⟩ := sortWorldF_heap (n := n) (d := d') (os := os) hheap
  have hlen : (d'.toList.map (·.1)).length = l.length := by simp [hsz']
  refine ⟨d'.toList.map (·.1), ?_, ?_, hc, ?_⟩
  · have := hperm.map Subtype.val
    rw [f64s_val] at this
    exact this
  · unfold Srt
    rw [List.pairwise_iff_getElem]
    intro i j hi hj hij
    have := hs i j (Nat.zero_le _) hij (by simpa [hsz'] using hj)
    rw [ltF] at this
    have hi' : i < d'.size := by simpa using hi
    have hj' : j < d'.size := by simpa using hj
    rw [getElem!_pos d' i hi', getElem!_pos d' j hj'] at this
    simp at this
    simpa using this
  · refine ⟨⟨by simp, .inr ⟨blk, cap, _, ?_, Nat.zero_le _, hh, ?_, hcm, ?_, ?_⟩⟩, fun b hb => ?_⟩
    · rw [hlen]
    · rw [hlen]; exact hnc
    · simp [putCells, hcs]
    · rw [hlen, Nat.mul_one]
      apply List.ext_getElem?
      intro i
      rw [List.getElem?_take]
      by_cases hi : i < l.length
      · rw [if_pos hi]
        have hi' : i < d'.size := by rw [hsz']; exact hi
        have hc' : i < cur.size := by rw [hcs]; exact Nat.lt_of_lt_of_le hi hnc
        simp [putCells, hi', hc', encF, f64v]
      · rw [if_neg hi, List.getElem?_eq_none (by rw [List.length_map, hlen]; omega)]
    · cases hb; exact ⟨hlo, hX⟩
end Go.Proofs.YtphnpchmdpjabaaGreatDoor

/- Package mean: Trimmed. No condition. -/
namespace Go.Proofs.YtphnpchmdpjabaaGreatDoor
open Go Sx Wd Fl

set_option maxRecDepth 8000 in
set_option maxHeartbeats 2000000 in
theorem mTrimmed_spec (v : Value) (l : List Nat) (k mode : Int) (w : World) (hv : NF w v l) (hk : -9223372036854775808 ≤ k ∧ k ≤ 9223372036854775807) (hg : GW w) : Ret Tryz.prog 22 [v, .int .i64 k, .int .i64 mode] w fun u w' => (∃ bits e, u = .tuple [.float .f64 bits, .int .i64 e].toArray ∧ trimR l k mode bits e) ∧ Chg [] w w' := by
 have hch : Chg [] w w := Chg.refl _ _
 have hv0 := hv
 obtain ⟨⟨al, cl, rfl, hcapl, hrl⟩, hWl, hll⟩ := hv
 have hg0 := hg
 refine Ret.enterD 31 hasF31 Tryz.func22 rfl rfl ?_
 simp only [args0, Nat.zero_add, Nat.reduceAdd]
 refine Sr fun _ kh1 => ?_
 refine WL.allocB (l := [.float .f64 0]) rfl rfl fun b6 wm6 hb6 hcm6 hge6 => ?_
 have hgehch6 := Nat.le_trans hch.size hge6
 have hch := hch.trans (Chg.any hcm6)
 refine WL.allocB (l := [.int .i64 0]) rfl rfl fun b7 wm7 hb7 hcm7 hge7 => ?_
 have hgehch7 := Nat.le_trans hch.size hge7
 have hch := hch.trans (Chg.any hcm7)
 have hneb67 : b6 ≠ b7 := by have := hb6.lt; omega
 have hb6 := hb6.keep0 hcm7
 refine zz (kh1 (Sr fun _ kh3 => ?_))
 refine WL.defer rfl ?_
 refine zz (kh3 (zc fun _ kh5 => ?_))
 refine CW.block ?_
 refine CW.seqM 8 (decide (¬ ((0 ≤ mode ∧ mode ≤ 4) ∧ 0 ≤ k))) ?_ ?_
 ·
  refine CW.region fun kR6 kr6 => ?_
  refine zm rfl ?_
  refine WL.call hasF32 rfl rfl (right_spec mode _) fun v w1 h' => ?_
  obtain ⟨rfl, rfl⟩ := h'
  refine WL.ev (Ev.not rfl) rfl ?_
  refine zm rfl ?_
  refine WL.boolCase (fun hg1 => ?_) (fun hg1 => ?_)
  ·
   try simp only [qs] at hg1
   have hq : ¬ (0 ≤ mode ∧ mode ≤ 4) := by simpa using hg1
   refine zv rfl (zv rfl (zt rfl rfl (za rfl ?_)))
   refine WL.nil (kr6 _ _ _ ?_)
   refine ⟨rfl, rfl, Subs.consB rfl ?_ ?_⟩
   ·
    first | (simp; omega) | (refine decide_eq_decide.2 ?_; omega)
   ·
    exact SMg
  ·
   try simp only [qs] at hg1
   have hq : 0 ≤ mode ∧ mode ≤ 4 := by simpa using hg1
   refine zw rfl (zm rfl (zw rfl ?_))
   refine WL.ev (Ev.lss rfl rfl) rfl ?_
   refine ze rfl rfl (za rfl ?_)
   refine WL.nil (kr6 _ _ _ ?_)
   refine ⟨rfl, rfl, Subs.consB rfl ?_ ?_⟩
   ·
    first | (simp; omega) | (refine decide_eq_decide.2 ?_; omega)
   ·
    exact SMg
 ·
  refine CW.cond rfl (fun hc2 => ?_) (fun hc2 => ?_)
  ·
   try simp only [qs] at hc2
   have hbad : ¬ ((0 ≤ mode ∧ mode ≤ 4) ∧ 0 ≤ k) := hc2
   refine Sr fun _ kh7 => ?_
   refine WL.storeC rfl rfl o1 hb6 (by simp) rfl fun ws2 hb6_ hcs2 => ?_
   try simp only [Sx.splice, qt] at hb6_
   have hch := hch.s1 hcs2
   have hb7 := hb7.keep hcs2 (by simp; omega)
   have hb6 := hb6_
   refine WL.storeC rfl rfl o1 hb7 (by simp) rfl fun ws3 hb7_ hcs3 => ?_
   try simp only [Sx.splice, qt] at hb7_
   have hch := hch.s1 hcs3
   have hb6 := hb6.keep hcs3 (by simp; omega)
   have hb7 := hb7_
   refine zz (kh7 ?_)
   refine CW.ret ?_
   refine clean_door rfl rfl rfl hb6 hb7 hneb67 fun w9 hc9 => ?_
   have hch := hch.step hc9 (fun y hy => by simp only [List.mem_singleton] at hy; subst hy; exact .inr (by omega))
   exact ⟨⟨_, _, rfl, .inl ⟨hbad, rfl, rfl⟩⟩, hch⟩
  ·
   try simp only [qs] at hc2
   have hgood : (0 ≤ mode ∧ mode ≤ 4) ∧ 0 ≤ k := by have := hc2; omega
   obtain ⟨kn, rfl⟩ := Int.eq_ofNat_of_zero_le hgood.2
   refine Sr fun _ kh9 => zm rfl (zn rfl ?_)
   refine WL.ev (Ev.gtr rfl rfl) rfl ?_
   refine za rfl (zz (kh9 ?_))
   refine CW.cond rfl (fun hc3 => ?_) (fun hc3 => ?_)
   ·
    try simp only [qs] at hc3
    have hlong : 65536 < l.length := by omega
    refine Sr fun _ kh11 => ?_
    refine WL.storeC rfl rfl o1 hb6 (by simp) rfl fun ws4 hb6_ hcs4 => ?_
    try simp only [Sx.splice, qt] at hb6_
    have hch := hch.s1 hcs4
    have hb7 := hb7.keep hcs4 (by simp; omega)
    have hb6 := hb6_
    refine WL.storeC rfl rfl o1 hb7 (by simp) rfl fun ws5 hb7_ hcs5 => ?_
    try simp only [Sx.splice, qt] at hb7_
    have hch := hch.s1 hcs5
    have hb6 := hb6.keep hcs5 (by simp; omega)
    have hb7 := hb7_
    refine zz (kh11 ?_)
    refine CW.ret ?_
    refine clean_door rfl rfl rfl hb6 hb7 hneb67 fun w9 hc9 => ?_
    have hch := hch.step hc9 (fun y hy => by simp only [List.mem_singleton] at hy; subst hy; exact .inr (by omega))
    exact ⟨⟨_, _, rfl, .inr ⟨hgood, .inl ⟨hlong, rfl, rfl⟩⟩⟩, hch⟩
   ·
    try simp only [qs] at hc3
    have hlong : ¬ 65536 < l.length := by omega
    refine Sr fun _ kh13 => zm rfl ?_
    refine WL.call hasF62 rfl rfl (mfinite_spec _ l _ (hv0.keep0 hch)) fun v w2 h' => ?_
    obtain ⟨rfl, hC⟩ := h'
    have hch := hch.trans (Chg.any hC)
    have hb6 := hb6.keep0 hC
    have hb7 := hb7.keep0 hC
    refine WL.ev (Ev.not rfl) rfl ?_
    refine za rfl (zz (kh13 ?_))
    refine CW.cond rfl (fun hc4 => ?_) (fun hc4 => ?_)
    ·
     try simp only [qs] at hc4
     have hf : ¬ finL l := by simpa using hc4
     refine Sr fun _ kh15 => ?_
     refine WL.storeC rfl rfl o1 hb6 (by simp) rfl fun ws6 hb6_ hcs6 => ?_
     try simp only [Sx.splice, qt] at hb6_
     have hch := hch.s1 hcs6
     have hb7 := hb7.keep hcs6 (by simp; omega)
     have hb6 := hb6_
     refine WL.storeC rfl rfl o1 hb7 (by simp) rfl fun ws7 hb7_ hcs7 => ?_
     try simp only [Sx.splice, qt] at hb7_
     have hch := hch.s1 hcs7
     have hb6 := hb6.keep hcs7 (by simp; omega)
     have hb7 := hb7_
     refine zz (kh15 ?_)
     refine CW.ret ?_
     refine clean_door rfl rfl rfl hb6 hb7 hneb67 fun w9 hc9 => ?_
     have hch := hch.step hc9 (fun y hy => by simp only [List.mem_singleton] at hy; subst hy; exact .inr (by omega))
     exact ⟨⟨_, _, rfl, .inr ⟨hgood, .inr ⟨hlong, .inl ⟨hf, rfl, rfl⟩⟩⟩⟩, hch⟩
    ·
     try simp only [qs] at hc4
     have hf : finL l := by simpa using hc4
     refine CW.seqM 24 (decide ((l.length : Int) ≤ 2 * (kn : Int))) ?_ ?_
     ·
      refine CW.region fun kR17 kr17 => ?_
      refine zm rfl ?_
      refine WL.ev (Ev.gtr rfl rfl) rfl ?_
      refine zm rfl ?_
      refine WL.boolCase (fun hg5 => ?_) (fun hg5 => ?_)
      ·
       try simp only [qs] at hg5
       refine zv rfl (zv rfl (zv rfl (zv rfl (zv rfl (zt rfl rfl (za rfl ?_))))))
       refine WL.nil (kr17 _ _ _ ?_)
       refine ⟨rfl, rfl, Subs.consB rfl ?_ ?_⟩
       ·
        first | (simp; omega) | (simp_all; done) | (refine decide_eq_decide.2 ?_; omega)
       ·
        exact SMg
      ·
       try simp only [qs] at hg5
       refine zw rfl (zm rfl (zw rfl (zn rfl (zw rfl (zm rfl (zw rfl ?_))))))
       refine WL.ev (Ev.mulIn rfl rfl (by omega)) rfl ?_
       refine zw rfl ?_
       refine WL.ev (Ev.leq rfl rfl) rfl ?_
       refine ze rfl rfl (za rfl ?_)
       refine WL.nil (kr17 _ _ _ ?_)
       refine ⟨rfl, rfl, Subs.consB rfl ?_ ?_⟩
       ·
        first | (simp; omega) | (simp_all; done) | (refine decide_eq_decide.2 ?_; omega)
       ·
        exact SMg
     ·
      refine CW.cond rfl (fun hc6 => ?_) (fun hc6 => ?_)
      ·
       try simp only [qs] at hc6
       have hno : (l.length : Int) ≤ 2 * (kn : Int) := hc6
       refine Sr fun _ kh18 => ?_
       refine WL.storeC rfl rfl o1 hb6 (by simp) rfl fun ws8 hb6_ hcs8 => ?_
       try simp only [Sx.splice, qt] at hb6_
       have hch := hch.s1 hcs8
       have hb7 := hb7.keep hcs8 (by simp; omega)
       have hb6 := hb6_
       refine WL.storeC rfl rfl o1 hb7 (by simp) rfl fun ws9 hb7_ hcs9 => ?_
       try simp only [Sx.splice, qt] at hb7_
       have hch := hch.s1 hcs9
       have hb6 := hb6.keep hcs9 (by simp; omega)
       have hb7 := hb7_
       refine zz (kh18 ?_)
       refine CW.ret ?_
       refine clean_door rfl rfl rfl hb6 hb7 hneb67 fun w9 hc9 => ?_
       have hch := hch.step hc9 (fun y hy => by simp only [List.mem_singleton] at hy; subst hy; exact .inr (by omega))
       exact ⟨⟨_, _, rfl, .inr ⟨hgood, .inr ⟨hlong, .inr ⟨hf, .inl ⟨hno, rfl, rfl⟩⟩⟩⟩⟩, hch⟩
      ·
       try simp only [qs] at hc6
       have hyes : 2 * (kn : Int) < (l.length : Int) := by have := hc6; omega
       have hne : l ≠ [] := fun q => by rw [q] at hyes; simp at hyes; omega
       refine CW.skip ?_
       refine kh5 (Sr fun _ kh20 => zm rfl ?_)
       refine WL.call hasF63 rfl rfl (CloneF_spec _ l _ (hv0.keep0 hch) (by omega)) fun v w3 h' => ?_
       obtain ⟨hgc, hC⟩ := h'
       have hl6 := hb6.lt
       have hl7 := hb7.lt
       have hszc := hch.size
       have hch := hch.trans (Chg.any hC)
       have hb6 := hb6.keep0 hC
       have hb7 := hb7.keep0 hC
       refine za rfl (zz (kh20 (Sr fun _ kh22 => zm rfl ?_)))
       refine WL.call hasF64 rfl rfl (sortF_spec _ v l _ _ hWl hne (by omega) hgc) fun v w4 h' => ?_
       obtain ⟨ls, hperm, hsrt, hcs, hgs⟩ := h'
       have hch := GR.frame hgc hcs hch hszc
       have hb6 := hb6.keep hcs (hgc.notin (.inr hl6))
       have hb7 := hb7.keep hcs (hgc.notin (.inr hl7))
       have hls : ls = sortP l := sortP_eq hperm hsrt (finL_nums hf hWl)
       have hlen : ls.length = l.length := hperm.length_eq
       have hWs : ∀ x ∈ ls, x < 18446744073709551616 := fun x hx => hWl x (hperm.mem_iff.1 hx)
       have hNs := hgs.nf hWs (by omega)
       obtain ⟨⟨adl, cpl, rfl, hcaps, hrs⟩, -, -⟩ := id hNs
       refine zz (kh22 (zc fun _ kh24 => ?_))
       refine CW.regionKC 12 14 rfl hmix fun kR25 kr25 hS hdr => ?_
       have hch := hch.trans (Chg.any hdr)
       have hb6 := hb6.keep0 hdr
       have hb7 := hb7.keep0 hdr
       have hNs := hNs.keep0 hdr
       have hch_r := hch
       have hb6_r := hb6
       have hb7_r := hb7
       refine wk 0 rfl hS (fun _ _ => Ev.move rfl) (wk 1 rfl hS (fun _ _ => Ev.move rfl) (wk 2 rfl hS (fun _ _ => Ev.move rfl) (wk 3 rfl hS (fun _ _ => Ev.len rfl) (wk 4 rfl hS (fun _ _ => Ev.move rfl) (wk 5 rfl hS (fun _ _ => Ev.subIn rfl rfl (by omega)) ?_)))))
       rw [show ((ls.length : Nat) : Int) - (kn : Int) = ((ls.length - kn : Nat) : Int) by omega]
       refine wk 6 rfl hS (fun _ _ => Ev.sliceLHn (kn) ((ls.length - kn)) rfl rfl rfl (by omega) (by omega) (by omega) (by omega)) (wk 7 rfl hS (fun _ _ => Ev.move rfl) ?_)
       refine WK.oneCall 8 rfl (by kernel_rfl) hasF66 rfl rfl (Plain_spec _) fun v w5 h' => ?_
       obtain ⟨rfl, hC⟩ := h'
       have hch := hch.trans (Chg.any hC)
       have hb6 := hb6.keep0 hC
       have hb7 := hb7.keep0 hC
       have hNs := hNs.keep0 hC
       have hS := hS.trans hC
       refine ⟨hS, ?_⟩
       refine WK.oneCall 9 rfl (by kernel_rfl) hasF15 rfl rfl (Mean_spec _ ((ls.drop kn).take (ls.length - kn - kn)) mode 0 0 _ (NF.mid hNs (by omega) (by omega)) (hg0.keep0 hch)) fun v w6 h' => ?_
       obtain ⟨⟨bits, e, rfl, hM⟩, hC⟩ := h'
       have hch := hch.trans (Chg.any hC)
       have hb6 := hb6.keep0 hC
       have hb7 := hb7.keep0 hC
       have hNs := hNs.keep0 hC
       have hS := hS.trans hC
       refine ⟨hS, ?_⟩
       refine wk 10 rfl hS (fun _ _ => Ev.extract rfl rfl) (wk 11 rfl hS (fun _ _ => Ev.extract rfl rfl) ?_)
       refine WK.storeC 12 rfl (by kernel_rfl) (by kernel_rfl) rfl rfl o1 hb6 (by simp) rfl fun ws10 hb6_ hcs10 => ?_
       try simp only [Sx.splice, qt] at hb6_
       have hch := hch.s1 hcs10
       have hb7 := hb7.keep hcs10 (by simp; omega)
       have hb6 := hb6_
       refine WK.storeC 13 rfl (by kernel_rfl) (by kernel_rfl) rfl rfl o1 hb7 (by simp) rfl fun ws11 hb7_ hcs11 => ?_
       try simp only [Sx.splice, qt] at hb7_
       have hch := hch.s1 hcs11
       have hb6 := hb6.keep hcs11 (by simp; omega)
       have hb7 := hb7_
       refine WK.done (by kernel_rfl) (kr25 _ _ _ ?_)
       refine kh24 ?_
       refine CW.ret ?_
       refine clean_door rfl rfl rfl hb6 hb7 hneb67 fun w9 hc9 => ?_
       have hch := hch.step hc9 (fun y hy => by simp only [List.mem_singleton] at hy; subst hy; exact .inr (by omega))
       refine ⟨⟨_, _, rfl, .inr ⟨hgood, .inr ⟨hlong, .inr ⟨hf, .inr ⟨hyes, ?_⟩⟩⟩⟩⟩, hch⟩
       rw [hM.err]
       rw [show ls.length - kn - kn = l.length - 2 * kn by omega, hls] at hM
       exact hM

end Go.Proofs.YtphnpchmdpjabaaGreatDoor

/- The numbers that every statement on means asks first. No condition. -/
namespace Go.Proofs.YtphnpchmdpjabaaGreatDoor
open Go Sx Wd
set_option exponentiation.threshold 9000

def lv1 : List Nat := [4607182418800017408, 4611686018427387904, 4618441417868443648]
def lv2 : List Nat := [4607182418800017408, 4611686018427387904]
def lv3 : List Nat := [4607182418800017408, 4613937818241073152]
theorem lv1_fil : filP lv1 = lv1 := by decide +kernel
theorem lv2_fil : filP lv2 = lv2 := by decide +kernel
theorem lv1_sum : sumI lv1 = (9 * 2 ^ 2148 : Nat) := by decide +kernel
theorem lv2_sum : sumI lv2 = (3 * 2 ^ 2148 : Nat) := by decide +kernel
theorem lv3_sum : sumI lv3 = (4 * 2 ^ 2148 : Nat) := by decide +kernel
theorem lv23_prod : sumP lv2 lv3 = (7 * 2 ^ 2148 : Nat) := by decide +kernel
theorem p2148 : (0 : Int) < ((2 ^ 2148 : Nat) : Int) := by have := Nat.two_pow_pos 2148; omega
theorem meanQ_of {S n r : Nat} {mode : Int} {bits : Nat} (hn : n ≠ 0) (hr : r < 9218868437227405312) (h : 2 * nz r * (n * 2 ^ 1073) = S) (hM : MeanQ (S : Int) n mode bits) : bits = r := by
  obtain ⟨r', h1, _, hb⟩ := hM
  rw [if_neg (by omega)] at hb
  rw [hb]
  rw [Int.natAbs_natCast] at h1
  exact h1.unique (Nat.mul_pos (by omega) (Nat.two_pow_pos _)) (near_is hr (Nat.mul_pos (by omega) (Nat.two_pow_pos _)) h)
theorem live_mean {bits : Nat} {e : Int} (h : meanR lv1 0 0 0 bits e) : bits = 4613937818241073152 ∧ e = 0 := by
  obtain ⟨he, hh⟩ := mean_fin h (by decide) (by decide +kernel) (by decide +kernel) (by rw [lv1_fil]; decide)
  rw [lv1_fil, lv1_sum] at hh
  rcases hh with ⟨hz, _⟩ | ⟨_, hM⟩
  · have := p2148; exact absurd hz (by rw [Int.natCast_mul]; omega)
  · exact ⟨meanQ_of (by decide) (by decide) (by decide +kernel) hM, he⟩
theorem live_mid {bits : Nat} {e : Int} (h : midR 4607182418800017408 4611686018427387904 0 bits e) : bits = 4609434218613702656 ∧ e = 0 := by
  rcases h with ⟨hh, _⟩ | ⟨_, ⟨hh, _⟩ | ⟨_, h⟩⟩
  · exact absurd (by decide) hh
  · exact absurd (by decide +kernel) hh
  obtain ⟨he, hh⟩ := mean_fin (l := lv2) h (by decide) (by decide +kernel) (by decide +kernel) (by rw [lv2_fil]; decide)
  rw [lv2_fil, lv2_sum] at hh
  rcases hh with ⟨hz, _⟩ | ⟨_, hM⟩
  · have := p2148; exact absurd hz (by rw [Int.natCast_mul]; omega)
  · exact ⟨meanQ_of (by decide) (by decide) (by decide +kernel) hM, he⟩
theorem lv_in {a : Nat} (h : a ≤ 16) : ((a * 2 ^ 2148 : Nat) : Int) < (16384 * BB : Nat) := by
  rw [BB_pow]
  have : a * 2 ^ 2148 < 2 ^ 4238 := by
    have h1 : a * 2 ^ 2148 ≤ 2 ^ 4 * 2 ^ 2148 := Nat.mul_le_mul_right _ h
    rw [← Nat.pow_add] at h1
    exact Nat.lt_of_le_of_lt h1 (Nat.pow_lt_pow_right (by decide) (by decide))
  omega
theorem live_wt {bits : Nat} {e : Int} (h : wtR lv2 lv3 0 bits e) : bits = 4610560118520545280 ∧ e = 0 := by
  have hp := p2148
  rcases h with ⟨hh, _⟩ | ⟨_, ⟨hh, _⟩ | ⟨_, ⟨hh, _⟩ | ⟨_, ⟨hh, _⟩ | ⟨_, ⟨hh, _⟩ | ⟨_, h⟩⟩⟩⟩⟩
  · exact absurd (by decide) hh
  · exact absurd hh (by decide)
  · exact absurd rfl hh
  · exact absurd (by decide +kernel) hh
  · cases hh
  rw [lv3_sum, lv23_prod, if_neg (by rw [Int.natCast_mul]; omega), if_neg (by rw [Int.natCast_mul]; omega)] at h
  have i7 := lv_in (a := 7) (by decide)
  have i4 := lv_in (a := 4) (by decide)
  obtain ⟨he, r, hN, hr, hb⟩ := quo_sum (by have := BB_pos; omega) i7 (by rw [Int.natCast_mul]; omega) i4 (by decide) h
  refine ⟨?_, he⟩
  rw [if_neg (by rw [Int.natCast_mul]; omega)] at hb
  rw [hb]
  rw [Int.natAbs_natCast, Int.natAbs_natCast] at hN
  have hB : 0 < 4 * 2 ^ 2148 := Nat.mul_pos (by decide) (Nat.two_pow_pos _)
  exact hN.unique hB (near_is (by decide) hB (by decide +kernel))
end Go.Proofs.YtphnpchmdpjabaaGreatDoor

/- Package steelyardlaw13: live, exact. No condition. -/
namespace Go.Proofs.YtphnpchmdpjabaaGreatDoor
open Go Sx Wd
set_option exponentiation.threshold 5000

theorem exact_spec (x y : Nat) (w : World) : Ret Tryz.prog 13 [.float .f64 x, .float .f64 y] w fun u w' => u = .bool (decide (x = y)) ∧ w = w' := by
 refine Ret.enter Tryz.func13 rfl rfl ?_
 simp only [args0, Nat.zero_add, Nat.reduceAdd]
 refine Sr fun _ kh1 => za rfl (zz (kh1 (Sr fun _ kh3 => zm rfl ?_)))
 refine WL.ev (Ev.ext rfl (ext40 _ _)) rfl ?_
 refine zm rfl ?_
 refine WL.ev (Ev.ext rfl (ext40 _ _)) rfl ?_
 refine zq rfl rfl (za rfl (zz (kh3 ?_)))
 refine CW.ret ?_
 refine bodyA.ret1 rfl rfl ?_
 refine ⟨congrArg Value.bool (decide_eq_decide.2 (by omega)), rfl⟩

set_option maxRecDepth 8000 in
theorem live_spec (w : World) (hg : GW w) : Ret Tryz.prog 8 [] w fun u w' => u = .bool true ∧ Chg [] w w' := by
 have hch : Chg [] w w := Chg.refl _ _
 have hg0 := hg
 refine Ret.enter Tryz.func8 rfl rfl ?_
 simp only [args0, Nat.zero_add, Nat.reduceAdd]
 refine Sr fun _ kh1 => za rfl (zz (kh1 (Sr fun _ kh3 => ?_)))
 refine WL.buildSlice (m := 3) (cs := [f64v (4607182418800017408), f64v (4611686018427387904), f64v (4618441417868443648)]) (by decide) (by decide) rfl (by kernel_rfl) rfl fun b8 w8 hn8 => ?_
 have hcm8 := hn8.chg
 have hge8 := hn8.ge
 have hb8 : FB w8 b8 _ [4607182418800017408, 4611686018427387904, 4618441417868443648] := hn8.at_
 have hgehch8 := Nat.le_trans hch.size hge8
 have hch := hch.trans (Chg.any hcm8)
 refine WL.ev (Ev.build (vs := _) (cs := [_, _]) rfl rfl) rfl ?_
 refine WL.call hasF15 rfl rfl (Mean_spec _ lv1 0 0 0 _ (NF.of_row hb8.row (by decide) (by decide) rfl (by decide)) (hg0.keep0 hch)) fun v w1 h' => ?_
 obtain ⟨⟨bits, e, rfl, hM⟩, hC10⟩ := h'
 obtain ⟨rfl, rfl⟩ := live_mean hM
 have hch := hch.trans (Chg.any hC10)
 have hb8 := hb8.keep0 hC10
 refine zm rfl (zx rfl rfl (zx rfl rfl (za rfl (za rfl (zz (kh3 (Sr fun _ kh5 => ?_)))))))
 refine WL.buildSlice (m := 2) (cs := [f64v (4607182418800017408), f64v (4611686018427387904)]) (by decide) (by decide) rfl (by kernel_rfl) rfl fun b14 w14 hn14 => ?_
 have hcm14 := hn14.chg
 have hge14 := hn14.ge
 have hb14 : FB w14 b14 _ [4607182418800017408, 4611686018427387904] := hn14.at_
 have hgehch14 := Nat.le_trans hch.size hge14
 have hch := hch.trans (Chg.any hcm14)
 have hneb814 : b8 ≠ b14 := by have := hb8.lt; omega
 have hb8 := hb8.keep0 hcm14
 refine WL.buildSlice (m := 2) (cs := [f64v (4607182418800017408), f64v (4613937818241073152)]) (by decide) (by decide) rfl (by kernel_rfl) rfl fun b15 w15 hn15 => ?_
 have hcm15 := hn15.chg
 have hge15 := hn15.ge
 have hb15 : FB w15 b15 _ [4607182418800017408, 4613937818241073152] := hn15.at_
 have hgehch15 := Nat.le_trans hch.size hge15
 have hch := hch.trans (Chg.any hcm15)
 have hneb815 : b8 ≠ b15 := by have := hb8.lt; omega
 have hb8 := hb8.keep0 hcm15
 have hneb1415 : b14 ≠ b15 := by have := hb14.lt; omega
 have hb14 := hb14.keep0 hcm15
 refine WL.call hasF25 rfl rfl (Weighted_spec _ _ lv2 lv3 0 _ (NF.of_row hb14.row (by decide) (by decide) rfl (by decide)) (NF.of_row hb15.row (by decide) (by decide) rfl (by decide)) (hg0.keep0 hch)) fun v w2 h' => ?_
 obtain ⟨⟨bits, e, rfl, hM⟩, hC16⟩ := h'
 obtain ⟨rfl, rfl⟩ := live_wt hM
 have hch := hch.trans (Chg.any hC16)
 have hb8 := hb8.keep0 hC16
 have hb14 := hb14.keep0 hC16
 have hb15 := hb15.keep0 hC16
 refine zm rfl (zx rfl rfl (zx rfl rfl (za rfl (za rfl (zz (kh5 (Sr fun _ kh7 => ?_)))))))
 refine WL.call hasF29 rfl rfl (Middle_spec _ _ 0 _ (by decide) (by decide) (hg0.keep0 hch)) fun v w3 h' => ?_
 obtain ⟨⟨bits, e, rfl, hM⟩, hC20⟩ := h'
 obtain ⟨rfl, rfl⟩ := live_mid hM
 have hch := hch.trans (Chg.any hC20)
 have hb8 := hb8.keep0 hC20
 have hb14 := hb14.keep0 hC20
 have hb15 := hb15.keep0 hC20
 refine zm rfl (zx rfl rfl (zx rfl rfl (za rfl (za rfl (zz (kh7 (Sr fun _ kh9 => zm rfl (zq rfl rfl (zm rfl (zw rfl (zm rfl (zw rfl ?_))))))))))))
 refine WL.ev (Ev.feql rfl rfl) rfl ?_
 rw [show (FloatKind.f64.format.order 4613937818241073152 4613937818241073152 == some .eq) = true by rw [Fl.order_self_eq]; decide]
 refine zt rfl rfl (zm rfl (zw rfl (zm rfl (zw rfl (zq rfl rfl (zt rfl rfl (zm rfl (zw rfl (zm rfl (zw rfl ?_))))))))))
 refine WL.ev (Ev.feql rfl rfl) rfl ?_
 rw [show (FloatKind.f64.format.order 4610560118520545280 4610560118520545280 == some .eq) = true by rw [Fl.order_self_eq]; decide]
 refine zt rfl rfl (zm rfl (zw rfl (zm rfl (zw rfl (zq rfl rfl (zt rfl rfl (zm rfl (zw rfl (zm rfl (zw rfl ?_))))))))))
 refine WL.ev (Ev.feql rfl rfl) rfl ?_
 rw [show (FloatKind.f64.format.order 4609434218613702656 4609434218613702656 == some .eq) = true by rw [Fl.order_self_eq]; decide]
 refine zt rfl rfl (za rfl (zz (kh9 ?_)))
 refine CW.ret ?_
 refine bodyA.ret1 rfl rfl ?_
 exact ⟨rfl, hch⟩

end Go.Proofs.YtphnpchmdpjabaaGreatDoor

/- Package steelyardlaw13: finite. No condition. -/
namespace Go.Proofs.YtphnpchmdpjabaaGreatDoor
open Go Sx Wd
set_option exponentiation.threshold 5000

structure KLf (l : List Nat) (w0 : World) (i : Nat) (w : World) : Prop where
  hi : i ≤ l.length
  f : finL (l.take i)
  ch : Chg [] w0 w

set_option maxRecDepth 8000 in
theorem lfinite_spec (v : Value) (l : List Nat) (w : World) (hv : NF w v l) : Ret Tryz.prog 14 [v] w fun u w' => u = .bool (decide (finL l)) ∧ Chg [] w w' := by
 obtain ⟨⟨al, cl, rfl, hcap, hrl⟩, hWl, hll⟩ := hv
 have hch : Chg [] w w := Chg.refl _ _
 refine Ret.enter Tryz.func14 rfl rfl ?_
 simp only [args0, Nat.zero_add, Nat.reduceAdd]
 refine Sr fun _ kh1 => za rfl (zz (kh1 (zc fun _ kh3 => Sr fun _ kh4 => za rfl (zz (kh4 ?_)))))
 refine CW.block ?_
 refine CW.loop (S := fun i : Nat => [(0, .slice al l.length cl), (3, .int .i64 (i : Int))]) (Inv := KLf l w) (mu := fun i => l.length - i) (0) ?_ ?_ ?_
 ·
  exact ⟨Nat.zero_le _, fun x hx => (by simp at hx), hch⟩
 ·
  exact SLp
 ·
  rintro i wr ⟨hi, hf, hch⟩
  refine zc fun _ kh6 => Sr fun _ kh7 => zm rfl (zm rfl (zn rfl ?_))
  refine WL.ev (Ev.lss rfl rfl) rfl ?_
  refine zz (kh7 ?_)
  refine CW.cond rfl (fun hc1 => ?_) (fun hc1 => ?_)
  ·
   try simp only [qs] at hc1
   have hst := finL_step (l := l) (i := i) (by omega)
   refine CW.skip ?_
   refine kh6 (zc fun _ kh9 => ?_)
   refine CW.block ?_
   refine zc fun _ kh10 => ?_
   refine CW.regionTC 8 hmix (by kernel_rfl) fun kR11 kr11 hdr => ?_
   have hch := hch.trans (Chg.any hdr)
   refine ym rfl (ym rfl ?_)
   refine WS.ev (Ev.ixR (i) rfl rfl (hrl.keep0 hch) (by omega) (by omega) (by simp; omega)) rfl ?_
   refine WS.ev (Ev.load rfl rfl ((hrl.keep0 hch).f64 (by first | omega | (simp; omega)))) rfl ?_
   refine ym rfl (ym rfl ?_)
   refine WS.ev (Ev.ixR (i) rfl rfl (hrl.keep0 hch) (by omega) (by omega) (by simp; omega)) rfl ?_
   refine WS.ev (Ev.load rfl rfl ((hrl.keep0 hch).f64 (by first | omega | (simp; omega)))) rfl ?_
   refine WS.nil ?_
   refine WL.fsubSelf rfl rfl rfl fun r18 w18 hc18 hr18 ho18 => ?_
   have hch := hch.trans hc18
   refine WL.ev (Ev.fneq rfl rfl) rfl ?_
   rw [show (FloatKind.f64.format.order r18 0 != some .eq) = !decide ((splitP (l.getD i 0)).cls ≤ 2) by rw [← ho18]; rfl]
   refine WL.nil (kr11 _ _ _ (kh10 ?_))
   refine CW.cond rfl (fun hc2 => ?_) (fun hc2 => ?_)
   ·
    try simp only [qs] at hc2
    have hfx : ¬ (splitP (l.getD i 0)).cls ≤ 2 := by simpa using hc2
    refine Sr fun _ kh12 => za rfl (zz (kh12 ?_))
    refine CW.ret ?_
    refine bodyA.ret1 rfl rfl ?_
    refine ⟨?_, hch⟩
    rw [decide_eq_false fun h => hfx (hst.1 (finL_take h)).2]
   ·
    try simp only [qs] at hc2
    have hfx : (splitP (l.getD i 0)).cls ≤ 2 := by simpa using hc2
    refine CW.skip ?_
    refine kh9 ?_
    refine CW.region fun kR14 kr14 => ?_
    refine zm rfl ?_
    first | refine WL.ev (Ev.addIn rfl rfl (by omega)) rfl ?_ | refine WL.ev (Ev.add rfl rfl) rfl ?_
    refine za rfl ?_
    refine WL.nil (kr14 _ _ _ ?_)
    refine ⟨rfl, i + 1, ?_, ?_, ?_⟩
    ·
     exact SLp
    ·
     exact ⟨by omega, hst.2 ⟨hf, hfx⟩, hch⟩
    ·
     omega
  ·
   try simp only [qs] at hc1
   have hiX : i = l.length := by omega
   subst hiX
   rw [List.take_length] at hf
   refine CW.exit ?_
   refine kh3 (Sr fun _ kh15 => za rfl (zz (kh15 ?_)))
   refine CW.ret ?_
   refine bodyA.ret1 rfl rfl ?_
   refine ⟨?_, hch⟩
   rw [decide_eq_true hf]

end Go.Proofs.YtphnpchmdpjabaaGreatDoor

/- Package steelyardlaw13: MeanSame. No condition. -/
namespace Go.Proofs.YtphnpchmdpjabaaGreatDoor
open Go Sx Wd Fl

structure KSm (l : List Nat) (y b : Nat) (w0 : World) (g : Nat × Value × List Nat × SP) (w : World) : Prop where
  hi : g.1 ≤ l.length
  hB : TB w b 107 g.2.2.1 g.2.2.2.cells
  hr : Rep g.2.2.1 (sumI (l.take g.1))
  hs : g.2.2.2.le g.1
  hg : GR w 28 f64v w0.heap.size [b] g.2.1 (List.replicate g.1 y)
  ch : Chg [] w0 w

theorem finL_at {l : List Nat} (h : finL l) {i : Nat} (hi : i < l.length) : (splitP (l.getD i 0)).cls ≤ 2 := h _ (by rw [List.getD_eq_getElem?_getD, List.getElem?_eq_getElem hi]; exact List.getElem_mem _)

set_option maxRecDepth 8000 in
set_option maxHeartbeats 4000000 in
theorem MeanSame_spec (v : Value) (l : List Nat) (y : Nat) (mode : Int) (w : World) (hg : GW w) (hvl : NF w v l ∧ l.length ≤ 17592186044415) (hy : y < 18446744073709551616) (hmode : -9223372036854775808 ≤ mode ∧ mode ≤ 9223372036854775807) : Ret Tryz.prog 7 [v, .float .f64 y, .int .i64 mode] w fun u w' => u = .bool true ∧ Chg [] w w' := by
 obtain ⟨hv, hlm⟩ := hvl
 have hv0 := hv
 obtain ⟨⟨al, cl, rfl, hcapl, hrl⟩, hWl, hll⟩ := hv
 have hch : Chg [] w w := Chg.refl _ _
 have hg0 := hg
 refine Ret.enter Tryz.func7 rfl rfl ?_
 simp only [args0, Nat.zero_add, Nat.reduceAdd]
 refine Sr fun _ kh1 => za rfl (zz (kh1 (Sr fun _ kh3 => ?_)))
 refine WL.call hasF8 rfl rfl (live_spec _ (hg0.keep0 hch)) fun v w1 h' => ?_
 obtain ⟨rfl, hC⟩ := h'
 have hch := hch.trans (Chg.any hC)
 refine za rfl (zz (kh3 (Sr fun _ kh5 => zm rfl ?_)))
 refine WL.call hasF14 rfl rfl (lfinite_spec _ l _ (hv0.keep0 hch)) fun v w2 h' => ?_
 obtain ⟨rfl, hC⟩ := h'
 have hch := hch.trans (Chg.any hC)
 refine za rfl (zz (kh5 (zc fun _ kh7 => Sr fun _ kh8 => zm rfl ?_)))
 refine WL.ev (Ev.not rfl) rfl ?_
 refine zm rfl ?_
 refine WL.boolCase (fun hg1 => ?_) (fun hg1 => ?_)
 ·
  try simp only [qs] at hg1
  have hq := hg1
  refine zv rfl (zv rfl (zv rfl (zt rfl rfl (zm rfl (zv rfl (zv rfl (zv rfl (zt rfl rfl (zm rfl (zv rfl (zv rfl (zt rfl rfl (zm rfl (zv rfl (zv rfl (zt rfl rfl (zz (kh8 ?_))))))))))))))))))
  refine CW.condT rfl ?_
  refine Sr fun _ kh10 => zm rfl (za rfl (zz (kh10 ?_)))
  refine CW.ret ?_
  refine bodyA.ret1 rfl rfl ?_
  exact ⟨rfl, hch⟩
 ·
  try simp only [qs] at hg1
  have hf : finL l := by have := hg1; simpa using this
  refine zw rfl (zm rfl (zw rfl (zn rfl (zw rfl (zq rfl rfl (ze rfl rfl (zm rfl ?_)))))))
  refine WL.boolCase (fun hg2 => ?_) (fun hg2 => ?_)
  ·
   try simp only [qs] at hg2
   have hq := hg2
   refine zv rfl (zv rfl (zv rfl (zt rfl rfl (zm rfl (zv rfl (zv rfl (zt rfl rfl (zm rfl (zv rfl (zv rfl (zt rfl rfl (zz (kh8 ?_)))))))))))))
   refine CW.condT rfl ?_
   refine Sr fun _ kh12 => zm rfl (za rfl (zz (kh12 ?_)))
   refine CW.ret ?_
   refine bodyA.ret1 rfl rfl ?_
   exact ⟨rfl, hch⟩
  ·
   try simp only [qs] at hg2
   have hn0 : l.length ≠ 0 := by have := hg2; omega
   have hne : l ≠ [] := fun q => by rw [q] at hn0; exact hn0 rfl
   refine zw rfl (zm rfl (zw rfl (zn rfl (zw rfl ?_))))
   refine WL.ev (Ev.gtr rfl rfl) rfl ?_
   refine ze rfl rfl (zm rfl ?_)
   refine WL.boolCase (fun hg3 => ?_) (fun hg3 => ?_)
   ·
    try simp only [qs] at hg3
    have hq := hg3
    refine zv rfl (zv rfl (zt rfl rfl (zm rfl (zv rfl (zv rfl (zt rfl rfl (zz (kh8 ?_))))))))
    refine CW.condT rfl ?_
    refine Sr fun _ kh14 => zm rfl (za rfl (zz (kh14 ?_)))
    refine CW.ret ?_
    refine bodyA.ret1 rfl rfl ?_
    exact ⟨rfl, hch⟩
   ·
    try simp only [qs] at hg3
    have hlm2 : l.length ≤ 1000 := by have := hg3; omega
    refine zw rfl (zm rfl (zw rfl ?_))
    refine WL.ev (Ev.lss rfl rfl) rfl ?_
    refine ze rfl rfl (zm rfl ?_)
    refine WL.boolCase (fun hg4 => ?_) (fun hg4 => ?_)
    ·
     try simp only [qs] at hg4
     have hq := hg4
     refine zv rfl (zv rfl (zt rfl rfl (zz (kh8 ?_))))
     refine CW.condT rfl ?_
     refine Sr fun _ kh16 => zm rfl (za rfl (zz (kh16 ?_)))
     refine CW.ret ?_
     refine bodyA.ret1 rfl rfl ?_
     exact ⟨rfl, hch⟩
    ·
     try simp only [qs] at hg4
     have h3 : 0 ≤ mode := by have := hg4; omega
     refine zw rfl (zm rfl (zw rfl ?_))
     refine WL.ev (Ev.gtr rfl rfl) rfl ?_
     refine ze rfl rfl (zz (kh8 ?_))
     refine CW.cond rfl (fun hc5 => ?_) (fun hc5 => ?_)
     ·
      try simp only [qs] at hc5
      have hq := hc5
      refine Sr fun _ kh18 => zm rfl (za rfl (zz (kh18 ?_)))
      refine CW.ret ?_
      refine bodyA.ret1 rfl rfl ?_
      exact ⟨rfl, hch⟩
     ·
      try simp only [qs] at hc5
      have hm : 0 ≤ mode ∧ mode ≤ 4 := by have := hc5; omega
      have hin := sumI_in (l := l) (by omega)
      refine CW.skip ?_
      refine kh7 (Sr fun _ kh20 => zm rfl (zm rfl ?_))
      refine WL.ev (Ev.build (vs := _) (cs := [_, _]) rfl rfl) rfl ?_
      refine WL.call hasF15 rfl rfl (Mean_spec _ l mode 0 0 _ (hv0.keep0 hch) (hg0.keep0 hch)) fun v w3 h' => ?_
      obtain ⟨⟨x1, e1, rfl, hM⟩, hC⟩ := h'
      obtain ⟨rfl, hx64, hxf⟩ := mean_num hM hf hWl (by omega) hne hm
      have hch := hch.trans (Chg.any hC)
      refine zm rfl (zx rfl rfl (zx rfl rfl (za rfl (za rfl (zz (kh20 (Sr fun _ kh22 => zm rfl (zm rfl ?_))))))))
      refine WL.call hasF22 rfl rfl (mTrimmed_spec _ l 0 mode _ (hv0.keep0 hch) (by decide) (hg0.keep0 hch)) fun v w4 h' => ?_
      obtain ⟨⟨x2, e2, rfl, hM2⟩, hC⟩ := h'
      obtain ⟨rfl, rfl⟩ := trim_none hf hWl (by omega) hne hm hM2 hM
      have hch := hch.trans (Chg.any hC)
      refine zm rfl (zx rfl rfl (zx rfl rfl (za rfl (za rfl (zz (kh22 (Sr fun _ kh24 => za rfl (zz (kh24 (Sr fun _ kh26 => ?_))))))))))
      refine WL.call hasF26 rfl rfl (New_spec _) fun v w5 h' => ?_
      obtain ⟨b, rfl, hB6, hge6, hC⟩ := h'
      have hbge : w.heap.size ≤ b := Nat.le_trans hch.size hge6
      have hch := hch.trans (Chg.any hC)
      refine za rfl (zz (kh26 (zc fun _ kh28 => Sr fun _ kh29 => zm rfl ?_)))
      refine WL.ev (Ev.eqlPtrNil rfl rfl) rfl ?_
      refine zz (kh29 ?_)
      refine CW.condF rfl ?_
      refine CW.skip ?_
      refine kh28 (zc fun _ kh31 => Sr fun _ kh32 => za rfl (zz (kh32 ?_)))
      refine CW.block ?_
      refine CW.loop (S := fun g : Nat × Value × List Nat × SP => [(0, .slice al l.length cl), (1, .float .f64 y), (2, .int .i64 mode), (7, .bool true), (9, .float .f64 x2), (10, .int .i64 0), (11, .float .f64 x2), (12, .int .i64 0), (13, g.2.1), (14, .pointer (some ⟨b, 0, none⟩)), (15, .int .i64 (g.1 : Int))]) (Inv := KSm l y b w) (mu := fun g => l.length - g.1) ((0, .slice none 0 0, List.replicate 67 0, SP.zero)) ?_ ?_ ?_
      ·
       exact ⟨Nat.zero_le _, hB6, by rw [List.take_zero]; exact Rep.zero, ⟨by decide, by decide, by decide, by decide, by decide, by decide⟩, GR.nil, hch⟩
      ·
       exact SLp
      ·
       rintro ⟨i, vt, C, s⟩ wr ⟨hi, hB, hr, hs, hgt, hch⟩
       dsimp only at hi hB hr hs hgt hch
       dsimp only
       have hx := D_getD hWl i
       refine zc fun _ kh34 => Sr fun _ kh35 => zm rfl (zm rfl (zn rfl ?_))
       refine WL.ev (Ev.lss rfl rfl) rfl ?_
       refine zz (kh35 ?_)
       refine CW.cond rfl (fun hc6 => ?_) (fun hc6 => ?_)
       ·
        try simp only [qs] at hc6
        have hst := sumI_step (l := l) (i := i) (by omega)
        have hin2 := sumI_in (l := l.take (i + 1)) (by rw [List.length_take]; omega)
        rw [hst, ← thv_one] at hin2
        refine CW.skip ?_
        refine kh34 (zc fun _ kh37 => ?_)
        refine CW.block ?_
        refine Sr fun _ kh38 => zm rfl (zm rfl ?_)
        refine WL.buildSlice (m := 1) (cs := [f64v (y)]) (by decide) (by decide) rfl (by kernel_rfl) rfl fun b73 w73 hn73 => ?_
        have hcm73 := hn73.chg
        have hge73 := hn73.ge
        have hb73 : FB w73 b73 _ [y] := hn73.at_
        have hgehch73 := Nat.le_trans hch.size hge73
        have hch := hch.trans (Chg.any hcm73)
        have hneb73 : b ≠ b73 := by have := hB.lt; omega
        have hB := hB.keep0 hcm73
        have hgt := hgt.keep0 hcm73
        refine WL.growR (f := f64v) (lo := w.heap.size) (X := [b]) (l := (List.replicate i y)) (news := [y]) (by rfl) (fun i => rfl) rfl rfl hgt (by first | rfl | (simp; done) | (simp; omega) | omega) hb73.row (by first | omega | exact hch.size | exact hcr.size | exact Nat.le_refl _) (by simpa using hB.lt) (by simp only [List.length_replicate, List.length_append, List.length_cons, List.length_nil]; omega) (by simp only [List.length_replicate, List.length_append, List.length_cons, List.length_nil]; omega) rfl fun v74 w74 hg74 hcg74 => ?_
        have hch := GR.frame hgt hcg74 hch (by first | omega | exact Nat.le_refl _)
        have hB := hB.keep hcg74 (hgt.notin (by first | exact .inl (by simp) | exact .inr (by omega)))
        have hgt := hg74
        rw [show ((List.replicate i y) ++ [y]) = (List.replicate (i + 1) y) from by exact (List.replicate_succ' ..).symm] at hgt
        refine za rfl (zz (kh38 ?_))
        refine CW.region fun kR40 kr40 => ?_
        refine zm rfl (zm rfl (zm rfl ?_))
        refine WL.ev (Ev.ixR (i) rfl rfl (hrl.keep0 hch) (by omega) (by omega) (by simp; omega)) rfl ?_
        refine WL.ev (Ev.load rfl rfl ((hrl.keep0 hch).f64 (by first | omega | (simp; omega)))) rfl ?_
        refine WL.call hasF27 rfl rfl (acAdd_spec b C (l.getD i 0) s (sumI (l.take i)) _ hB hr hx (hs.mono (by omega)) hin2.1 hin2.2) fun v w6 h' => ?_
        obtain ⟨rfl, C2, hB2, hr2, hC15⟩ := h'
        rw [thv_one, ← hst] at hr2
        have hch := hch.step hC15 (fun y hy => by simp only [List.mem_singleton] at hy; subst hy; exact .inr hbge)
        have hgt := hgt.keep hC15 (fun y hy => .inl hy)
        refine WL.nil (kr40 _ _ _ (kh37 ?_))
        refine CW.region fun kR41 kr41 => ?_
        refine zm rfl ?_
        first | refine WL.ev (Ev.addIn rfl rfl (by omega)) rfl ?_ | refine WL.ev (Ev.add rfl rfl) rfl ?_
        refine za rfl ?_
        refine WL.nil (kr41 _ _ _ ?_)
        refine ⟨rfl, (i + 1, v74, C2, cnt1 s (splitP (l.getD i 0)).cls (splitP (l.getD i 0)).neg), ?_, ?_, ?_⟩
        ·
         exact SLp
        ·
         exact ⟨by show i + 1 ≤ l.length; omega, hB2, hr2, cnt1_le hs _ _, hgt, hch⟩
        ·
         show l.length - (i + 1) < l.length - i; omega
       ·
        try simp only [qs] at hc6
        have hiX : i = l.length := by omega
        subst hiX
        rw [List.take_length] at hr
        have hNt := hgt.nf (by intro z hz; rw [List.eq_of_mem_replicate hz]; exact hy) (by simp; omega)
        refine CW.exit ?_
        refine kh31 (Sr fun _ kh42 => zm rfl (zm rfl (zm rfl ?_)))
        refine WL.call hasF25 rfl rfl (Weighted_spec _ _ l (List.replicate l.length y) mode _ (hv0.keep0 hch) hNt (hg0.keep0 hch)) fun v w7 h' => ?_
        obtain ⟨⟨z, eg, rfl, hW⟩, hC⟩ := h'
        have hch := hch.trans (Chg.any hC)
        have hB := hB.keep0 hC
        have hgt := hgt.keep0 hC
        refine zm rfl (zx rfl rfl (zx rfl rfl (za rfl (za rfl (zz (kh42 (Sr fun _ kh44 => zm rfl ?_)))))))
        refine WL.call hasF28 rfl rfl (Exact_spec b C (sumI l) _ hB hr (hg0.keep0 hch) hin.1 hin.2) fun v w8 h' => ?_
        obtain ⟨⟨rx, rfl, hNx⟩, hC⟩ := h'
        have hch := hch.trans (Chg.any hC)
        have hB := hB.keep0 hC
        have hgt := hgt.keep0 hC
        refine zm rfl (zn rfl (zm rfl ?_))
        refine WL.call hasF10 rfl rfl (mOf_spec _ rx (wd (sumD (sumI l)).m) (sumD (sumI l)).e (l.length : Int) mode _ hNx (hg0.keep0 hch) (ok_e (sumD_ok hin.1 hin.2))) fun v w9 h' => ?_
        obtain ⟨⟨v1, ev, rfl, hO⟩, hC⟩ := h'
        rw [val_wd] at hO
        obtain ⟨rfl, hvf, hvx⟩ := of_same hf hWl (by omega) hne hm hO hM
        have hch := hch.trans (Chg.any hC)
        have hB := hB.keep0 hC
        have hNx := hNx.keep0 hC
        have hgt := hgt.keep0 hC
        refine zm rfl (zx rfl rfl (zx rfl rfl (za rfl (za rfl (zz (kh44 (zc fun _ kh46 => ?_)))))))
        have hx0 := D_getD hWl 0
        have hx1 := D_getD hWl (l.length - 1)
        have hf0 := finL_at hf (i := 0) (by omega)
        have hf1 := finL_at hf (i := l.length - 1) (by omega)
        refine CW.regionHC 16 rfl hmix fun kR47 kr47 hS hdr => ?_
        have hch := hch.trans (Chg.any hdr)
        have hB := hB.keep0 hdr
        have hgt := hgt.keep0 hdr
        have hch_r := hch
        have hB_r := hB
        refine wh 0 rfl hS (fun _ _ => Ev.move rfl) (wh 1 rfl hS (fun _ hw' => Ev.ixR (0) rfl rfl (hrl.keep0 (hch_r.trans hw')) (by omega) (by omega) (by simp; omega)) (wh 2 rfl hS (fun _ hw' => Ev.load rfl rfl ((hrl.keep0 (hch_r.trans hw')).f64 (by first | omega | (simp; omega)))) (wh 3 rfl hS (fun _ _ => Ev.move rfl) (wh 4 rfl hS (fun _ _ => Ev.move rfl) (wh 5 rfl hS (fun _ _ => Ev.len rfl) (wh 6 rfl hS (fun _ _ => Ev.subIn rfl rfl (by omega)) ?_))))))
        rw [show (l.length : Int) - 1 = ((l.length - 1 : Nat) : Int) by omega]
        refine wh 7 rfl hS (fun _ hw' => Ev.ixR ((l.length - 1)) rfl rfl (hrl.keep0 (hch_r.trans hw')) (by omega) (by omega) (by simp; omega)) (wh 8 rfl hS (fun _ hw' => Ev.load rfl rfl ((hrl.keep0 (hch_r.trans hw')).f64 (by first | omega | (simp; omega)))) (wh 9 rfl hS (fun _ _ => Ev.move rfl) ?_))
        refine WH.oneCall 10 rfl (by kernel_rfl) hasF29 rfl rfl (Middle_spec (l.getD 0 0) (l.getD (l.length - 1) 0) mode _ hx0 hx1 (hg0.keep0 hch)) fun v w10 h' => ?_
        obtain ⟨⟨u1, eu, rfl, hU⟩, hC⟩ := h'
        have hch := hch.trans (Chg.any hC)
        have hB := hB.keep0 hC
        have hgt := hgt.keep0 hC
        have hS := hS.trans hC
        refine ⟨hS, ?_⟩
        refine wh 11 rfl hS (fun _ _ => Ev.move rfl) (wh 12 rfl hS (fun _ _ => Ev.extract rfl rfl) (wh 13 rfl hS (fun _ _ => Ev.extract rfl rfl) (wh 14 rfl hS (fun _ _ => Ev.assign rfl) (wh 15 rfl hS (fun _ _ => Ev.assign rfl) ?_))))
        refine WH.done (by kernel_rfl) (kr47 _ _ _ ?_)
        refine kh46 (zc fun _ kh48 => ?_)
        refine CW.regionHC 18 rfl hmix fun kR49 kr49 hS hdr => ?_
        have hch := hch.trans (Chg.any hdr)
        have hB := hB.keep0 hdr
        have hgt := hgt.keep0 hdr
        have hch_r := hch
        have hB_r := hB
        refine wh 0 rfl hS (fun _ _ => Ev.move rfl) (wh 1 rfl hS (fun _ hw' => Ev.ixR (0) rfl rfl (hrl.keep0 (hch_r.trans hw')) (by omega) (by omega) (by simp; omega)) (wh 2 rfl hS (fun _ hw' => Ev.load rfl rfl ((hrl.keep0 (hch_r.trans hw')).f64 (by first | omega | (simp; omega)))) (wh 3 rfl hS (fun _ _ => Ev.move rfl) (wh 4 rfl hS (fun _ _ => Ev.move rfl) (wh 5 rfl hS (fun _ _ => Ev.len rfl) (wh 6 rfl hS (fun _ _ => Ev.subIn rfl rfl (by omega)) ?_))))))
        rw [show (l.length : Int) - 1 = ((l.length - 1 : Nat) : Int) by omega]
        refine wh 7 rfl hS (fun _ hw' => Ev.ixR ((l.length - 1)) rfl rfl (hrl.keep0 (hch_r.trans hw')) (by omega) (by omega) (by simp; omega)) (wh 8 rfl hS (fun _ hw' => Ev.load rfl rfl ((hrl.keep0 (hch_r.trans hw')).f64 (by first | omega | (simp; omega)))) (wh 10 rfl hS (fun _ _ => Ev.move rfl) (wh 11 rfl hS (fun _ _ => Ev.build (vs := _) (cs := [_, _]) rfl rfl) ?_)))
        refine WH.buildSliceC 9 rfl (by kernel_rfl) hS (m := 2) (cs := [f64v (l.getD 0 0), f64v (l.getD (l.length - 1) 0)]) (by decide) (by decide) rfl (by kernel_rfl) rfl fun b121 w121 hn121 hS => ?_
        have hcm121 := hn121.chg
        have hge121 := hn121.ge
        have hb121 : FB w121 b121 _ [l.getD 0 0, l.getD (l.length - 1) 0] := hn121.at_
        have hgehch121 := Nat.le_trans hch.size hge121
        have hch := hch.trans (Chg.any hcm121)
        have hneb121 : b ≠ b121 := by have := hB.lt; omega
        have hB := hB.keep0 hcm121
        have hgt := hgt.keep0 hcm121
        refine WH.oneCall 12 rfl (by kernel_rfl) hasF15 rfl rfl (Mean_spec _ [l.getD 0 0, l.getD (l.length - 1) 0] mode 0 0 _ (NF.of_row hb121.row (by intro z hz; simp only [List.mem_cons, List.not_mem_nil, or_false] at hz; rcases hz with rfl | rfl <;> assumption) (by simp) rfl (by simp)) (hg0.keep0 hch)) fun v w11 h' => ?_
        obtain ⟨⟨t1, et, rfl, hT⟩, hC⟩ := h'
        obtain ⟨rfl, rfl⟩ := mean_unique (mid_mean hU hm hf0 hf1) hT
        obtain ⟨rfl, -, -⟩ := mean_num hT (by intro z hz; simp only [List.mem_cons, List.not_mem_nil, or_false] at hz; rcases hz with rfl | rfl <;> assumption) (by intro z hz; simp only [List.mem_cons, List.not_mem_nil, or_false] at hz; rcases hz with rfl | rfl <;> assumption) (by simp) (by simp) hm
        have hch := hch.trans (Chg.any hC)
        have hB := hB.keep0 hC
        have hb121 := hb121.keep0 hC
        have hgt := hgt.keep0 hC
        have hS := hS.trans hC
        refine ⟨hS, ?_⟩
        refine wh 13 rfl hS (fun _ _ => Ev.move rfl) (wh 14 rfl hS (fun _ _ => Ev.extract rfl rfl) (wh 15 rfl hS (fun _ _ => Ev.extract rfl rfl) (wh 16 rfl hS (fun _ _ => Ev.assign rfl) (wh 17 rfl hS (fun _ _ => Ev.assign rfl) ?_))))
        refine WH.done (by kernel_rfl) (kr49 _ _ _ ?_)
        refine kh48 (Sr fun _ kh50 => zm rfl (zm rfl ?_))
        refine WL.fsubSelf rfl rfl rfl fun r129 w129 hc129 hr129 ho129 => ?_
        have hch := hch.trans hc129
        refine WL.ev (Ev.fneq rfl rfl) rfl ?_
        rw [show (FloatKind.f64.format.order r129 0 != some .eq) = !decide ((splitP y).cls ≤ 2) from by rw [← ho129]; rfl]
        refine zm rfl ?_
        refine WL.boolCase (fun hg7 => ?_) (fun hg7 => ?_)
        ·
         try simp only [qs] at hg7
         have hyf : ¬ (splitP y).cls ≤ 2 := by have := hg7; simpa using this
         obtain rfl := wt_odd hW hm (by omega) (by simp) (fun q => hyf (q _ (by rw [List.mem_replicate]; exact ⟨hn0, rfl⟩)))
         refine zw rfl (zm rfl (zw rfl (zq rfl rfl ?_)))
         rw [decide_eq_true rfl]
         refine zt rfl rfl (zm rfl (zv rfl (zv rfl (zv rfl (zu rfl (zu rfl (zv rfl (zt rfl rfl (zm rfl (zv rfl (zv rfl (zv rfl (zv rfl (zv rfl (zu rfl (zu rfl (zv rfl (zv rfl (zu rfl (zu rfl (zv rfl (zv rfl (zu rfl ?_)))))))))))))))))))))))
         refine zu rfl (zu rfl (zv rfl (zt rfl rfl (za rfl (zz (kh50 (Sr fun _ kh52 => zm rfl (zm rfl (zw rfl (zm rfl (zw rfl (zq rfl rfl ?_))))))))))))
         rw [decide_eq_true rfl]
         refine zt rfl rfl (zm rfl (zw rfl (zm rfl (zw rfl (zq rfl rfl ?_)))))
         rw [decide_eq_true rfl]
         refine zt rfl rfl (zm rfl (zw rfl (zm rfl (zw rfl (zm rfl (zw rfl ?_))))))
         refine WL.call hasF13 rfl rfl (exact_spec _ _ _) fun v w12 h' => ?_
         obtain ⟨rfl, rfl⟩ := h'
         rw [decide_eq_true rfl]
         refine zt rfl rfl (zm rfl (zw rfl (zm rfl (zt rfl rfl (zm rfl (zw rfl (zm rfl (zw rfl (zq rfl rfl ?_)))))))))
         rw [decide_eq_true rfl]
         refine zt rfl rfl (zm rfl (zw rfl (zm rfl (zw rfl (zm rfl (zw rfl ?_))))))
         refine WL.ev (Ev.feql rfl rfl) rfl ?_
         rw [feq_val hvf hxf hvx]
         refine zt rfl rfl (zm rfl (zw rfl (zm rfl (zw rfl (zq rfl rfl ?_)))))
         rw [decide_eq_true rfl]
         refine zt rfl rfl (zm rfl (zw rfl (zm rfl (zw rfl (zq rfl rfl ?_)))))
         rw [decide_eq_true rfl]
         refine zt rfl rfl (zm rfl (zw rfl (zm rfl (zw rfl (zm rfl (zw rfl ?_))))))
         refine WL.call hasF13 rfl rfl (exact_spec _ _ _) fun v w13 h' => ?_
         obtain ⟨rfl, rfl⟩ := h'
         rw [decide_eq_true rfl]
         refine zt rfl rfl (za rfl (zz (kh52 ?_)))
         refine CW.ret ?_
         refine bodyA.ret1 rfl rfl ?_
         exact ⟨rfl, hch⟩
        ·
         try simp only [qs] at hg7
         have hyf : (splitP y).cls ≤ 2 := by have := hg7; simpa using this
         refine zv rfl (zv rfl (ze rfl rfl (zm rfl (zw rfl (zm rfl (zw rfl ?_))))))
         refine WL.ev (Ev.feql rfl rfl) rfl ?_
         rw [order_zero]
         refine zw rfl (zm rfl ?_)
         refine WL.boolCase (fun hg8 => ?_) (fun hg8 => ?_)
         ·
          try simp only [qs] at hg8
          have hy0 : fvI y = 0 := (fvI_nought hyf hy).2 (by have := hg8; simpa using this)
          obtain rfl := wt_nought hW hm hf (by omega) hne hyf hy0
          refine zw rfl (zm rfl (zw rfl (zq rfl rfl ?_)))
          rw [decide_eq_true rfl]
          refine zw rfl (zt rfl rfl (ze rfl rfl (zm rfl (zv rfl (zv rfl (zv rfl (zv rfl (zv rfl (zu rfl (zu rfl (zv rfl (zv rfl (zu rfl (zu rfl (zv rfl (zv rfl (zu rfl (zu rfl (zu rfl (zv rfl (zt rfl rfl (za rfl (zz (kh50 ?_))))))))))))))))))))))))
          refine Sr fun _ kh54 => zm rfl (zm rfl (zw rfl (zm rfl (zw rfl (zq rfl rfl ?_)))))
          rw [decide_eq_true rfl]
          refine zt rfl rfl (zm rfl (zw rfl (zm rfl (zw rfl (zq rfl rfl ?_)))))
          rw [decide_eq_true rfl]
          refine zt rfl rfl (zm rfl (zw rfl (zm rfl (zw rfl (zm rfl (zw rfl ?_))))))
          refine WL.call hasF13 rfl rfl (exact_spec _ _ _) fun v w14 h' => ?_
          obtain ⟨rfl, rfl⟩ := h'
          rw [decide_eq_true rfl]
          refine zt rfl rfl (zm rfl (zw rfl (zm rfl (zt rfl rfl (zm rfl (zw rfl (zm rfl (zw rfl (zq rfl rfl ?_)))))))))
          rw [decide_eq_true rfl]
          refine zt rfl rfl (zm rfl (zw rfl (zm rfl (zw rfl (zm rfl (zw rfl ?_))))))
          refine WL.ev (Ev.feql rfl rfl) rfl ?_
          rw [feq_val hvf hxf hvx]
          refine zt rfl rfl (zm rfl (zw rfl (zm rfl (zw rfl (zq rfl rfl ?_)))))
          rw [decide_eq_true rfl]
          refine zt rfl rfl (zm rfl (zw rfl (zm rfl (zw rfl (zq rfl rfl ?_)))))
          rw [decide_eq_true rfl]
          refine zt rfl rfl (zm rfl (zw rfl (zm rfl (zw rfl (zm rfl (zw rfl ?_))))))
          refine WL.call hasF13 rfl rfl (exact_spec _ _ _) fun v w15 h' => ?_
          obtain ⟨rfl, rfl⟩ := h'
          rw [decide_eq_true rfl]
          refine zt rfl rfl (za rfl (zz (kh54 ?_)))
          refine CW.ret ?_
          refine bodyA.ret1 rfl rfl ?_
          exact ⟨rfl, hch⟩
         ·
          try simp only [qs] at hg8
          have hym : ¬ y % 9223372036854775808 = 0 := by have := hg8; simpa using this
          have hy0 : fvI y ≠ 0 := fun q => hym ((fvI_nought hyf hy).1 q)
          obtain ⟨rfl, hzf, hxf2, hzx⟩ := wt_same hf hWl (by omega) hne hm hyf hy0 hW hM
          refine zv rfl (zv rfl (zw rfl (ze rfl rfl (ze rfl rfl (zm rfl (zw rfl (zm rfl (zw rfl (zm rfl (zw rfl ?_))))))))))
          refine WL.fsubSelf rfl rfl rfl fun r146 w146 hc146 hr146 ho146 => ?_
          have hch := hch.trans hc146
          refine zw rfl ?_
          refine WL.ev (Ev.feql rfl rfl) rfl ?_
          rw [ho146, decide_eq_true hyf]
          refine zw rfl (zm rfl (zw rfl (zm rfl (zw rfl ?_))))
          refine WL.ev (Ev.fneq rfl rfl) rfl ?_
          rw [show (FloatKind.f64.format.order y 0 != some .eq) = true from by rw [bne, order_zero, decide_eq_false hym]; rfl]
          refine zw rfl (zt rfl rfl (zw rfl (zm rfl (zw rfl (zm rfl (zw rfl (zq rfl rfl ?_)))))))
          rw [decide_eq_true rfl]
          refine zw rfl (zt rfl rfl (zw rfl (zm rfl (zw rfl (zm rfl (zw rfl (zm rfl (zw rfl ?_))))))))
          refine WL.ev (Ev.feql rfl rfl) rfl ?_
          rw [feq_val hzf hxf2 hzx]
          refine zw rfl (zt rfl rfl (ze rfl rfl (za rfl (zz (kh50 (Sr fun _ kh56 => zm rfl (zm rfl (zw rfl (zm rfl (zw rfl (zq rfl rfl ?_)))))))))))
          rw [decide_eq_true rfl]
          refine zt rfl rfl (zm rfl (zw rfl (zm rfl (zw rfl (zq rfl rfl ?_)))))
          rw [decide_eq_true rfl]
          refine zt rfl rfl (zm rfl (zw rfl (zm rfl (zw rfl (zm rfl (zw rfl ?_))))))
          refine WL.call hasF13 rfl rfl (exact_spec _ _ _) fun v w16 h' => ?_
          obtain ⟨rfl, rfl⟩ := h'
          rw [decide_eq_true rfl]
          refine zt rfl rfl (zm rfl (zw rfl (zm rfl (zt rfl rfl (zm rfl (zw rfl (zm rfl (zw rfl (zq rfl rfl ?_)))))))))
          rw [decide_eq_true rfl]
          refine zt rfl rfl (zm rfl (zw rfl (zm rfl (zw rfl (zm rfl (zw rfl ?_))))))
          refine WL.ev (Ev.feql rfl rfl) rfl ?_
          rw [feq_val hvf hxf hvx]
          refine zt rfl rfl (zm rfl (zw rfl (zm rfl (zw rfl (zq rfl rfl ?_)))))
          rw [decide_eq_true rfl]
          refine zt rfl rfl (zm rfl (zw rfl (zm rfl (zw rfl (zq rfl rfl ?_)))))
          rw [decide_eq_true rfl]
          refine zt rfl rfl (zm rfl (zw rfl (zm rfl (zw rfl (zm rfl (zw rfl ?_))))))
          refine WL.call hasF13 rfl rfl (exact_spec _ _ _) fun v w17 h' => ?_
          obtain ⟨rfl, rfl⟩ := h'
          rw [decide_eq_true rfl]
          refine zt rfl rfl (za rfl (zz (kh56 ?_)))
          refine CW.ret ?_
          refine bodyA.ret1 rfl rfl ?_
          exact ⟨rfl, hch⟩

end Go.Proofs.YtphnpchmdpjabaaGreatDoor

/- What came in, opened; the listed table, opened. No condition. -/
namespace Go.Proofs.YtphnpchmdpjabaaGreatDoor
open Go Sx Wd
open Go.ChangeShapes Go.WideShapes Go.ChangeAt Go.WideMaps Go.WideElems Go.RowKit

theorem own : ownKnob Tryz.prog.godebug = none := by kernel_rfl
theorem laidOut : laidOutB Tryz.prog = true := by kernel_rfl
theorem door_met (os : Os) (args : Array Value) : laidMetH Tryz.prog [("math/bits.deBruijn32tab", Rows.laid_math_bits_deBruijn32tab)] ((World.doorLaid Tryz.prog 400 os).forCall (fun _ _ => 0) ⟨#[], args, []⟩).memory :=
  laidMetH_of_parts3 (fuel := 8) (laidMet_of_run' 8 (by kernel_rfl) (by kernel_rfl)) (by kernel_rfl) (by kernel_rfl)
theorem gDeb : Tryz.prog.globalNamed "math/bits.deBruijn32tab" = some 1 := by kernel_rfl
theorem tDeb : (Tryz.prog.globals[1]?).map (·.type) = some 199 := by kernel_rfl
theorem deb_data {H : Type} : (Rows.laid_math_bits_deBruijn32tab : DataW H) = .agg (deb.map fun n : Nat => .lit (.int .u8 (n : Int))) := rfl
theorem gw_of_laid {W : World} (h : laidMetH Tryz.prog [("math/bits.deBruijn32tab", Rows.laid_math_bits_deBruijn32tab)] W) : GW W := by
  rw [MakeChecks.laidMetH_plain _ _ _ (by kernel_rfl)] at h
  obtain ⟨ps, ⟨g0, t0, cs0, f0, p0, q0, hg0, ht0, hv0, hd0, _, _⟩, _, _⟩ := h
  obtain rfl := Option.some.inj (gDeb.symm.trans hg0)
  obtain rfl := Option.some.inj (tDeb.symm.trans ht0)
  obtain ⟨xs, m1, rfl, hx1, hlen, hn3, hel⟩ := DataW.trod_array Tryz.underlying199 hd0
  have c8 : Tryz.prog.cellsOf 5 = 1 := by kernel_rfl
  simp only [Prod.mk.injEq] at hx1
  intro i hi
  have hi' := hel i hi
  rw [c8, Nat.mul_one] at hi'
  have hxi : xs[i]? = some (xs[i]'(by omega)) := List.getElem?_eq_getElem (by omega)
  rw [hxi] at hi'
  obtain ⟨k, e1, e2, _⟩ := DataW.trod_int Tryz.underlying5 hi'
  have hxs : (deb.map fun n : Nat => (DataW.lit (.int .u8 (n : Int)) : DataW Unit)) = xs.map (·.1) := by
    have := hx1.1
    rw [deb_data] at this
    exact DataW.agg.inj this
  have hdat : (deb.map fun n : Nat => (DataW.lit (.int .u8 (n : Int)) : DataW Unit))[i]? = some (.lit (.int .u8 ((deb.getD i 0 : Nat) : Int))) := by
    rw [List.getElem?_map, List.getElem?_eq_getElem (show i < deb.length from hi), List.getD_eq_getElem?_getD, List.getElem?_eq_getElem (show i < deb.length from hi)]; rfl
  rw [hxs, List.getElem?_map, hxi] at hdat
  simp only [Option.map_some] at hdat
  rw [e2] at hdat
  have hk : k = ((deb.getD i 0 : Nat) : Int) := by
    have := Option.some.inj hdat
    simp only [DataW.lit.injEq, Lit.int.injEq, true_and] at this
    exact this
  subst hk
  have hc : cs0[i]? = some (.int .u8 ((deb.getD i 0 : Nat) : Int)) := by
    have h3 : (cs0.toList.drop i)[0]? = some (.int .u8 ((deb.getD i 0 : Nat) : Int)) := by
      have := congrArg (fun l : List Value => l[0]?) e1
      simpa using this
    simpa using h3
  have := World.var?_cell hg0 hv0 i
  rw [hc] at this
  exact this

/-- One float cell, read. -/
theorem float_cell {H : Type} {enc : TypeId × Value → H} {P : Program} {w : World} {base : Nat} {spare : Nat → Bool} {held : Bool} {n : Nat} {e : TypeId} {v : Value} {x : DataW H × List MemPlace} (he : P.underlying e = some (.float .f64)) (h : DataW.trod enc P w base spare held n e [v] = some x) : ∃ b, v = .float .f64 b ∧ b < 18446744073709551616 := by
  cases n with
  | zero => simp [DataW.trod] at h
  | succ n =>
    simp only [DataW.trod, he] at h
    cases v <;> simp_all
    rename_i k b
    cases k <;> simp_all [Lit.wf]
theorem open_float1 {H : Type} {enc : TypeId × Value → H} {P : Program} {w : World} {base b0 : Nat} {spare : Nat → Bool} {held : Bool} {t : TypeId} {v : Value} {d : DataW H} {ps : List MemPlace} (ht : P.underlying t = some (.float .f64)) (hval : Value.okWide P w .any b0 t v) (h : DataW.Trod enc P w base spare held t v d ps) :
    ∃ b, v = .float .f64 b ∧ b < 18446744073709551616 := by
  obtain ⟨fuel, hf⟩ := h
  simp only [Value.okWide, ht, Cell.okWide] at hval
  have hv : ∃ k b, v = .float k b := by cases v <;> simp_all [Cell.ok]
  obtain ⟨k, b, rfl⟩ := hv
  exact float_cell ht (show DataW.trod enc P w base spare held fuel t [.float k b] = some (d, ps) from by simpa [Value.cells] using hf)
/-- A slice of floats that came in. -/
theorem open_nf {H : Type} {enc : TypeId × Value → H} {P : Program} {w : World} {base b0 : Nat} {spare : Nat → Bool} {held : Bool} {t e : TypeId} {v : Value} {d : DataW H} {ps : List MemPlace} (ht : P.underlying t = some (.slice e)) (he : P.underlying e = some (.float .f64)) (hc : P.cellsOf e = 1) (hb : P.bytesOf e = 8) (hval : Value.okWide P w .any b0 t v) (h : DataW.Trod enc P w base spare held t v d ps)
    (hsz : ∀ elems spare', d = .slice elems spare' → (elems.length + spare'.length) * P.bytesOf e ≤ reachBytes) : ∃ l : List Nat, NF w v l ∧ l.length ≤ 17592186044415 := by
  obtain ⟨a, len, cap, rfl⟩ := okWide_slice ht hval
  obtain ⟨fuel, hf⟩ := h
  rcases Go.Deep.open_slice1 ht hc hf with ⟨hcs, _⟩ | ⟨ad, l, c, m, n, V, D, Pl, hcs, _, hlc, hcm, hm, hx, hV⟩
  · simp [Value.cells] at hcs
    obtain ⟨rfl, rfl, rfl⟩ := hcs
    exact ⟨[], ⟨⟨none, 0, rfl, Nat.le_refl _, RW.nil⟩, fun x hx => (by cases hx), by decide⟩, by decide⟩
  · simp [Value.cells] at hcs
    obtain ⟨rfl, rfl, rfl⟩ := hcs
    have hlm : len ≤ m := by rw [hm]; split <;> omega
    simp only [Prod.mk.injEq] at hx
    have h8 := hsz _ _ hx.1
    rw [hb] at h8
    simp only [List.length_map, List.length_range] at h8
    have hr : reachBytes = 140737488351232 := by decide
    have hlen : len ≤ 17592186044415 := by omega
    obtain ⟨f, hf2⟩ := Go.Deep.choose_lt (α := Nat) (n := len) (p := fun i b => V i = .float .f64 b ∧ b < 18446744073709551616) (fun i hi => float_cell he (hV i (by omega)).2)
    refine ⟨(List.range len).map f, ⟨⟨some ad, cap, by simp, by simpa using hlc, fun i y hy => ?_⟩, fun y hy => ?_, by simp; omega⟩, by simpa using hlen⟩
    · have hi : i < len := by
        by_cases q : i < len
        · exact q
        · rw [List.getElem?_eq_none (by simp; omega)] at hy; cases hy
      simp [List.getElem?_range hi] at hy
      subst hy
      exact ⟨ad, rfl, by rw [(hV i (by omega)).1, (hf2 i hi).1]; rfl⟩
    · obtain ⟨i, hi, rfl⟩ := List.mem_map.1 hy
      exact (hf2 i (List.mem_range.1 hi)).2
end Go.Proofs.YtphnpchmdpjabaaGreatDoor

/- The statement on MeanSame. -/
namespace Go.Proofs.YtphnpchmdpjabaaGreatDoor.meanSame
open Go.ChangeShapes Go.WideShapes Go.ChangeAt Go.RowKit

set_option maxRecDepth 100000 in
theorem lifted (os : Os) (started : os.Started) (H : Type) (enc : TypeId × Value → H) :
    ReturnsInHanded {} Tryz.checked os 7 .any (fun w args => (Rows.meanSameSpec.pre enc Tryz.prog Tryz.f7 Rows.meanSameRow.domain false w args ∧ laidMetH Tryz.prog [("math/bits.deBruijn32tab", Rows.laid_math_bits_deBruijn32tab)] w) ∧ sizedMet enc Tryz.prog Tryz.f7 (OpenSpec.ofChange Rows.meanSameSpec) false w args) (Rows.meanSameSpec.post enc Tryz.prog Tryz.f7 false true false false) := by
  refine returnsInHanded_of_change_and (C := Tryz.checked) (X := fun w _ => laidMetH Tryz.prog [("math/bits.deBruijn32tab", Rows.laid_math_bits_deBruijn32tab)] w) (fun _ _ _ hh h => h.of_heap hh) own started (by kernel_rfl) Tryz.func7
    (ChangeSpec.witness_shaped (enc := enc) (C := Tryz.checked) (os := os) (X := fun w _ => laidMetH Tryz.prog [("math/bits.deBruijn32tab", Rows.laid_math_bits_deBruijn32tab)] w) false (World.doorLaid Tryz.prog 400 os) #[.slice none 0 0, .float .f64 0, .int .i64 0] 8 rfl (World.shaped_of_RefB (by kernel_rfl) (by kernel_rfl)) (by kernel_rfl) (by kernel_rfl) (by kernel_rfl) (door_met os _)) ?_
  intro W base args ds gs before hval0 hW hcnd hsz0 hL _
  have hGW := gw_of_laid hL
  have hval : ∀ (j : Nat) t v, Tryz.f7.params[j]? = some t → args[j]? = some v → Value.okWide Tryz.prog W .any base t v := hval0
  have hsz : (DataW.weightsEach Tryz.prog (Tryz.f7.params.toList ++ []) (ds ++ gs)).all (· ≤ reachBytes) = true := hsz0
  have hW' := hW
  obtain ⟨p, q, hA0, hV, rfl, hfz, hnd⟩ := hW
  have hA : DataW.TrodAll enc Tryz.prog W 0 (fun _ => true) true Tryz.f7.params.toList args.toList ds p := hA0
  rw [Tryz.params7] at hA hval hsz
  obtain ⟨v0, vs0, d0, ds0, p0, q0, hargs, rfl, rfl, h0, r0⟩ := trodAll_cons hA
  obtain ⟨v1, vs1, d1, ds1, p1, q1, rfl, rfl, rfl, h1, r1⟩ := trodAll_cons r0
  obtain ⟨v2, vs2, d2, ds2, p2, q2, rfl, rfl, rfl, h2, r2⟩ := trodAll_cons r1
  obtain ⟨rfl, rfl, rfl⟩ := trodAll_nil r2
  obtain rfl : args = #[v0, v1, v2] := by cases args; simp_all
  obtain ⟨rfl, rfl⟩ := trodVars_none hV
  simp only [List.append_nil] at hsz
  have k0 := h0
  have lt0 : ∀ x ∈ p0, x.block < W.heap.size := by obtain ⟨m, hm⟩ := k0; exact DataW.trod_lt m _ _ _ hm
  obtain ⟨l0, nf0⟩ := open_nf Tryz.underlying35 Tryz.underlying28 (by kernel_rfl) (by kernel_rfl) (hval 0 35 v0 rfl rfl) h0 (fun elems spare hd => sized_slice (j := 0) hsz rfl (by rw [← hd]; rfl) Tryz.underlying35)
  have k1 := h1
  have lt1 : ∀ x ∈ p1, x.block < W.heap.size := by obtain ⟨m, hm⟩ := k1; exact DataW.trod_lt m _ _ _ hm
  obtain ⟨a1, rfl, bd1⟩ := open_float1 Tryz.underlying28 (hval 1 28 v1 rfl rfl) h1
  have k2 := h2
  have lt2 : ∀ x ∈ p2, x.block < W.heap.size := by obtain ⟨m, hm⟩ := k2; exact DataW.trod_lt m _ _ _ hm
  obtain ⟨a2, rfl, _, _, wf2⟩ := open_int Tryz.underlying3 (hval 2 3 v2 rfl rfl) h2
  have bd2 := bounds_i64 wf2
  clear hA0 hval0
  refine Calls.mono (MeanSame_spec v0 l0 a1 a2 W hGW nf0 bd1 bd2) fun e W' ⟨v, he, hv, hc⟩ => ?_
  subst he
  subst hv
  have bel : Below W.heap.size W W' := hc.below
  exact ⟨_, rfl, _, _, _, [], _, [], hW', trodAll_mk1 (shut_bool Tryz.underlying4 _), (trodAll_cons_mk (Below.trod laidOut (by kernel_rfl) (of_decide_eq_true (by kernel_rfl)) k0 bel lt0) (trodAll_cons_mk (Below.trod laidOut (by kernel_rfl) (of_decide_eq_true (by kernel_rfl)) k1 bel lt1) (trodAll_cons_mk (Below.trod laidOut (by kernel_rfl) (of_decide_eq_true (by kernel_rfl)) k2 bel lt2) trodAll_mk0))), rfl, bel.frame _, fun h => by cases h⟩

theorem over : Rows.meanSameRow.holds Tryz.pinned (OpenSpec.ofChange Rows.meanSameSpec) :=
  OpenClaim.holds_of_wide 7 Tryz.f7 rfl rfl rfl rfl rfl rfl rfl ⟨rfl, rfl, rfl, rfl, rfl⟩ rfl rfl rfl rfl rfl (by kernel_rfl) Tryz.func7 (by kernel_rfl)
    (of_decide_eq_true (by kernel_rfl)) (by unfold Func.isWrapper; first | (rw [if_pos (by decide +kernel)]; kernel_rfl) | (rw [if_neg (by decide +kernel)]; exact ⟨rfl, rfl⟩))
    (fun os started H enc _ => lifted os started H enc)

theorem proved : Rows.MeanSameCardSaid :=
  Claim7.holds_tied_plain_at .later [] [.data] true Rows.meanSameCard.stood.harness false
    over (fun _ h => by cases h) (by kernel_rfl) (fun _ h => by cases h) meanSame_row_tie rfl ⟨rfl, rfl⟩ (by kernel_rfl) rfl
    (fun f fn hf hfn => by
      obtain rfl : f = 7 := Option.some.inj ((show Tryz.prog.funcNamed "steelyard/steelyardlaw13.MeanSame" = some 7 by kernel_rfl).symm.trans hf) |>.symm
      obtain rfl : fn = Tryz.f7 := (Option.some.inj (Tryz.func7.symm.trans hfn)).symm
      exact ⟨by kernel_rfl, fun j t ht => by
        have hm : t ∈ Tryz.f7.params.toList := by simpa using Array.mem_of_getElem? ht
        have hall : (Tryz.f7.params.toList.all fun u => !Tryz.prog.wantsStandIn u) = true := by kernel_rfl
        exact (show Tryz.prog.wantsStandIn t = false by simpa using List.all_eq_true.1 hall t hm)⟩)
    (by kernel_rfl)
end Go.Proofs.YtphnpchmdpjabaaGreatDoor.meanSame
