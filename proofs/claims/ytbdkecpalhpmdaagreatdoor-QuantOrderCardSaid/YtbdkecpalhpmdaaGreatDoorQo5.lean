/- The statement on QuantOrder. -/
import Derived.Test.YtbdkecpalhpmdaaGreatDoorQo4
import Derived.Shelf.SlSortCmp.Whole1
import Derived.Laws.StructEq
import Derived.WalkKit
import Derived.ProofKit
import Derived.OpenShut
import Derived.ChangeOld
import Derived.Below
import Derived.Deep.Slices
import Derived.Laws.Cover2
import Derived.LaidMore
import Derived.SizedLaws
import Derived.SevenTiedAt
import Derived.Stop.Joined
import Derived.Test.YtbdkecpalhpmdaaGreatDoorRows
import Derived.Test.YtbdkecpalhpmdaaGreatDoorTie
import Derived.Test.YtbdkecpalhpmdaaGreatDoorCards
set_option linter.unusedVariables false
set_option linter.unusedSimpArgs false
/- slices.SortFunc over numbers by the numbers' order: the row holds the numbers in order. No condition but that each number has 64 bits. -/
namespace Go.Proofs.YtbdkecpalhpmdaaGreatDoor
open Go Sx Fl Go.Sort Go.Shelf

abbrev F64 := {b : Nat // b < 18446744073709551616}
instance f64Inh : Inhabited F64 := ⟨⟨0, by decide⟩⟩
def encF (x : F64) : Value := .float .f64 x.1
def cfF (x y : F64) : Int := cmpI (key x.1) (key y.1)
theorem ltF (x y : F64) : ltOf cfF x y = decide (key x.1 < key y.1) := by
  unfold ltOf cfF cmpI
  by_cases h1 : key x.1 < key y.1
  · simp [h1]
  · by_cases h2 : key y.1 < key x.1 <;> simp [h1, h2]
theorem swoF : SWO (ltOf cfF) where
  irrefl x := by rw [ltF]; simp
  trans x y z h1 h2 := by rw [ltF] at *; simp at *; omega
  ntrans x y z h1 h2 := by rw [ltF] at *; simp at *; omega
theorem cmpLaysF (blk off size : Nat) (w : World) : CmpLays1 Tryz.prog 53 #[] encF cfF blk off size w := fun _ _ _ _ x y =>
  Calls.mono (bits_Order_spec _ _ x.2 y.2 _) fun e w' ⟨v, he, hv, hw⟩ => ⟨by rw [he, hv]; rfl, 0, #[], by rw [grow_empty]; exact hw.symm⟩
def f64s (l : List Nat) (h : ∀ p ∈ l, p < 18446744073709551616) : List F64 := l.attach.map fun x => ⟨x.1, h x.1 x.2⟩
theorem f64s_val (l : List Nat) (h : ∀ p ∈ l, p < 18446744073709551616) : (f64s l h).map (·.1) = l := by
  unfold f64s
  rw [List.map_map]
  exact List.attach_map_subtype_val l
theorem f64s_get {l : List Nat} {h : ∀ p ∈ l, p < 18446744073709551616} {j : Nat} (hj : j < l.length) : encF ((f64s l h).toArray[j]!) = f64v (l[j]'hj) := by
  have hl : j < (f64s l h).toArray.size := by simpa [f64s] using hj
  rw [getElem!_pos _ j hl]
  simp [f64s, encF, f64v]
theorem sortWorldF_heap {w : World} {blk n : Nat} {d : Array F64} {os : Array Obj} {cur : Array Value} {T : TypeId} (h : w.heap[blk]? = some (.cells cur T (0, 0))) :
    Chg [blk] w (sortWorld encF w blk 0 n d os) ∧ (sortWorld encF w blk 0 n d os).heap[blk]? = some (.cells (putCells encF 0 d cur) T (0, 0)) := by
  have hlt := lt_of_heap h
  unfold sortWorld grow putRow mapBlock Go.Sort.ahead
  refine ⟨⟨rfl, rfl, rfl, by simp, fun k hk hn => ?_⟩, ?_⟩
  · simp only [List.mem_singleton] at hn
    rw [Array.getElem?_append_left (by simpa using hk), Array.getElem?_modify, if_neg (fun e => hn e.symm)]
  · rw [Array.getElem?_append_left (by simpa using hlt), Array.getElem?_modify, if_pos rfl, h]; rfl
/-- THE SORT: a row of one's own comes in order. -/
theorem sortF_spec (w : World) (v : Value) (l : List Nat) (lo : Nat) (X : List Nat) (hl : ∀ p ∈ l, p < 18446744073709551616) (hne : l ≠ []) (hsz : l.length < 4611686018427387904) (hown : GR w 24 f64v lo X v l) :
    Ret Tryz.prog 52 [v, .func (.func 53) #[] #[]] w fun u w' =>
      ∃ l' : List Nat, l'.Perm l ∧ Srt l' ∧ Chg v.ownBlock.toList w w' ∧ GR w' 24 f64v lo X v l' := by
  obtain ⟨blk, cap, cur, rfl, hheap, hnc, hcm, hcs, htake, hlo, hX⟩ := hown.own hne
  have hd : (f64s l hl).toArray.size = l.length := by simp [f64s]
  have hblk := lt_of_heap hheap
  have hH : Holds encF w blk 0 (f64s l hl).toArray := by
    intro j hj
    have hj' : j < l.length := by rw [← hd]; exact hj
    refine ⟨?_, by rw [Nat.zero_add]; exact frozen_no hheap⟩
    rw [Nat.zero_add, cell_at' hheap, f64s_get hj']
    have : cur.toList[j]? = (l.map f64v)[j]? := by
      rw [← htake, List.getElem?_take, if_pos (by omega)]
    rw [← Array.getElem?_toList, this]
    simp [hj']
  have eg : ∀ args w, (callFunc 53 args).run Tryz.prog w = .ok (.enter 53 args) w := fun args w => HasF.run hasF53 args
  have hcon := Any.slices_SortFunc Tryz.laySortLayF encF (fun x => rfl) cfF swoF 53 #[] blk 0 cap (f64s l hl).toArray w eg (cmpLaysF blk 0 _ w) hH hblk (by rw [hd]; exact hsz)
  rw [hd] at hcon
  refine Calls.mono hcon fun e w' ⟨he, d', n, os, hp, hs, hw⟩ => ⟨_, he, ?_⟩
  obtain ⟨hps, _, hpp⟩ := hp
  have hsz' : d'.size = l.length := by rw [hps, hd]
  have hperm : d'.toList.Perm (f64s l hl) := by
    have e1 : d'.extract 0 l.length = d' := by rw [← hsz']; simp
    have e2 : (f64s l hl).toArray.extract 0 l.length = (f64s l hl).toArray := by rw [← hd]; simp
    rw [e1, e2] at hpp
    exact hpp
  subst hw
  obtain ⟨hc, hh⟩ := sortWorldF_heap (n := n) (d := d') (os := os) hheap
  have hlen : (d'.toList.map (·.1)).length = l.length := by simp [hsz']
  refine ⟨d'.toList.map (·.1), ?_, ?_, hc, ?_⟩
  · have := hperm.map Subtype.val
    rw [f64s_val] at this
    exact this
  · unfold Srt
    rw [List.pairwise_iff_getElem]
    intro i j hi hj hij
    have := hs i j (Nat.zero_le _) hij (by simpa [hsz'] using hj)
    rw [ltF] at this
    have hi' : i < d'.size := by simpa using hi
    have hj' : j < d'.size := by simpa using hj
    rw [getElem!_pos d' i hi', getElem!_pos d' j hj'] at this
    simp at this
    simpa using this
  · refine ⟨⟨by simp, .inr ⟨blk, cap, _, ?_, Nat.zero_le _, hh, ?_, hcm, ?_, ?_⟩⟩, fun b hb => ?_⟩
    · rw [hlen]
    · rw [hlen]; exact hnc
    · simp [putCells, hcs]
    · rw [hlen, Nat.mul_one]
      apply List.ext_getElem?
      intro i
      rw [List.getElem?_take]
      by_cases hi : i < l.length
      · rw [if_pos hi]
        have hi' : i < d'.size := by rw [hsz']; exact hi
        have hc' : i < cur.size := by rw [hcs]; exact Nat.lt_of_lt_of_le hi hnc
        simp [putCells, hi', hc', encF, f64v]
      · rw [if_neg hi, List.getElem?_eq_none (by rw [List.length_map, hlen]; omega)]
    · cases hb; exact ⟨hlo, hX⟩
end Go.Proofs.YtbdkecpalhpmdaaGreatDoor

/- Package mean: Trimmed. No condition. -/
namespace Go.Proofs.YtbdkecpalhpmdaaGreatDoor
open Go Sx Wd Fl

end Go.Proofs.YtbdkecpalhpmdaaGreatDoor

/- Package quant: what is refused, lists in order. No condition. -/
namespace Go.Proofs.YtbdkecpalhpmdaaGreatDoor
open Go Sx Wd Fl

structure KRf (l : List Nat) (w0 : World) (i : Nat) (w : World) : Prop where
  hi : i ≤ l.length
  f : finL (l.take i)
  ch : Chg [] w0 w

set_option maxRecDepth 8000 in
set_option maxHeartbeats 4000000 in
theorem refused_spec (v : Value) (l : List Nat) (w : World) (hv : NF w v l) : Ret Tryz.prog 27 [v] w fun u w' => u = .int .i64 (refuseE l) ∧ Chg [] w w' := by
 have hv0 := hv;obtain ⟨⟨al, cl, rfl, hcapl, hrl⟩, hWl, hll⟩ := hv;have hch : Chg [] w w := Chg.refl _ _;refine Ret.enter Tryz.func27 rfl rfl ?_;simp only [args0, Nat.zero_add, Nat.reduceAdd];refine Sr fun _ kh1 => za rfl (zz (kh1 (zc fun _ kh3 => Sr fun _ kh4 => zm rfl (zn rfl ?_))));refine WL.ev (Ev.gtr rfl rfl) rfl ?_;refine zz (kh4 ?_);refine CW.cond rfl (fun hc1 => ?_) (fun hc1 => ?_)
 ·
  try simp only [qs] at hc1
  have hlong : 65536 < l.length := by omega
  refine Sr fun _ kh6 => za rfl (zz (kh6 ?_));refine CW.ret ?_;refine bodyA.ret1 rfl rfl ?_;refine ⟨?_, hch⟩;unfold refuseE;rw [if_pos hlong]
 ·
  try simp only [qs] at hc1
  have hlong : ¬ 65536 < l.length := by omega
  refine CW.skip ?_;refine kh3 (zc fun _ kh8 => Sr fun _ kh9 => zm rfl (zn rfl (zm rfl (zz (kh9 ?_)))));refine CW.block ?_;refine CW.loop (S := fun i : Nat => [(0, .slice al l.length cl), (8, .int .i64 (l.length : Int)), (9, .int .i64 (i : Int))]) (Inv := KRf l w) (mu := fun i => l.length - i) (0) ?_ ?_ ?_
  ·
   exact ⟨Nat.zero_le _, fun x hx => (by simp at hx), hch⟩
  ·
   exact SLp
  ·
   rintro i wr ⟨hi, hf, hch⟩;refine Sr fun _ kh11 => ?_;refine WL.ev (Ev.lss rfl rfl) rfl ?_;refine zz (kh11 (zc fun _ kh13 => ?_));refine CW.cond rfl (fun hc2 => ?_) (fun hc2 => ?_)
   ·
    try simp only [qs] at hc2
    have hx := D_getD hWl i;refine CW.skip ?_;refine kh13 (zc fun _ kh14 => ?_);refine CW.block ?_;refine Sr fun _ kh15 => zm rfl (za rfl (zz (kh15 (Sr fun _ kh17 => zm rfl (zm rfl ?_)))));refine WL.ev (Ev.ixR (i) rfl rfl (hrl.keep0 hch) (by omega) (by omega) (by simp; omega)) rfl ?_;refine WL.ev (Ev.load rfl rfl ((hrl.keep0 hch).f64 (by first | omega | (simp; omega)))) rfl ?_;refine WL.call hasF48 rfl rfl (Class_spec (l.getD i 0) _ hx) fun v w1 h' => ?_;obtain ⟨rfl, hC⟩ := h';have hch := hch.trans (Chg.any hC);refine WL.ev (Ev.gtr rfl rfl) rfl ?_;refine zz (kh17 ?_);refine CW.cond rfl (fun hc3 => ?_) (fun hc3 => ?_)
    ·
     try simp only [qs] at hc3
     have hnf : ¬ finL l := fun q => by have := finL_getD2 q (i := i) (by omega); omega
     refine Sr fun _ kh19 => za rfl (zz (kh19 ?_));refine CW.ret ?_;refine bodyA.ret1 rfl rfl ?_;refine ⟨?_, hch⟩;unfold refuseE;rw [if_neg hlong, if_pos hnf]
    ·
     try simp only [qs] at hc3
     refine CW.skip ?_;refine kh14 ?_;refine CW.region fun kR21 kr21 => ?_
     first | refine WL.ev (Ev.addIn rfl rfl (by omega)) rfl ?_ | refine WL.ev (Ev.add rfl rfl) rfl ?_
     refine zm rfl ?_;refine WL.nil (kr21 _ _ _ ?_);refine ⟨rfl, i + 1, ?_, ?_, ?_⟩
     ·
      exact SLp
     ·
      exact ⟨by omega, (finL_step (by omega)).2 ⟨hf, by omega⟩, hch⟩
     ·
      show l.length - (i + 1) < l.length - i; omega
   ·
    try simp only [qs] at hc2
    have hiX : i = l.length := by omega
    subst hiX;rw [List.take_length] at hf;refine CW.exit ?_;refine kh8 (zc fun _ kh22 => Sr fun _ kh23 => zm rfl (zn rfl (zq rfl rfl (zz (kh23 ?_)))));refine CW.cond rfl (fun hc4 => ?_) (fun hc4 => ?_)
    ·
     try simp only [qs] at hc4
     have h0 : l = [] := List.length_eq_zero_iff.1 (by omega);refine Sr fun _ kh25 => za rfl (zz (kh25 ?_));refine CW.ret ?_;refine bodyA.ret1 rfl rfl ?_;refine ⟨?_, hch⟩;unfold refuseE;rw [if_neg hlong, if_neg (fun q => q hf), if_pos h0]
    ·
     try simp only [qs] at hc4
     have h0 : l ≠ [] := fun q => by rw [q] at hc4; exact hc4 rfl
     refine CW.skip ?_;refine kh22 (Sr fun _ kh27 => za rfl (zz (kh27 ?_)));refine CW.ret ?_;refine bodyA.ret1 rfl rfl ?_;refine ⟨?_, hch⟩;unfold refuseE;rw [if_neg hlong, if_neg (fun q => q hf), if_neg h0]

set_option maxRecDepth 8000 in
set_option maxHeartbeats 4000000 in
theorem qsorted_spec (v : Value) (l : List Nat) (w : World) (hv : NF w v l) (hl : l.length ≤ 65536) (hf : finL l) (hne : l ≠ []) : Ret Tryz.prog 29 [v] w fun u w' => GR w' 24 f64v w.heap.size [] u (sortP l) ∧ Chg [] w w' := by
 have hv0 := hv;obtain ⟨⟨al, cl, rfl, hcapl, hrl⟩, hWl, hll⟩ := hv;have hch : Chg [] w w := Chg.refl _ _;refine Ret.enter Tryz.func29 rfl rfl ?_;simp only [args0, Nat.zero_add, Nat.reduceAdd];refine Sr fun _ kh1 => za rfl (zz (kh1 (Sr fun _ kh3 => zm rfl ?_)));refine WL.call hasF51 rfl rfl (CloneF_spec _ l _ (hv0.keep0 hch) (by omega)) fun v w1 h' => ?_;obtain ⟨hgc, hC⟩ := h';have hch := hch.trans (Chg.any hC);refine za rfl (zz (kh3 (Sr fun _ kh5 => zm rfl ?_)));refine WL.call hasF52 rfl rfl (sortF_spec _ v l _ _ hWl hne (by omega) hgc) fun v w2 h' => ?_;obtain ⟨ls, hperm, hsrt, hcs, hgs⟩ := h';have hch := GR.frame hgc hcs hch (Nat.le_refl _);have hls : ls = sortP l := sortP_eq hperm hsrt (finL_nums hf hWl);subst hls;refine zz (kh5 (Sr fun _ kh7 => zm rfl (za rfl (zz (kh7 ?_)))));refine CW.ret ?_;refine bodyA.ret1 rfl rfl ?_;exact ⟨hgs, hch⟩

set_option maxRecDepth 8000 in
set_option maxHeartbeats 4000000 in
theorem qmay_spec (rule mode : Int) (w : World) : Ret Tryz.prog 26 [.int .i64 rule, .int .i64 mode] w fun u w' => u = .bool (decide ((0 ≤ mode ∧ mode ≤ 4) ∧ (0 ≤ rule ∧ rule ≤ 4))) ∧ w = w' := by
 refine Ret.enter Tryz.func26 rfl rfl ?_;simp only [args0, Nat.zero_add, Nat.reduceAdd];refine Sr fun _ kh1 => za rfl (zz (kh1 (Sr fun _ kh3 => zm rfl ?_)));refine WL.ev (Ev.geq rfl rfl) rfl ?_;refine zm rfl ?_;refine WL.boolCase (fun hg1 => ?_) (fun hg1 => ?_)
 ·
  try simp only [qs] at hg1
  refine zw rfl (zm rfl (zw rfl ?_));refine WL.ev (Ev.leq rfl rfl) rfl ?_;refine zt rfl rfl (zm rfl ?_);refine WL.boolCase (fun hg2 => ?_) (fun hg2 => ?_)
  ·
   try simp only [qs] at hg2
   refine zw rfl (zm rfl (zw rfl ?_));refine WL.ev (Ev.geq rfl rfl) rfl ?_;refine zt rfl rfl (zm rfl ?_);refine WL.boolCase (fun hg3 => ?_) (fun hg3 => ?_)
   ·
    try simp only [qs] at hg3
    refine zw rfl (zm rfl (zw rfl ?_));refine WL.ev (Ev.leq rfl rfl) rfl ?_;refine zt rfl rfl (za rfl (zz (kh3 ?_)));refine CW.ret ?_;refine bodyA.ret1 rfl rfl ?_;refine ⟨congrArg Value.bool ?_, rfl⟩
    first | exact (decide_eq_true (by omega)).symm | exact (decide_eq_false (by omega)).symm | exact decide_eq_decide.2 (by omega)
   ·
    try simp only [qs] at hg3
    refine zv rfl (zv rfl (ze rfl rfl (za rfl (zz (kh3 ?_)))));refine CW.ret ?_;refine bodyA.ret1 rfl rfl ?_;refine ⟨congrArg Value.bool ?_, rfl⟩
    first | exact (decide_eq_true (by omega)).symm | exact (decide_eq_false (by omega)).symm | exact decide_eq_decide.2 (by omega)
  ·
   try simp only [qs] at hg2
   refine zv rfl (zv rfl (ze rfl rfl (zm rfl (zv rfl (zv rfl (ze rfl rfl (za rfl (zz (kh3 ?_)))))))));refine CW.ret ?_;refine bodyA.ret1 rfl rfl ?_;refine ⟨congrArg Value.bool ?_, rfl⟩
   first | exact (decide_eq_true (by omega)).symm | exact (decide_eq_false (by omega)).symm | exact decide_eq_decide.2 (by omega)
 ·
  try simp only [qs] at hg1
  refine zv rfl (zv rfl (ze rfl rfl (zm rfl (zv rfl (zv rfl (ze rfl rfl (zm rfl (zv rfl (zv rfl (ze rfl rfl (za rfl (zz (kh3 ?_)))))))))))));refine CW.ret ?_;refine bodyA.ret1 rfl rfl ?_;refine ⟨congrArg Value.bool ?_, rfl⟩
  first | exact (decide_eq_true (by omega)).symm | exact (decide_eq_false (by omega)).symm | exact decide_eq_decide.2 (by omega)

end Go.Proofs.YtbdkecpalhpmdaaGreatDoor

/- Equality of numbers' parts. No condition. -/
namespace Go.Proofs.YtbdkecpalhpmdaaGreatDoor
open Go Sx

theorem fieldsOf_of {P : Program} {t : TypeId} {fs : Array Field} (h : P.underlying t = some (.struct fs)) : P.fieldsOf t = fs := by unfold Program.fieldsOf; rw [h]
theorem run_eqParts (n1 n2 : Bool) (c1 c2 e1 e2 f1 f2 : Int) (w : World) : (Op.equalIn 10000 76 (.agg [.bool n1, .int .i64 c1, .int .i64 e1, .int .u64 f1].toArray) (.agg [.bool n2, .int .i64 c2, .int .i64 e2, .int .u64 f2].toArray)).run Tryz.prog w = .ok (n1 == n2 && (c1 == c2 && (e1 == e2 && f1 == f2))) w := by
  have hu := Tryz.underlying76
  have hf := fieldsOf_of hu
  have ht : Tryz.prog.underlying 76 = some (.struct (Program.fieldsOf Tryz.prog 76)) := by rw [hf]; exact hu
  rw [run_equalIn_struct w 9999 _ _ _ ht (by kernel_rfl), hf]
  have b1 : (isAgg 4).run Tryz.prog w = .ok false w := (inferInstance : HasT Tryz.prog 4 _ _ _ _).isAgg
  have b2 : (isAgg 3).run Tryz.prog w = .ok false w := (inferInstance : HasT Tryz.prog 3 _ _ _ _).isAgg
  have b3 : (isAgg 54).run Tryz.prog w = .ok false w := (inferInstance : HasT Tryz.prog 54 _ _ _ _).isAgg
  have q1 : ∀ a b : Bool, (Op.equalIn 9999 4 (.bool a) (.bool b)).run Tryz.prog w = .ok (a == b) w := fun a b => run_equalIn_bool' w 9998 _ a b Tryz.underlying4
  have q2 : ∀ a b : Int, (Op.equalIn 9999 3 (.int .i64 a) (.int .i64 b)).run Tryz.prog w = .ok (a == b) w := fun a b => run_equalIn_int w 9998 _ .i64 .i64 a b Tryz.underlying3
  have q3 : ∀ a b : Int, (Op.equalIn 9999 54 (.int .u64 a) (.int .u64 b)).run Tryz.prog w = .ok (a == b) w := fun a b => run_equalIn_int w 9998 _ .u64 .u64 a b Tryz.underlying54
  cases h1 : (n1 == n2) <;> cases h2 : (c1 == c2) <;> cases h3 : (e1 == e2) <;> cases h4 : (f1 == f2) <;> simp [Op.eqFields, part, b1, b2, b3, q1, q2, q3, h1, h2, h3, h4]
theorem Ev.eqlParts {s : Sl} {w : World} {ty t' : TypeId} {x y : Operand} {n1 n2 : Bool} {c1 c2 e1 e2 f1 f2 : Int} (hx : opnd s x = some (.agg [.bool n1, .int .i64 c1, .int .i64 e1, .int .u64 f1].toArray)) (hy : opnd s y = some (.agg [.bool n2, .int .i64 c2, .int .i64 e2, .int .u64 f2].toArray)) :
    Ev Tryz.prog s (.binOp .eql 76 x y t') ty w (.bool (n1 == n2 && (c1 == c2 && (e1 == e2 && f1 == f2)))) w :=
  run_bin hx hy (fun _ _ => run_eqGuard_agg _ _ _ _ _ _ _ (by kernel_rfl)) (by rw [run_eql_struct, run_eqParts]; rfl)
end Go.Proofs.YtbdkecpalhpmdaaGreatDoor

/- Package dyad: Of. No condition. -/
namespace Go.Proofs.YtbdkecpalhpmdaaGreatDoor
open Go Sx Wd Fl

theorem parts_eq (n b : Bool) (c f : Nat) (e : Int) : (n == b && ((c : Int) == 0 && (e == e && (f : Int) == 0))) = ((n == b) && decide (c = 0 ∧ f = 0)) := by
  have h1 : ((c : Int) == 0) = decide (c = 0) := by rw [Bool.eq_iff_iff]; simp
  have h2 : ((f : Int) == 0) = decide (f = 0) := by rw [Bool.eq_iff_iff]; simp
  rw [h1, h2, beq_self_eq_true, Bool.true_and, Bool.decide_and]
theorem cls0_frac {x : Nat} : (splitP x).cls = 0 → (splitP x).frac = 0 := by
  unfold splitP
  by_cases a : x / 4503599627370496 % 2048 = 2047 ∧ x % 4503599627370496 ≠ 0
  · rw [if_pos a]; simp
  · rw [if_neg a]
    by_cases b : x / 4503599627370496 % 2048 = 2047
    · rw [if_pos b]; simp
    · rw [if_neg b]
      by_cases d : 0 < x / 4503599627370496 % 2048
      · rw [if_pos d]; simp
      · rw [if_neg d]
        by_cases f : 0 < x % 4503599627370496
        · rw [if_pos f]; simp
        · rw [if_neg f]; simp
theorem splitP_frac (x : Nat) : (splitP x).frac < 9007199254740992 := by
  unfold splitP
  split
  · simp
  · split
    · simp
    · split
      · dsimp only; omega
      · split
        · dsimp only; omega
        · simp
theorem splitP_range (x : Nat) : -5000 ≤ (splitP x).exp ∧ (splitP x).exp ≤ 5000 := by
  unfold splitP
  split
  · simp
  · split
    · simp
    · split
      · dsimp only; omega
      · split
        · dsimp only; omega
        · simp

set_option maxRecDepth 8000 in
set_option maxHeartbeats 4000000 in
theorem dOf_spec (x : Nat) (w : World) (hx : x < 18446744073709551616) (hg : GW w) : Ret Tryz.prog 44 [.float .f64 x] w fun u w' => (((splitP x).cls ≤ 2 ∧ ∃ r, u = .tuple [.agg [.bool (sumD (fvI x)).neg, r, .int .i64 (sumD (fvI x)).e].toArray, .int .i64 0].toArray ∧ NU w' r (wd (sumD (fvI x)).m)) ∨ (¬ (splitP x).cls ≤ 2 ∧ u = .tuple [.agg [.bool false, .slice none 0 0, .int .i64 0].toArray, .int .i64 30].toArray)) ∧ Chg [] w w' := by
 have hch : Chg [] w w := Chg.refl _ _;refine Ret.enter Tryz.func44 rfl rfl ?_;simp only [args0, Nat.zero_add, Nat.reduceAdd];refine Sr fun _ kh1 => ?_;refine WL.allocB (l := [.bool false, .slice none 0 0, .int .i64 0]) rfl rfl fun b2 wm2 hb2 hcm2 hge2 => ?_;have hgehch2 := Nat.le_trans hch.size hge2;have hch := hch.trans (Chg.any hcm2);refine za rfl (zz (kh1 (Sr fun _ kh3 => zm rfl ?_)));refine WL.call hasF67 rfl rfl (Split_spec x _ hx) fun v w1 h' => ?_;obtain ⟨rfl, hC⟩ := h';have hch := hch.trans (Chg.any hC);have hb2 := hb2.keep0 hC;refine WL.allocB (l := [.bool false, .int .i64 0, .int .i64 0, .int .u64 0]) rfl rfl fun b4 wm4 hb4 hcm4 hge4 => ?_;have hgehch4 := Nat.le_trans hch.size hge4;have hch := hch.trans (Chg.any hcm4);have hneb24 : b2 ≠ b4 := by have := hb2.lt; omega
 have hb2 := hb2.keep0 hcm4;refine WL.storeB rfl rfl rfl ao hb4 (by simp) rfl fun ws1 hb4_ hcs1 => ?_
 try simp only [Sx.splice, qt] at hb4_
 have hch := hch.s1 hcs1;have hb2 := hb2.keep hcs1 (by simp; omega);have hb4 := hb4_;refine zz (kh3 (Sr fun _ kh5 => zf rfl (zl hb4 rfl rfl ?_)));refine WL.ev (Ev.build (vs := _) (cs := [_, _, _, _]) rfl rfl) rfl ?_;refine WL.allocB (l := [.bool false, .int .i64 0, .int .i64 0, .int .u64 0]) rfl rfl fun b5 wm5 hb5 hcm5 hge5 => ?_;have hgehch5 := Nat.le_trans hch.size hge5;have hch := hch.trans (Chg.any hcm5);have hneb25 : b2 ≠ b5 := by have := hb2.lt; omega
 have hb2 := hb2.keep0 hcm5;have hneb45 : b4 ≠ b5 := by have := hb4.lt; omega
 have hb4 := hb4.keep0 hcm5;refine WL.storeB rfl rfl rfl ao hb5 (by simp) rfl fun ws2 hb5_ hcs2 => ?_
 try simp only [Sx.splice, qt] at hb5_
 have hch := hch.s1 hcs2;have hb2 := hb2.keep hcs2 (by simp; omega);have hb4 := hb4.keep hcs2 (by simp; omega);have hb5 := hb5_;refine zz (kh5 (Sr fun _ kh7 => zg hb5 rfl ?_));refine WL.allocB (l := [.bool false, .int .i64 0, .int .i64 0, .int .u64 0]) rfl rfl fun b6 wm6 hb6 hcm6 hge6 => ?_;have hgehch6 := Nat.le_trans hch.size hge6;have hch := hch.trans (Chg.any hcm6);have hneb26 : b2 ≠ b6 := by have := hb2.lt; omega
 have hb2 := hb2.keep0 hcm6;have hneb46 : b4 ≠ b6 := by have := hb4.lt; omega
 have hb4 := hb4.keep0 hcm6;have hneb56 : b5 ≠ b6 := by have := hb5.lt; omega
 have hb5 := hb5.keep0 hcm6;refine WL.storeB rfl rfl rfl ao hb6 (by simp) rfl fun ws3 hb6_ hcs3 => ?_
 try simp only [Sx.splice, qt] at hb6_
 have hch := hch.s1 hcs3;have hb2 := hb2.keep hcs3 (by simp; omega);have hb4 := hb4.keep hcs3 (by simp; omega);have hb5 := hb5.keep hcs3 (by simp; omega);have hb6 := hb6_;refine zz (kh7 (Sr fun _ kh9 => zf rfl ?_));refine WL.storeC rfl rfl o1 hb6 (by simp) rfl fun ws4 hb6_ hcs4 => ?_
 try simp only [Sx.splice, qt] at hb6_
 have hch := hch.s1 hcs4;have hb2 := hb2.keep hcs4 (by simp; omega);have hb4 := hb4.keep hcs4 (by simp; omega);have hb5 := hb5.keep hcs4 (by simp; omega);have hb6 := hb6_;refine zz (kh9 (zc fun _ kh11 => ?_));refine CW.block ?_;refine CW.seqM 14 (decide ((splitP x).cls = 3 ∨ (splitP x).cls = 4)) ?_ ?_
 ·
  refine CW.region fun kR12 kr12 => ?_;refine zf rfl (zl hb4 rfl rfl (zq rfl rfl (zm rfl ?_)));refine WL.boolCase (fun hg1 => ?_) (fun hg1 => ?_)
  ·
   try simp only [qs] at hg1
   refine zv rfl (zv rfl (zv rfl (zt rfl rfl (za rfl ?_))));refine WL.nil (kr12 _ _ _ ?_);refine ⟨rfl, rfl, Subs.consB rfl ?_ ?_⟩
   ·
    first | (simp; omega) | (simp_all; done) | (refine decide_eq_decide.2 ?_; omega)
   ·
    exact SMg
  ·
   try simp only [qs] at hg1
   refine zw rfl (zf rfl (zw rfl (zl hb4 rfl rfl (zw rfl (zq rfl rfl (ze rfl rfl (za rfl ?_)))))));refine WL.nil (kr12 _ _ _ ?_);refine ⟨rfl, rfl, Subs.consB rfl ?_ ?_⟩
   ·
    first | (simp; omega) | (simp_all; done) | (refine decide_eq_decide.2 ?_; omega)
   ·
    exact SMg
 ·
  refine CW.cond rfl (fun hc2 => ?_) (fun hc2 => ?_)
  ·
   try simp only [qs] at hc2
   have hodd : ¬ (splitP x).cls ≤ 2 := by have := hc2; omega
   refine Sr fun _ kh13 => ?_;refine WL.ev (Ev.build (vs := _) (cs := [_, _, _]) rfl rfl) rfl ?_;refine WL.storeB rfl rfl rfl ao hb2 (by simp) rfl fun ws5 hb2_ hcs5 => ?_
   try simp only [Sx.splice, qt] at hb2_
   have hch := hch.s1 hcs5;have hb4 := hb4.keep hcs5 (by simp; omega);have hb5 := hb5.keep hcs5 (by simp; omega);have hb6 := hb6.keep hcs5 (by simp; omega);have hb2 := hb2_;refine za rfl (zz (kh13 ?_));refine CW.ret ?_;refine bodyA.retR2 rfl (RVal.cell rfl (hb2.varA rfl rfl)) (RVal.tmp rfl) ?_;exact ⟨.inr ⟨hodd, rfl⟩, hch⟩
  ·
   try simp only [qs] at hc2
   have hfx : (splitP x).cls ≤ 2 := by have := hc2; have := splitP_cls x; omega
   refine CW.seqM 24 (decide ((splitP x).cls = 0 ∧ (splitP x).frac = 0)) ?_ ?_
   ·
    refine CW.region fun kR15 kr15 => ?_;refine zg hb4 rfl (zg hb5 rfl ?_);refine WL.ev (Ev.eqlParts rfl rfl) rfl ?_;rw [parts_eq];refine zm rfl ?_;refine WL.boolCase (fun hg3 => ?_) (fun hg3 => ?_)
    ·
     try simp only [qs] at hg3
     refine zv rfl (zv rfl (zv rfl (zt rfl rfl (za rfl ?_))));refine WL.nil (kr15 _ _ _ ?_);refine ⟨rfl, rfl, Subs.consB rfl ?_ ?_⟩
     ·
      generalize (splitP x).neg = nn at *
      by_cases hP : (splitP x).cls = 0 ∧ (splitP x).frac = 0
      · (try rw [decide_eq_true hP] at *) <;> cases nn <;> simp_all
      · (try rw [decide_eq_false hP] at *) <;> cases nn <;> simp_all
     ·
      exact SMg
    ·
     try simp only [qs] at hg3
     refine zw rfl (zg hb4 rfl (zw rfl (zg hb6 rfl (zw rfl ?_))));refine WL.ev (Ev.eqlParts rfl rfl) rfl ?_;rw [parts_eq];refine ze rfl rfl (za rfl ?_);refine WL.nil (kr15 _ _ _ ?_);refine ⟨rfl, rfl, Subs.consB rfl ?_ ?_⟩
     ·
      generalize (splitP x).neg = nn at *
      by_cases hP : (splitP x).cls = 0 ∧ (splitP x).frac = 0
      · (try rw [decide_eq_true hP] at *) <;> cases nn <;> simp_all
      · (try rw [decide_eq_false hP] at *) <;> cases nn <;> simp_all
     ·
      exact SMg
   ·
    refine CW.cond rfl (fun hc4 => ?_) (fun hc4 => ?_)
    ·
     try simp only [qs] at hc4
     have hq : (splitP x).cls = 0 ∧ (splitP x).frac = 0 := hc4;refine Sr fun _ kh16 => ?_;refine WL.ev (Ev.build (vs := _) (cs := [_, _, _]) rfl rfl) rfl ?_;refine WL.storeB rfl rfl rfl ao hb2 (by simp) rfl fun ws6 hb2_ hcs6 => ?_
     try simp only [Sx.splice, qt] at hb2_
     have hch := hch.s1 hcs6;have hb4 := hb4.keep hcs6 (by simp; omega);have hb5 := hb5.keep hcs6 (by simp; omega);have hb6 := hb6.keep hcs6 (by simp; omega);have hb2 := hb2_;refine za rfl (zz (kh16 ?_));refine CW.ret ?_;refine bodyA.retR2 rfl (RVal.cell rfl (hb2.varA rfl rfl)) (RVal.tmp rfl) ?_;refine ⟨.inl ⟨hfx, ?_⟩, hch⟩;have hz : fvI x = 0 := fvI_zero (by omega);rw [hz];exact ⟨.slice none 0 0, rfl, by rw [show (sumD 0).m = 0 from rfl, wd_zero]; exact NU.nil⟩
    ·
     try simp only [qs] at hc4
     have hq : (splitP x).cls = 1 ∨ (splitP x).cls = 2 := by have := hc4; have h2 := cls0_frac (x := x); omega
     have hff := fin_form hq;have hfl := splitP_frac x;have hex := splitP_range x;refine CW.skip ?_;refine kh11 (zc fun _ kh18 => ?_);refine CW.regionKC 10 12 rfl hmix fun kR19 kr19 hS hdr => ?_;have hch := hch.trans (Chg.any hdr);have hb2 := hb2.keep0 hdr;have hb4 := hb4.keep0 hdr;have hb5 := hb5.keep0 hdr;have hb6 := hb6.keep0 hdr;have hch_r := hch;have hb2_r := hb2;have hb4_r := hb4;have hb5_r := hb5;have hb6_r := hb6;refine wk 0 rfl hS (fun _ _ => Ev.fieldAddr rfl) (wk 1 rfl hS (fun _ hw' => Ev.load rfl rfl ((hb4_r.keep0 hw').at_ rfl)) (wk 2 rfl hS (fun _ _ => Ev.fieldAddr rfl) (wk 3 rfl hS (fun _ hw' => Ev.load rfl rfl ((hb4_r.keep0 hw').at_ rfl)) (wk 5 rfl hS (fun _ _ => Ev.fieldAddr rfl) (wk 6 rfl hS (fun _ hw' => Ev.load rfl rfl ((hb4_r.keep0 hw').at_ rfl)) ?_)))));refine WK.oneCall 4 rfl (by kernel_rfl) hasF69 rfl rfl (Of_spec (splitP x).frac _ (by omega)) fun v w2 h' => ?_;obtain ⟨hN, hC⟩ := h';have hch := hch.trans (Chg.any hC);have hb2 := hb2.keep0 hC;have hb4 := hb4.keep0 hC;have hb5 := hb5.keep0 hC;have hb6 := hb6.keep0 hC;have hS := hS.trans hC;refine ⟨hS, ?_⟩;refine WK.oneCall 7 rfl (by kernel_rfl) hasF68 rfl rfl (form_spec (splitP x).neg _ (wd (splitP x).frac) (splitP x).exp _ hN (hg.keep0 hch) (by omega)) fun v w3 h' => ?_;obtain ⟨hD, hC⟩ := h';rw [val_wd, hff] at hD;obtain ⟨r, d, hd, rfl, hNr⟩ := hD.resolve_right (fun q => by cases q.1);cases hd;have hch := hch.trans (Chg.any hC);have hb2 := hb2.keep0 hC;have hb4 := hb4.keep0 hC;have hb5 := hb5.keep0 hC;have hb6 := hb6.keep0 hC;have hN := hN.keep0 hC;have hS := hS.trans hC;refine ⟨hS, ?_⟩;refine wk 8 rfl hS (fun _ _ => Ev.extract rfl rfl) (wk 9 rfl hS (fun _ _ => Ev.extract rfl rfl) ?_);refine WK.storeB 10 rfl (by kernel_rfl) (by kernel_rfl) rfl rfl rfl ao hb2 (by simp) rfl fun ws7 hb2_ hcs7 => ?_
     try simp only [Sx.splice, qt] at hb2_
     have hch := hch.s1 hcs7;have hb4 := hb4.keep hcs7 (by simp; omega);have hb5 := hb5.keep hcs7 (by simp; omega);have hb6 := hb6.keep hcs7 (by simp; omega);have hNr := hNr.keepBK hb2 hcs7 an;have hb2 := hb2_;refine WK.after 11 rfl (by kernel_rfl) (by kernel_rfl) (Ev.assign rfl) rfl ?_;refine WK.done (by kernel_rfl) (kr19 _ _ _ ?_);refine kh18 ?_;refine CW.ret ?_;refine bodyA.retR2 rfl (RVal.cell rfl (hb2.varA rfl rfl)) (RVal.tmp rfl) ?_;exact ⟨.inl ⟨hfx, r, rfl, hNr⟩, hch⟩

end Go.Proofs.YtbdkecpalhpmdaaGreatDoor

/- Package quant: between two numbers. No condition. -/
namespace Go.Proofs.YtbdkecpalhpmdaaGreatDoor
open Go Sx Wd Fl

set_option maxRecDepth 8000 in
set_option maxHeartbeats 4000000 in
theorem qline_spec (x y num den : Nat) (mode : Int) (w : World) (hx : x < 18446744073709551616) (hy : y < 18446744073709551616) (hfx : (splitP x).cls ≤ 2) (hfy : (splitP y).cls ≤ 2) (hn : 1 ≤ num) (hnd : num < den) (hd : den ≤ 2147483648) (hg : GW w) : Ret Tryz.prog 50 [.float .f64 x, .float .f64 y, .int .i64 (num : Int), .int .i64 (den : Int), .int .i64 mode] w fun u w' => (∃ bits e, u = .tuple [.float .f64 bits, .int .i64 e].toArray ∧ lineR x y num den mode bits e) ∧ Chg [] w w' := by
 have hch : Chg [] w w := Chg.refl _ _;have hg0 := hg;have hokX := rsumD_ok (fvI_in x);have hokY := rsumD_ok (fvI_in y);have hokm := intD_ok (n := ((den - num : Nat) : Int)) (by omega);have hokn := intD_ok (n := (num : Int)) (by omega);have hokd := intD_ok (n := (den : Int)) (by omega);have hPx := fv_small x (n := den - num) (by omega);have hPy := fv_small y (n := num) (by omega);have hV := lineV_in (x := x) (y := y) (num := num) (den := den) (by omega) hd;have hokPx := rsumD_ok hPx;have hokPy := rsumD_ok hPy;have hokV := rsumD_ok hV;have hsf := (sift_fin (l := [x, y]) (pn := 0) (pi := 0) (by intro z hz; simp only [List.mem_cons, List.not_mem_nil, or_false] at hz; rcases hz with rfl | rfl <;> assumption) (by simp) ⟨by decide, by decide⟩).1;refine Ret.enter Tryz.func50 rfl rfl ?_;simp only [args0, Nat.zero_add, Nat.reduceAdd];refine Sr fun _ kh1 => za rfl (za rfl (zz (kh1 (Sr fun _ kh3 => zm rfl ?_))));refine WL.call hasF44 rfl rfl (dOf_spec (x) _ hx (hg0.keep0 hch)) fun v w1 h' => ?_;obtain ⟨hD, hC⟩ := h';obtain ⟨-, rx, rfl, hNx⟩ := hD.resolve_right (fun q => q.1 hfx);have hch := hch.trans (Chg.any hC);refine zm rfl (zx rfl rfl (zx rfl rfl ?_));refine WL.allocB (l := [.bool false, .slice none 0 0, .int .i64 0]) rfl rfl fun b12 wm12 hb12 hcm12 hge12 => ?_;have hgehch12 := Nat.le_trans hch.size hge12;have hch := hch.trans (Chg.any hcm12);have hNx := hNx.keep0 hcm12;refine WL.storeB rfl rfl rfl ao hb12 (by simp) rfl fun ws1 hb12_ hcs1 => ?_
 try simp only [Sx.splice, qt] at hb12_
 have hch := hch.s1 hcs1;have hNx := hNx.keepBK hb12 hcs1 an;have hb12 := hb12_;refine za rfl (zz (kh3 (Sr fun _ kh5 => zm rfl ?_)));refine WL.call hasF44 rfl rfl (dOf_spec (y) _ hy (hg0.keep0 hch)) fun v w2 h' => ?_;obtain ⟨hD, hC⟩ := h';obtain ⟨-, ry, rfl, hNy⟩ := hD.resolve_right (fun q => q.1 hfy);have hch := hch.trans (Chg.any hC);have hb12 := hb12.keep0 hC;have hNx := hNx.keep0 hC;refine zm rfl (zx rfl rfl (zx rfl rfl ?_));refine WL.allocB (l := [.bool false, .slice none 0 0, .int .i64 0]) rfl rfl fun b14 wm14 hb14 hcm14 hge14 => ?_;have hgehch14 := Nat.le_trans hch.size hge14;have hch := hch.trans (Chg.any hcm14);have hNx := hNx.keep0 hcm14;have hNy := hNy.keep0 hcm14;have hneb1214 : b12 ≠ b14 := by have := hb12.lt; omega
 have hb12 := hb12.keep0 hcm14;refine WL.storeB rfl rfl rfl ao hb14 (by simp) rfl fun ws2 hb14_ hcs2 => ?_
 try simp only [Sx.splice, qt] at hb14_
 have hch := hch.s1 hcs2;have hb12 := hb12.keep hcs2 (by simp; omega);have hNx := hNx.keepBK hb14 hcs2 an;have hNy := hNy.keepBK hb14 hcs2 an;have hb14 := hb14_;refine za rfl (zz (kh5 (zc fun _ kh7 => ?_)));refine CW.regionKC 9 10 rfl hmix fun kR8 kr8 hS hdr => ?_;have hch := hch.trans (Chg.any hdr);have hb12 := hb12.keep0 hdr;have hb14 := hb14.keep0 hdr;have hNx := hNx.keep0 hdr;have hNy := hNy.keep0 hdr;have hch_r := hch;have hb12_r := hb12;have hb14_r := hb14;refine wk 0 rfl hS (fun _ hw' => Ev.loadA rfl rfl (hb12_r.keep0 hw') rfl) (wk 1 rfl hS (fun _ _ => Ev.move rfl) (wk 2 rfl hS (fun _ _ => Ev.move rfl) (wk 3 rfl hS (fun _ _ => Ev.subIn rfl rfl (by omega)) ?_)));rw [show (den : Int) - (num : Int) = ((den - num : Nat) : Int) by omega];refine WK.oneCall 4 rfl (by kernel_rfl) hasF82 rfl rfl (Int_spec ((den - num : Nat) : Int) _ (hg0.keep0 hch) (by omega)) fun v w3 h' => ?_;obtain ⟨⟨ria, rfl, hNia⟩, hC⟩ := h';have hch := hch.trans (Chg.any hC);have hb12 := hb12.keep0 hC;have hb14 := hb14.keep0 hC;have hNx := hNx.keep0 hC;have hNy := hNy.keep0 hC;have hS := hS.trans hC;refine ⟨hS, ?_⟩;refine WK.oneCall 5 rfl (by kernel_rfl) hasF81 rfl rfl (Mul_dspec (sumD (fvI x)).neg (intD ((den - num : Nat) : Int)).neg _ _ (wd (sumD (fvI x)).m) (wd (intD ((den - num : Nat) : Int)).m) (sumD (fvI x)).e (intD ((den - num : Nat) : Int)).e _ hNx hNia (hg0.keep0 hch) (ok_e hokX) (ok_e hokm)) fun v w4 h' => ?_;obtain ⟨hD, hC⟩ := h';rw [val_wd, val_wd, formD_sumD (fvI_in x), formD_self hokm, show both2 mulD (some (sumD (fvI x))) (some (intD ((den - num : Nat) : Int))) = mulD (sumD (fvI x)) (intD ((den - num : Nat) : Int)) from rfl, mulD_int (fvI_in x) (by omega) (by omega) hPx] at hD;obtain ⟨rpx, dpx, hdpx, rfl, hNpx⟩ := hD.resolve_right (fun q => by cases q.1);cases hdpx;have hch := hch.trans (Chg.any hC);have hb12 := hb12.keep0 hC;have hb14 := hb14.keep0 hC;have hNx := hNx.keep0 hC;have hNy := hNy.keep0 hC;have hNia := hNia.keep0 hC;have hS := hS.trans hC;refine ⟨hS, ?_⟩;refine wk 6 rfl hS (fun _ _ => Ev.move rfl) (wk 7 rfl hS (fun _ _ => Ev.extract rfl rfl) ?_);refine WK.takeT 8 rfl (by kernel_rfl) (by kernel_rfl) (by kernel_rfl) (by kernel_rfl) (fun _ => hS) (fun w' => Ev.extract rfl rfl) rfl ?_;refine WK.storeB 9 rfl (by kernel_rfl) (by kernel_rfl) rfl rfl rfl ao hb12 (by simp) rfl fun ws3 hb12_ hcs3 => ?_
 try simp only [Sx.splice, qt] at hb12_
 have hch := hch.s1 hcs3;have hb14 := hb14.keep hcs3 (by simp; omega);have hNy := hNy.keepBK hb12 hcs3 an;have hNpx := hNpx.keepBK hb12 hcs3 an;have hb12 := hb12_;refine WK.done (by kernel_rfl) (kr8 _ _ _ ?_);refine kh7 (zc fun _ kh9 => ?_);refine CW.regionKC 7 8 rfl hmix fun kR10 kr10 hS hdr => ?_;have hch := hch.trans (Chg.any hdr);have hb12 := hb12.keep0 hdr;have hb14 := hb14.keep0 hdr;have hNy := hNy.keep0 hdr;have hNpx := hNpx.keep0 hdr;have hch_r := hch;have hb12_r := hb12;have hb14_r := hb14;refine wk 0 rfl hS (fun _ hw' => Ev.loadA rfl rfl (hb14_r.keep0 hw') rfl) (wk 1 rfl hS (fun _ _ => Ev.move rfl) ?_);refine WK.oneCall 2 rfl (by kernel_rfl) hasF82 rfl rfl (Int_spec ((num : Nat) : Int) _ (hg0.keep0 hch) (by omega)) fun v w5 h' => ?_;obtain ⟨⟨rib, rfl, hNib⟩, hC⟩ := h';have hch := hch.trans (Chg.any hC);have hb12 := hb12.keep0 hC;have hb14 := hb14.keep0 hC;have hNy := hNy.keep0 hC;have hNpx := hNpx.keep0 hC;have hS := hS.trans hC;refine ⟨hS, ?_⟩;refine WK.oneCall 3 rfl (by kernel_rfl) hasF81 rfl rfl (Mul_dspec (sumD (fvI y)).neg (intD ((num : Nat) : Int)).neg _ _ (wd (sumD (fvI y)).m) (wd (intD ((num : Nat) : Int)).m) (sumD (fvI y)).e (intD ((num : Nat) : Int)).e _ hNy hNib (hg0.keep0 hch) (ok_e hokY) (ok_e hokn)) fun v w6 h' => ?_;obtain ⟨hD, hC⟩ := h';rw [val_wd, val_wd, formD_sumD (fvI_in y), formD_self hokn, show both2 mulD (some (sumD (fvI y))) (some (intD ((num : Nat) : Int))) = mulD (sumD (fvI y)) (intD ((num : Nat) : Int)) from rfl, mulD_int (fvI_in y) (by omega) (by omega) hPy] at hD;obtain ⟨rpy, dpy, hdpy, rfl, hNpy⟩ := hD.resolve_right (fun q => by cases q.1);cases hdpy;have hch := hch.trans (Chg.any hC);have hb12 := hb12.keep0 hC;have hb14 := hb14.keep0 hC;have hNy := hNy.keep0 hC;have hNpx := hNpx.keep0 hC;have hNib := hNib.keep0 hC;have hS := hS.trans hC;refine ⟨hS, ?_⟩;refine wk 4 rfl hS (fun _ _ => Ev.move rfl) (wk 5 rfl hS (fun _ _ => Ev.extract rfl rfl) ?_);refine WK.takeT 6 rfl (by kernel_rfl) (by kernel_rfl) (by kernel_rfl) (by kernel_rfl) (fun _ => hS) (fun w' => Ev.extract rfl rfl) rfl ?_;refine WK.storeB 7 rfl (by kernel_rfl) (by kernel_rfl) rfl rfl rfl ao hb14 (by simp) rfl fun ws4 hb14_ hcs4 => ?_
 try simp only [Sx.splice, qt] at hb14_
 have hch := hch.s1 hcs4;have hb12 := hb12.keep hcs4 (by simp; omega);have hNpx := hNpx.keepBK hb14 hcs4 an;have hNpy := hNpy.keepBK hb14 hcs4 an;have hb14 := hb14_;refine WK.done (by kernel_rfl) (kr10 _ _ _ ?_);refine kh9 (Sr fun _ kh11 => zg hb12 rfl (zg hb14 rfl ?_));refine WL.call hasF45 rfl rfl (Add_dspec (sumD (fvI x * ((den - num : Nat) : Int))).neg (sumD (fvI y * ((num : Nat) : Int))).neg _ _ (wd (sumD (fvI x * ((den - num : Nat) : Int))).m) (wd (sumD (fvI y * ((num : Nat) : Int))).m) (sumD (fvI x * ((den - num : Nat) : Int))).e (sumD (fvI y * ((num : Nat) : Int))).e _ hNpx hNpy (hg0.keep0 hch) (ok_e hokPx) (ok_e hokPy)) fun v w7 h' => ?_;obtain ⟨hD, hC⟩ := h';rw [val_wd, val_wd, formD_sumD hPx, formD_sumD hPy, show both2 addD (some (sumD (fvI x * ((den - num : Nat) : Int)))) (some (sumD (fvI y * ((num : Nat) : Int)))) = addD (sumD (fvI x * ((den - num : Nat) : Int))) (sumD (fvI y * ((num : Nat) : Int))) from rfl, addD_sum hPx hPy hV, show (fvI x * ((den - num : Nat) : Int)) + (fvI y * ((num : Nat) : Int)) = lineV x y num den from rfl] at hD;obtain ⟨rv, dv, hdv, rfl, hNv⟩ := hD.resolve_right (fun q => by cases q.1);cases hdv;have hch := hch.trans (Chg.any hC);have hb12 := hb12.keep0 hC;have hb14 := hb14.keep0 hC;have hNpx := hNpx.keep0 hC;have hNpy := hNpy.keep0 hC;refine zm rfl (zx rfl rfl (zx rfl rfl ?_));refine WL.allocB (l := [.bool false, .slice none 0 0, .int .i64 0]) rfl rfl fun b16 wm16 hb16 hcm16 hge16 => ?_;have hgehch16 := Nat.le_trans hch.size hge16;have hch := hch.trans (Chg.any hcm16);have hNv := hNv.keep0 hcm16;have hneb1216 : b12 ≠ b16 := by have := hb12.lt; omega
 have hb12 := hb12.keep0 hcm16;have hneb1416 : b14 ≠ b16 := by have := hb14.lt; omega
 have hb14 := hb14.keep0 hcm16;refine WL.storeB rfl rfl rfl ao hb16 (by simp) rfl fun ws5 hb16_ hcs5 => ?_
 try simp only [Sx.splice, qt] at hb16_
 have hch := hch.s1 hcs5;have hb12 := hb12.keep hcs5 (by simp; omega);have hb14 := hb14.keep hcs5 (by simp; omega);have hNv := hNv.keepBK hb16 hcs5 an;have hb16 := hb16_;refine za rfl (zz (kh11 (zc fun _ kh13 => Sr fun _ kh14 => zg hb16 rfl ?_)));refine WL.call hasF83 rfl rfl (Sign_dspec (sumD (lineV x y num den)).neg _ (wd (sumD (lineV x y num den)).m) (sumD (lineV x y num den)).e _ hNv) fun v w8 h' => ?_;obtain ⟨rfl, hC⟩ := h';rw [val_wd];have hch := hch.trans (Chg.any hC);have hb12 := hb12.keep0 hC;have hb14 := hb14.keep0 hC;have hb16 := hb16.keep0 hC;have hNv := hNv.keep0 hC;refine zq rfl rfl (zz (kh14 ?_));refine CW.cond rfl (fun hc1 => ?_) (fun hc1 => ?_)
 ·
  try simp only [qs] at hc1
  have hz : (sumD (lineV x y num den)).m = 0 := sgD_zero.1 hc1;refine Sr fun _ kh16 => zm rfl (zm rfl ?_);refine WL.buildSlice (m := 2) (cs := [f64v (x), f64v (y)]) (by decide) (by decide) rfl (by kernel_rfl) rfl fun b59 w59 hn59 => ?_;have hcm59 := hn59.chg;have hge59 := hn59.ge;have hb59 : FB w59 b59 _ [x, y] := hn59.at_;have hgehch59 := Nat.le_trans hch.size hge59;have hch := hch.trans (Chg.any hcm59);have hNv := hNv.keep0 hcm59;have hneb1259 : b12 ≠ b59 := by have := hb12.lt; omega
  have hb12 := hb12.keep0 hcm59;have hneb1459 : b14 ≠ b59 := by have := hb14.lt; omega
  have hb14 := hb14.keep0 hcm59;have hneb1659 : b16 ≠ b59 := by have := hb16.lt; omega
  have hb16 := hb16.keep0 hcm59;refine WL.call hasF80 rfl rfl (Plain_spec _) fun v w9 h' => ?_;obtain ⟨rfl, hC⟩ := h';have hch := hch.trans (Chg.any hC);have hb12 := hb12.keep0 hC;have hb14 := hb14.keep0 hC;have hb16 := hb16.keep0 hC;have hb59 := hb59.keep0 hC;have hNv := hNv.keep0 hC;refine WL.call hasF84 rfl rfl (Sift_spec _ [x, y] 0 0 _ ((NF.of_row hb59.row (by intro z hz; simp only [List.mem_cons, List.not_mem_nil, or_false] at hz; rcases hz with rfl | rfl <;> assumption) (by simp) rfl (by simp)))) fun v w10 h' => ?_;obtain ⟨-, v2, hNf, rfl, hC⟩ := h'.resolve_left (fun q => q.1 hsf);have ho2 := hNf.one;unfold SP.cells;have hch := hch.trans (Chg.any hC);have hb12 := hb12.keep0 hC;have hb14 := hb14.keep0 hC;have hb16 := hb16.keep0 hC;have hb59 := hb59.keep0 hC;have hNv := hNv.keep0 hC;refine zm rfl (zx rfl rfl (zx rfl rfl (zx rfl rfl ?_)));refine WL.allocB (l := [.int .i64 0, .int .i64 0, .int .i64 0, .int .i64 0, .int .i64 0, .int .i64 0]) rfl rfl fun b19 wm19 hb19 hcm19 hge19 => ?_;have hgehch19 := Nat.le_trans hch.size hge19;have hch := hch.trans (Chg.any hcm19);have hNv := hNv.keep0 hcm19;have hneb1219 : b12 ≠ b19 := by have := hb12.lt; omega
  have hb12 := hb12.keep0 hcm19;have hneb1419 : b14 ≠ b19 := by have := hb14.lt; omega
  have hb14 := hb14.keep0 hcm19;have hneb1619 : b16 ≠ b19 := by have := hb16.lt; omega
  have hb16 := hb16.keep0 hcm19;have hneb5919 : b59 ≠ b19 := by have := hb59.lt; omega
  have hb59 := hb59.keep0 hcm19;refine za rfl ?_;refine WL.storeB rfl rfl rfl ao hb19 (by simp) rfl fun ws6 hb19_ hcs6 => ?_
  try simp only [Sx.splice, qt] at hb19_
  have hch := hch.s1 hcs6;have hb12 := hb12.keep hcs6 (by simp; omega);have hb14 := hb14.keep hcs6 (by simp; omega);have hb16 := hb16.keep hcs6 (by simp; omega);have hb59 := hb59.keep hcs6 (by simp; omega);have hNv := hNv.keepBK hb19 hcs6 an;have hb19 := hb19_;refine za rfl (zz (kh16 (Sr fun _ kh18 => zg hb19 rfl (zm rfl ?_))));refine WL.call hasF85 rfl rfl (Nought_spec (cntP [x, y]) mode _ ((cnt_le [x, y]).mono (by simp))) fun v w11 h' => ?_;obtain ⟨rfl, hC⟩ := h';have hch := hch.trans (Chg.any hC);have hb12 := hb12.keep0 hC;have hb14 := hb14.keep0 hC;have hb16 := hb16.keep0 hC;have hb59 := hb59.keep0 hC;have hb19 := hb19.keep0 hC;have hNv := hNv.keep0 hC;refine za rfl (za rfl (zz (kh18 ?_)));refine CW.ret ?_;refine bodyA.ret2 rfl rfl rfl ?_;exact ⟨⟨_, _, rfl, .inl ⟨hz, rfl, rfl⟩⟩, hch⟩
 ·
  try simp only [qs] at hc1
  have hz : (sumD (lineV x y num den)).m ≠ 0 := fun q => hc1 (sgD_zero.2 q);refine CW.skip ?_;refine kh13 (zc fun _ kh20 => ?_);refine CW.regionHC 10 rfl hmix fun kR21 kr21 hS hdr => ?_;have hch := hch.trans (Chg.any hdr);have hb12 := hb12.keep0 hdr;have hb14 := hb14.keep0 hdr;have hb16 := hb16.keep0 hdr;have hNv := hNv.keep0 hdr;have hch_r := hch;have hb12_r := hb12;have hb14_r := hb14;have hb16_r := hb16;refine wh 0 rfl hS (fun _ hw' => Ev.loadA rfl rfl (hb16_r.keep0 hw') rfl) (wh 1 rfl hS (fun _ _ => Ev.move rfl) (wh 4 rfl hS (fun _ _ => Ev.move rfl) ?_));refine WH.oneCall 2 rfl (by kernel_rfl) hasF82 rfl rfl (Int_spec ((den : Nat) : Int) _ (hg0.keep0 hch) (by omega)) fun v w12 h' => ?_;obtain ⟨⟨ric, rfl, hNic⟩, hC⟩ := h';have hch := hch.trans (Chg.any hC);have hb12 := hb12.keep0 hC;have hb14 := hb14.keep0 hC;have hb16 := hb16.keep0 hC;have hNv := hNv.keep0 hC;have hS := hS.trans hC;refine ⟨hS, ?_⟩;refine wh 3 rfl hS (fun _ _ => Ev.build (vs := _) (cs := [_, _, _, _, _, _]) rfl rfl) ?_;refine WH.oneCall 5 rfl (by kernel_rfl) hasF86 rfl rfl (Quot_spec (sumD (lineV x y num den)).neg (intD (den : Int)).neg _ _ (wd (sumD (lineV x y num den)).m) (wd (intD (den : Int)).m) (sumD (lineV x y num den)).e (intD (den : Int)).e mode _ hNv hNic (hg0.keep0 hch) (ok_e hokV) (ok_e hokd)) fun v w13 h' => ?_;obtain ⟨⟨bits, e, rfl, hQ⟩, hC⟩ := h';rw [val_wd, val_wd] at hQ;have hch := hch.trans (Chg.any hC);have hb12 := hb12.keep0 hC;have hb14 := hb14.keep0 hC;have hb16 := hb16.keep0 hC;have hNv := hNv.keep0 hC;have hNic := hNic.keep0 hC;have hS := hS.trans hC;refine ⟨hS, ?_⟩;refine wh 6 rfl hS (fun _ _ => Ev.extract rfl rfl) (wh 7 rfl hS (fun _ _ => Ev.extract rfl rfl) (wh 8 rfl hS (fun _ _ => Ev.assign rfl) (wh 9 rfl hS (fun _ _ => Ev.assign rfl) ?_)));refine WH.done (by kernel_rfl) (kr21 _ _ _ ?_);refine kh20 ?_;refine CW.ret ?_;refine bodyA.ret2 rfl rfl rfl ?_;exact ⟨⟨_, _, rfl, .inr ⟨hz, hQ⟩⟩, hch⟩

end Go.Proofs.YtbdkecpalhpmdaaGreatDoor

/- Package quant: at a share. No condition. -/
namespace Go.Proofs.YtbdkecpalhpmdaaGreatDoor
open Go Sx Wd Fl

set_option maxRecDepth 8000 in
set_option maxHeartbeats 4000000 in
theorem qat_spec (v : Value) (s : List Nat) (num den : Nat) (rule mode : Int) (w : World) (hv : NF w v s) (hs : Row s) (hl : s.length ≤ 65536) (hn : num ≤ den) (hd : 1 ≤ den ∧ den ≤ 2147483648) (hg : GW w) : Ret Tryz.prog 28 [v, .int .i64 (num : Int), .int .i64 (den : Int), .int .i64 rule, .int .i64 mode] w fun u w' => (∃ bits e, u = .tuple [.float .f64 bits, .int .i64 e].toArray ∧ atR s num den rule mode bits e) ∧ Chg [] w w' := by
 have hv0 := hv;obtain ⟨⟨al, cl, rfl, hcapl, hrl⟩, hWl, hll⟩ := hv;have hch : Chg [] w w := Chg.refl _ _;have hg0 := hg;have hpos := hs.pos;obtain ⟨p1, p2⟩ := place_lt (m := s.length - 1) (num := num) hd.1 hn;have hplb : (s.length - 1) * num ≤ 65536 * 2147483648 := Nat.mul_le_mul (by omega) (by omega);generalize hpl : (s.length - 1) * num = pl at *;have hpl := hpl.symm;refine Ret.enter Tryz.func28 rfl rfl ?_;simp only [args0, Nat.zero_add, Nat.reduceAdd];refine Sr fun _ kh1 => za rfl (za rfl (zz (kh1 (Sr fun _ kh3 => zm rfl (zn rfl ?_)))));refine WL.ev (Ev.subIn rfl rfl (by omega)) rfl ?_;rw [show ((s.length : Nat) : Int) - 1 = ((s.length - 1 : Nat) : Int) by omega];refine zm rfl ?_;refine WL.ev (Ev.mulIn rfl rfl (by rw [← Int.natCast_mul, ← hpl]; omega)) rfl ?_;rw [← Int.natCast_mul, ← hpl];refine za rfl (zz (kh3 (zc fun _ kh5 => ?_)));refine CW.regionSC hmix (by kernel_rfl) fun kR6 kr6 hdr => ?_;have hch := hch.trans (Chg.any hdr);refine ym rfl (ym rfl ?_);refine WS.ev (Ev.quoIn rfl rfl (by omega) (by simp only [IntKind.max, IntKind.signed, IntKind.bits]; omega) (by omega)) rfl ?_;rw [show (pl : Int) / (den : Int) = ((pl / den : Nat) : Int) from rfl];refine ym rfl (ym rfl ?_);refine WS.ev (Ev.remIn rfl rfl (by omega) (by omega)) rfl ?_;rw [show (pl : Int) % (den : Int) = ((pl % den : Nat) : Int) from rfl];have hm1 := Nat.mod_lt pl (show den > 0 by omega);generalize hi : pl / den = i at *;generalize hr : pl % den = r at *;have hx := lt_getD2 hWl i;have hfx := finL_getD2 hs.fin (i := i) (by omega);refine ya rfl (ya rfl ?_);refine WS.nil (kr6 _ _ ?_);refine kh5 (zc fun _ kh7 => ?_);refine CW.seqM 34 (decide (r = 0 ∨ rule = 0)) ?_ ?_
 ·
  refine CW.region fun kR8 kr8 => ?_;refine zm rfl (zq rfl rfl (zm rfl ?_));refine WL.boolCase (fun hg1 => ?_) (fun hg1 => ?_)
  ·
   try simp only [qs] at hg1
   refine zv rfl (zv rfl (zt rfl rfl ?_));refine WL.nil (kr8 _ _ _ ?_);refine ⟨rfl, rfl, Subs.consB rfl ?_ ?_⟩
   ·
    first | (simp; omega) | (simp_all; done) | (refine decide_eq_decide.2 ?_; omega)
   ·
    exact SMg
  ·
   try simp only [qs] at hg1
   refine zw rfl (zm rfl (zw rfl (zq rfl rfl (ze rfl rfl ?_))));refine WL.nil (kr8 _ _ _ ?_);refine ⟨rfl, rfl, Subs.consB rfl ?_ ?_⟩
   ·
    first | (simp; omega) | (simp_all; done) | (refine decide_eq_decide.2 ?_; omega)
   ·
    exact SMg
 ·
  refine CW.cond rfl (fun hc2 => ?_) (fun hc2 => ?_)
  ·
   try simp only [qs] at hc2
   have hq : r = 0 ∨ rule = 0 := hc2;refine Sr fun _ kh9 => zm rfl (zm rfl ?_);refine WL.ev (Ev.ixR (i) rfl rfl (hrl.keep0 hch) (by omega) (by omega) (by simp; omega)) rfl ?_;refine WL.ev (Ev.load rfl rfl ((hrl.keep0 hch).f64 (by first | omega | (simp; omega)))) rfl ?_;refine za rfl (za rfl (zz (kh9 ?_)));refine CW.ret ?_;refine bodyA.ret2 rfl rfl rfl ?_;refine ⟨⟨_, _, rfl, ?_⟩, hch⟩;unfold atR;rw [← hpl, hi, hr, if_pos hq];exact ⟨rfl, rfl⟩
  ·
   try simp only [qs] at hc2
   have hq : ¬ (r = 0 ∨ rule = 0) := hc2;have hi2 := p2 (fun q => hq (.inl q));have hy := lt_getD2 hWl (i + 1);have hfy := finL_getD2 hs.fin (i := i + 1) (by omega);refine CW.skip ?_;refine kh7 (zc fun _ kh11 => ?_);refine CW.regionSC hmix (by kernel_rfl) fun kR12 kr12 hdr => ?_;have hch := hch.trans (Chg.any hdr);refine ym rfl (ym rfl ?_);refine WS.ev (Ev.ixR (i) rfl rfl (hrl.keep0 hch) (by omega) (by omega) (by simp; omega)) rfl ?_;refine WS.ev (Ev.load rfl rfl ((hrl.keep0 hch).f64 (by first | omega | (simp; omega)))) rfl ?_;refine ym rfl (ym rfl ?_)
   first | refine WS.ev (Ev.addIn rfl rfl (by omega)) rfl ?_ | refine WS.ev (Ev.add rfl rfl) rfl ?_
   refine WS.ev (Ev.ixR ((i + 1)) rfl rfl (hrl.keep0 hch) (by omega) (by omega) (by simp; omega)) rfl ?_;refine WS.ev (Ev.load rfl rfl ((hrl.keep0 hch).f64 (by first | omega | (simp; omega)))) rfl ?_;refine ya rfl (ya rfl ?_);refine WS.nil (kr12 _ _ ?_);refine kh11 (zc fun _ kh13 => Sr fun _ kh14 => zm rfl (zz (kh14 ?_)));refine CW.block ?_;refine Sr fun _ kh16 => zq rfl rfl (za rfl (zz (kh16 ?_)));refine CW.cond rfl (fun hc3 => ?_) (fun hc3 => ?_)
   ·
    try simp only [qs] at hc3
    have h3 : rule = 3 := hc3;refine Sr fun _ kh18 => zm rfl (zm rfl (zm rfl ?_));refine WL.call hasF49 rfl rfl (Middle_spec (s.getD i 0) (s.getD (i + 1) 0) mode _ hx hy (hg0.keep0 hch)) fun v w1 h' => ?_;obtain ⟨⟨bits, e, rfl, hM⟩, hC⟩ := h';have hch := hch.trans (Chg.any hC);refine zx rfl rfl (zx rfl rfl (za rfl (za rfl (zz (kh18 ?_)))));refine CW.ret ?_;refine bodyA.ret2 rfl rfl rfl ?_;refine ⟨⟨_, _, rfl, ?_⟩, hch⟩;unfold atR;rw [← hpl, hi, hr, if_neg hq, if_pos h3];exact hM
   ·
    try simp only [qs] at hc3
    have h3 : ¬ rule = 3 := hc3;refine Sr fun _ kh20 => zq rfl rfl (za rfl (zz (kh20 ?_)));refine CW.cond rfl (fun hc4 => ?_) (fun hc4 => ?_)
    ·
     try simp only [qs] at hc4
     have h4 : rule = 4 := hc4;refine Sr fun _ kh22 => zm rfl (zm rfl (zm rfl (zm rfl (zm rfl ?_))));refine WL.call hasF50 rfl rfl (qline_spec (s.getD i 0) (s.getD (i + 1) 0) r den mode _ hx hy hfx hfy (by omega) hm1 (by omega) (hg0.keep0 hch)) fun v w2 h' => ?_;obtain ⟨⟨bits, e, rfl, hM⟩, hC⟩ := h';have hch := hch.trans (Chg.any hC);refine zx rfl rfl (zx rfl rfl (za rfl (za rfl (zz (kh22 ?_)))));refine CW.ret ?_;refine bodyA.ret2 rfl rfl rfl ?_;refine ⟨⟨_, _, rfl, ?_⟩, hch⟩;unfold atR;rw [← hpl, hi, hr, if_neg hq, if_neg h3, if_pos h4];exact hM
    ·
     try simp only [qs] at hc4
     have h4 : ¬ rule = 4 := hc4;refine Sr fun _ kh24 => zq rfl rfl (za rfl (zz (kh24 ?_)));refine CW.cond rfl (fun hc5 => ?_) (fun hc5 => ?_)
     ·
      try simp only [qs] at hc5
      have h2 : rule = 2 := hc5;refine Sr fun _ kh26 => zm rfl ?_;refine WL.ev (Ev.mulIn rfl rfl (by omega)) rfl ?_;refine zm rfl ?_;refine WL.ev (Ev.subIn rfl rfl (by omega)) rfl ?_;refine za rfl (zz (kh26 ?_));refine CW.seqM 83 (decide (2 * r < den ∨ (2 * r = den ∧ i % 2 = 0))) ?_ ?_
      ·
       refine CW.region fun kR28 kr28 => ?_;refine zm rfl ?_;refine WL.ev (Ev.lss rfl rfl) rfl ?_;refine zm rfl ?_;refine WL.boolCase (fun hg6 => ?_) (fun hg6 => ?_)
       ·
        try simp only [qs] at hg6
        refine zv rfl (zv rfl (zv rfl (zu rfl (zu rfl (zu rfl (zv rfl (zt rfl rfl ?_)))))));refine WL.nil (kr28 _ _ _ ?_);refine ⟨rfl, rfl, Subs.consB rfl ?_ ?_⟩
        ·
         first | exact (decide_eq_true (by omega)).symm | exact (decide_eq_false (by omega)).symm | exact decide_eq_decide.2 (by omega)
        ·
         exact SMg
       ·
        try simp only [qs] at hg6
        refine zw rfl (zm rfl (zw rfl (zq rfl rfl (zw rfl (zm rfl ?_)))));refine WL.boolCase (fun hg7 => ?_) (fun hg7 => ?_)
        ·
         try simp only [qs] at hg7
         refine zw rfl (zm rfl (zw rfl ?_));refine WL.ev (Ev.remIn rfl rfl (by omega) (by omega)) rfl ?_;refine zw rfl (zq rfl rfl (zw rfl (zt rfl rfl (ze rfl rfl ?_))));refine WL.nil (kr28 _ _ _ ?_);refine ⟨rfl, rfl, Subs.consB rfl ?_ ?_⟩
         ·
          first | exact (decide_eq_true (by omega)).symm | exact (decide_eq_false (by omega)).symm | exact decide_eq_decide.2 (by omega)
         ·
          exact SMg
        ·
         try simp only [qs] at hg7
         refine zv rfl (zv rfl (zv rfl (zw rfl (ze rfl rfl (ze rfl rfl ?_)))));refine WL.nil (kr28 _ _ _ ?_);refine ⟨rfl, rfl, Subs.consB rfl ?_ ?_⟩
         ·
          first | exact (decide_eq_true (by omega)).symm | exact (decide_eq_false (by omega)).symm | exact decide_eq_decide.2 (by omega)
         ·
          exact SMg
      ·
       refine CW.cond rfl (fun hc8 => ?_) (fun hc8 => ?_)
       ·
        try simp only [qs] at hc8
        have hn : 2 * r < den ∨ (2 * r = den ∧ i % 2 = 0) := hc8;refine Sr fun _ kh29 => zm rfl (za rfl (za rfl (zz (kh29 ?_))));refine CW.ret ?_;refine bodyA.ret2 rfl rfl rfl ?_;refine ⟨⟨_, _, rfl, ?_⟩, hch⟩;unfold atR;rw [← hpl, hi, hr, if_neg hq, if_neg h3, if_neg h4, if_pos ⟨h2, hn⟩];exact ⟨rfl, rfl⟩
       ·
        try simp only [qs] at hc8
        have hn : ¬ (2 * r < den ∨ (2 * r = den ∧ i % 2 = 0)) := hc8;refine CW.skip ?_;refine kh13 (Sr fun _ kh31 => zm rfl (za rfl (za rfl (zz (kh31 ?_)))));refine CW.ret ?_;refine bodyA.ret2 rfl rfl rfl ?_;refine ⟨⟨_, _, rfl, ?_⟩, hch⟩;unfold atR;rw [← hpl, hi, hr, if_neg hq, if_neg h3, if_neg h4, if_neg (fun z => hn z.2)];exact ⟨rfl, rfl⟩
     ·
      try simp only [qs] at hc5
      have h2 : ¬ rule = 2 := hc5;refine CW.skip ?_;refine kh13 (Sr fun _ kh33 => zm rfl (za rfl (za rfl (zz (kh33 ?_)))));refine CW.ret ?_;refine bodyA.ret2 rfl rfl rfl ?_;refine ⟨⟨_, _, rfl, ?_⟩, hch⟩;unfold atR;rw [← hpl, hi, hr, if_neg hq, if_neg h3, if_neg h4, if_neg (fun z => h2 z.1)];exact ⟨rfl, rfl⟩

end Go.Proofs.YtbdkecpalhpmdaaGreatDoor

/- Package quant: Quantile, Several, Share. No condition. -/
namespace Go.Proofs.YtbdkecpalhpmdaaGreatDoor
open Go Sx Wd Fl

theorem GR.of_FB {w : World} {lo b k : Nat} {e : TypeId} {X l : List Nat} (h : FB w b e l) (hk : k = l.length) (hm : l.length ≤ 281474976710656) (hlo : lo ≤ b) (hX : b ∉ X) : GR w e f64v lo X (.slice (some ⟨b, 0, none⟩) k k) l := by
  subst hk
  exact ⟨⟨by simp, .inr ⟨b, l.length, _, rfl, Nat.zero_le _, h, Nat.le_refl _, by unfold maxLen; omega, by simp, by rw [Nat.mul_one, List.take_of_length_le (by simp)]⟩⟩, fun b' hb => by cases hb; exact ⟨hlo, hX⟩⟩
theorem sev_step {L : List Nat} {i b : Nat} {e : Int} {Q : Nat → Nat → Int → Prop} (h : ∀ k, k < i → ∃ e, Q k (L.getD k 0) e) (hi : i < L.length) (hA : Q i b e) : ∀ k, k < i + 1 → ∃ e, Q k ((L.set i b).getD k 0) e := fun k hk => by
  by_cases q : k = i
  · subst q
    refine ⟨e, ?_⟩
    rw [List.getD_eq_getElem?_getD, List.getElem?_set_self hi]
    exact hA
  · rw [List.getD_eq_getElem?_getD, List.getElem?_set_ne (by omega), ← List.getD_eq_getElem?_getD]
    exact h k (by omega)
structure KSv (s : List Nat) (sv : Value) (pn : Nat) (rule mode : Int) (b lo : Nat) (w0 : World) (g : Nat × List Nat) (w : World) : Prop where
  hi : g.1 ≤ pn + 1
  len : g.2.length = pn + 1
  f : ∀ k, k < g.1 → ∃ e, atR s k pn rule mode (g.2.getD k 0) e
  hB : FB w b 24 g.2
  hg : GR w 24 f64v lo [b] sv s
  ch : Chg [] w0 w
def cntLE (l : List Nat) (x : Nat) : Nat := (l.filter fun z => FloatKind.f64.format.order z x == some .lt || FloatKind.f64.format.order z x == some .eq).length
theorem cntLE_step {l : List Nat} {x i : Nat} (hi : i < l.length) : cntLE (l.take (i + 1)) x = cntLE (l.take i) x + if (FloatKind.f64.format.order (l.getD i 0) x == some .lt || FloatKind.f64.format.order (l.getD i 0) x == some .eq) = true then 1 else 0 := by
  have e1 : l.getD i 0 = l[i] := by rw [List.getD_eq_getElem?_getD, List.getElem?_eq_getElem hi]; rfl
  unfold cntLE
  rw [List.take_succ_eq_append_getElem hi, List.filter_append, List.length_append, e1]
  split
  · rename_i q; rw [List.filter_cons_of_pos (by simpa using q)]; rfl
  · rename_i q; rw [List.filter_cons_of_neg (by simpa using q)]; rfl
theorem cntLE_le (l : List Nat) (x : Nat) : cntLE l x ≤ l.length := List.length_filter_le _ _
structure KSs (l : List Nat) (x : Nat) (w0 : World) (i : Nat) (w : World) : Prop where
  hi : i ≤ l.length
  ch : Chg [] w0 w

set_option maxRecDepth 8000 in
set_option maxHeartbeats 4000000 in
theorem Quantile_spec (v : Value) (l : List Nat) (num den rule mode : Int) (w : World) (hv : NF w v l) (hnr : -9223372036854775808 ≤ num ∧ num ≤ 9223372036854775807) (hdr : -9223372036854775808 ≤ den ∧ den ≤ 9223372036854775807) (hg : GW w) : Ret Tryz.prog 13 [v, .int .i64 num, .int .i64 den, .int .i64 rule, .int .i64 mode] w fun u w' => (∃ bits e, u = .tuple [.float .f64 bits, .int .i64 e].toArray ∧ quantR l num den rule mode bits e) ∧ Chg [] w w' := by
 have hWl := hv.hw;have hll := hv.len;have hov := hv.one;have hch : Chg [] w w := Chg.refl _ _;have hg0 := hg;refine Ret.enter Tryz.func13 rfl rfl ?_;simp only [args0, Nat.zero_add, Nat.reduceAdd];refine Sr fun _ kh1 => za rfl (za rfl (zz (kh1 (zc fun _ kh3 => ?_))));refine CW.seqM 33 (decide (¬ askQ num den rule mode)) ?_ ?_
 ·
  refine CW.region fun kR4 kr4 => ?_;refine zm rfl (zm rfl ?_);refine WL.call hasF26 rfl rfl (qmay_spec rule mode _) fun v w1 h' => ?_;obtain ⟨rfl, rfl⟩ := h';refine WL.ev (Ev.not rfl) rfl ?_;refine zm rfl ?_;refine WL.boolCase (fun hg1 => ?_) (fun hg1 => ?_)
  ·
   try simp only [qs] at hg1
   refine zv rfl (zv rfl (zt rfl rfl (zm rfl (zv rfl (zv rfl (zt rfl rfl (zm rfl (zv rfl (zv rfl (zt rfl rfl (zm rfl (zv rfl (zv rfl (zv rfl (zt rfl rfl ?_)))))))))))))));refine WL.nil (kr4 _ _ _ ?_);refine ⟨rfl, rfl, Subs.consB rfl ?_ ?_⟩
   ·
    first | exact (decide_eq_true (by unfold askQ; omega)).symm | exact (decide_eq_false (by unfold askQ; omega)).symm | exact decide_eq_decide.2 (by unfold askQ; omega)
   ·
    exact SMg
  ·
   try simp only [qs] at hg1
   refine zw rfl (zm rfl (zw rfl ?_));refine WL.ev (Ev.lss rfl rfl) rfl ?_;refine ze rfl rfl (zm rfl ?_);refine WL.boolCase (fun hg2 => ?_) (fun hg2 => ?_)
   ·
    try simp only [qs] at hg2
    refine zv rfl (zv rfl (zt rfl rfl (zm rfl (zv rfl (zv rfl (zt rfl rfl (zm rfl (zv rfl (zv rfl (zv rfl (zt rfl rfl ?_)))))))))));refine WL.nil (kr4 _ _ _ ?_);refine ⟨rfl, rfl, Subs.consB rfl ?_ ?_⟩
    ·
     first | exact (decide_eq_true (by unfold askQ; omega)).symm | exact (decide_eq_false (by unfold askQ; omega)).symm | exact decide_eq_decide.2 (by unfold askQ; omega)
    ·
     exact SMg
   ·
    try simp only [qs] at hg2
    refine zw rfl (zm rfl (zw rfl ?_));refine WL.ev (Ev.gtr rfl rfl) rfl ?_;refine ze rfl rfl (zm rfl ?_);refine WL.boolCase (fun hg3 => ?_) (fun hg3 => ?_)
    ·
     try simp only [qs] at hg3
     refine zv rfl (zv rfl (zt rfl rfl (zm rfl (zv rfl (zv rfl (zv rfl (zt rfl rfl ?_)))))));refine WL.nil (kr4 _ _ _ ?_);refine ⟨rfl, rfl, Subs.consB rfl ?_ ?_⟩
     ·
      first | exact (decide_eq_true (by unfold askQ; omega)).symm | exact (decide_eq_false (by unfold askQ; omega)).symm | exact decide_eq_decide.2 (by unfold askQ; omega)
     ·
      exact SMg
    ·
     try simp only [qs] at hg3
     refine zw rfl (zm rfl (zw rfl ?_));refine WL.ev (Ev.lss rfl rfl) rfl ?_;refine ze rfl rfl (zm rfl ?_);refine WL.boolCase (fun hg4 => ?_) (fun hg4 => ?_)
     ·
      try simp only [qs] at hg4
      refine zv rfl (zv rfl (zv rfl (zt rfl rfl ?_)));refine WL.nil (kr4 _ _ _ ?_);refine ⟨rfl, rfl, Subs.consB rfl ?_ ?_⟩
      ·
       first | exact (decide_eq_true (by unfold askQ; omega)).symm | exact (decide_eq_false (by unfold askQ; omega)).symm | exact decide_eq_decide.2 (by unfold askQ; omega)
      ·
       exact SMg
     ·
      try simp only [qs] at hg4
      refine zw rfl (zm rfl (zw rfl (zm rfl (zw rfl ?_))));refine WL.ev (Ev.gtr rfl rfl) rfl ?_;refine ze rfl rfl ?_;refine WL.nil (kr4 _ _ _ ?_);refine ⟨rfl, rfl, Subs.consB rfl ?_ ?_⟩
      ·
       first | exact (decide_eq_true (by unfold askQ; omega)).symm | exact (decide_eq_false (by unfold askQ; omega)).symm | exact decide_eq_decide.2 (by unfold askQ; omega)
      ·
       exact SMg
 ·
  refine CW.cond rfl (fun hc5 => ?_) (fun hc5 => ?_)
  ·
   try simp only [qs] at hc5
   have hq : ¬ askQ num den rule mode := hc5;refine Sr fun _ kh5 => za rfl (za rfl (zz (kh5 ?_)));refine CW.ret ?_;refine bodyA.ret2 rfl rfl rfl ?_;exact ⟨⟨_, _, rfl, .inl ⟨hq, rfl, rfl⟩⟩, hch⟩
  ·
   try simp only [qs] at hc5
   have hq : askQ num den rule mode := hc5;obtain ⟨hm, hru, hde, hnu, hnd⟩ := id hq;obtain ⟨nn, rfl⟩ := Int.eq_ofNat_of_zero_le hnu;obtain ⟨dn, rfl⟩ := Int.eq_ofNat_of_zero_le (show 0 ≤ den by omega);refine CW.skip ?_;refine kh3 (zc fun _ kh7 => Sr fun _ kh8 => zm rfl ?_);refine WL.call hasF27 rfl rfl (refused_spec v l _ (hv.keep0 hch)) fun v w2 h' => ?_;obtain ⟨rfl, hC⟩ := h';have hch := hch.trans (Chg.any hC);refine za rfl (zz (kh8 (Sr fun _ kh10 => zm rfl ?_)));refine WL.ev (Ev.neq rfl rfl) rfl ?_;refine zz (kh10 ?_);refine CW.cond rfl (fun hc6 => ?_) (fun hc6 => ?_)
   ·
    try simp only [qs] at hc6
    have h0 : refuseE l ≠ 0 := hc6;refine Sr fun _ kh12 => zm rfl (za rfl (za rfl (zz (kh12 ?_))));refine CW.ret ?_;refine bodyA.ret2 rfl rfl rfl ?_;exact ⟨⟨_, _, rfl, .inr ⟨hq, .inl ⟨h0, rfl, rfl⟩⟩⟩, hch⟩
   ·
    try simp only [qs] at hc6
    have h0 : refuseE l = 0 := hc6;obtain ⟨hl6, hf, hne⟩ := refuse_ok h0;have hRow := Row.of hf hWl hne;have hsl := sortP_length l;have hsW := hRow.w;refine CW.skip ?_;refine kh7 (Sr fun _ kh14 => zm rfl ?_);refine WL.call hasF29 rfl rfl (qsorted_spec v l _ (hv.keep0 hch) hl6 hf hne) fun v w3 h' => ?_;obtain ⟨hgs, hC⟩ := h';have hNs := hgs.nf hsW (by omega);have hch := hch.trans (Chg.any hC);refine zm rfl (zm rfl (zm rfl (zm rfl ?_)));refine WL.call hasF28 rfl rfl (qat_spec _ (sortP l) nn dn rule mode _ hNs hRow (by omega) (by omega) (by omega) (hg0.keep0 hch)) fun v w4 h' => ?_;obtain ⟨⟨bits, e, rfl, hA⟩, hC⟩ := h';have hch := hch.trans (Chg.any hC);refine zx rfl rfl (zx rfl rfl (za rfl (za rfl (zz (kh14 ?_)))));refine CW.ret ?_;refine bodyA.ret2 rfl rfl rfl ?_;exact ⟨⟨_, _, rfl, .inr ⟨hq, .inr ⟨h0, hA⟩⟩⟩, hch⟩

set_option maxRecDepth 8000 in
set_option maxHeartbeats 4000000 in
theorem Several_spec (v : Value) (l : List Nat) (parts rule mode : Int) (w : World) (hv : NF w v l) (hpr : -9223372036854775808 ≤ parts ∧ parts ≤ 9223372036854775807) (hg : GW w) : Ret Tryz.prog 18 [v, .int .i64 parts, .int .i64 rule, .int .i64 mode] w fun u w' => (∃ vL L e, u = .tuple [vL, .int .i64 e].toArray ∧ GR w' 24 f64v w.heap.size [] vL L ∧ sevR l parts rule mode L e) ∧ Chg [] w w' := by
 have hWl := hv.hw;have hll := hv.len;have hov := hv.one;have hch : Chg [] w w := Chg.refl _ _;have hg0 := hg;refine Ret.enter Tryz.func18 rfl rfl ?_;simp only [args0, Nat.zero_add, Nat.reduceAdd];refine Sr fun _ kh1 => za rfl (za rfl (zz (kh1 (zc fun _ kh3 => ?_))));refine CW.seqM 25 (decide (¬ partQ parts rule mode)) ?_ ?_
 ·
  refine CW.region fun kR4 kr4 => ?_;refine zm rfl (zm rfl ?_);refine WL.call hasF26 rfl rfl (qmay_spec rule mode _) fun v w1 h' => ?_;obtain ⟨rfl, rfl⟩ := h';refine WL.ev (Ev.not rfl) rfl ?_;refine zm rfl ?_;refine WL.boolCase (fun hg1 => ?_) (fun hg1 => ?_)
  ·
   try simp only [qs] at hg1
   refine zv rfl (zv rfl (zt rfl rfl (zm rfl (zv rfl (zv rfl (zt rfl rfl ?_))))));refine WL.nil (kr4 _ _ _ ?_);refine ⟨rfl, rfl, Subs.consB rfl ?_ ?_⟩
   ·
    first | exact (decide_eq_true (by unfold partQ; omega)).symm | exact (decide_eq_false (by unfold partQ; omega)).symm | exact decide_eq_decide.2 (by unfold partQ; omega)
   ·
    exact SMg
  ·
   try simp only [qs] at hg1
   refine zw rfl (zm rfl (zw rfl ?_));refine WL.ev (Ev.lss rfl rfl) rfl ?_;refine ze rfl rfl (zm rfl ?_);refine WL.boolCase (fun hg2 => ?_) (fun hg2 => ?_)
   ·
    try simp only [qs] at hg2
    refine zv rfl (zv rfl (zt rfl rfl ?_));refine WL.nil (kr4 _ _ _ ?_);refine ⟨rfl, rfl, Subs.consB rfl ?_ ?_⟩
    ·
     first | exact (decide_eq_true (by unfold partQ; omega)).symm | exact (decide_eq_false (by unfold partQ; omega)).symm | exact decide_eq_decide.2 (by unfold partQ; omega)
    ·
     exact SMg
   ·
    try simp only [qs] at hg2
    refine zw rfl (zm rfl (zw rfl ?_));refine WL.ev (Ev.gtr rfl rfl) rfl ?_;refine ze rfl rfl ?_;refine WL.nil (kr4 _ _ _ ?_);refine ⟨rfl, rfl, Subs.consB rfl ?_ ?_⟩
    ·
     first | exact (decide_eq_true (by unfold partQ; omega)).symm | exact (decide_eq_false (by unfold partQ; omega)).symm | exact decide_eq_decide.2 (by unfold partQ; omega)
    ·
     exact SMg
 ·
  refine CW.cond rfl (fun hc3 => ?_) (fun hc3 => ?_)
  ·
   try simp only [qs] at hc3
   have hq : ¬ partQ parts rule mode := hc3;refine Sr fun _ kh5 => za rfl (za rfl (zz (kh5 ?_)));refine CW.ret ?_;refine bodyA.ret2 rfl rfl rfl ?_;exact ⟨⟨_, [], _, rfl, GR.nil, .inl ⟨hq, rfl, rfl⟩⟩, hch⟩
  ·
   try simp only [qs] at hc3
   have hq : partQ parts rule mode := hc3;obtain ⟨hm, hru, hp1, hp2⟩ := id hq;obtain ⟨pn, rfl⟩ := Int.eq_ofNat_of_zero_le (show 0 ≤ parts by omega);refine CW.skip ?_;refine kh3 (zc fun _ kh7 => Sr fun _ kh8 => zm rfl ?_);refine WL.call hasF27 rfl rfl (refused_spec v l _ (hv.keep0 hch)) fun v w2 h' => ?_;obtain ⟨rfl, hC⟩ := h';have hch := hch.trans (Chg.any hC);refine za rfl (zz (kh8 (Sr fun _ kh10 => zm rfl ?_)));refine WL.ev (Ev.neq rfl rfl) rfl ?_;refine zz (kh10 ?_);refine CW.cond rfl (fun hc4 => ?_) (fun hc4 => ?_)
   ·
    try simp only [qs] at hc4
    have h0 : refuseE l ≠ 0 := hc4;refine Sr fun _ kh12 => zm rfl (za rfl (za rfl (zz (kh12 ?_))));refine CW.ret ?_;refine bodyA.ret2 rfl rfl rfl ?_;exact ⟨⟨_, [], _, rfl, GR.nil, .inr ⟨hq, .inl ⟨h0, rfl, rfl⟩⟩⟩, hch⟩
   ·
    try simp only [qs] at hc4
    have h0 : refuseE l = 0 := hc4;obtain ⟨hl6, hf, hne⟩ := refuse_ok h0;have hRow := Row.of hf hWl hne;have hsl := sortP_length l;have hsW := hRow.w;refine CW.skip ?_;refine kh7 (Sr fun _ kh14 => zm rfl ?_);refine WL.call hasF29 rfl rfl (qsorted_spec v l _ (hv.keep0 hch) hl6 hf hne) fun vs w3 h' => ?_;obtain ⟨hgs, hC⟩ := h';have hlo := hch.size;generalize hSs : sortP l = s at *;have hone := hgs.one;have hch := hch.trans (Chg.any hC);refine za rfl (zz (kh14 (Sr fun _ kh16 => zm rfl ?_)));refine WL.ev (Ev.addIn rfl rfl (by omega)) rfl ?_;rw [show (pn : Int) + 1 = ((pn + 1 : Nat) : Int) by omega];have hgs0 := hgs;refine WL.makeF ((pn + 1)) ((pn + 1)) rfl rfl (by omega) (by omega) (by omega) (by omega) (by omega) rfl fun b35 wm35 hb35 hcm35 hge35 => ?_;have hgehch35 := Nat.le_trans hch.size hge35;have hch := hch.trans (Chg.any hcm35);have hgs := hgs.keep0 hcm35;refine za rfl (zz (kh16 (zc fun _ kh18 => zc fun _ kh19 => ?_)));have hgs := (hgs0.mono (X' := [b35]) (Nat.le_refl _) (by intro b hb; simp only [List.mem_singleton] at hb; subst hb; exact .inr (.inr hge35))).keep0 hcm35;obtain ⟨lo, hgs⟩ : ∃ lo, GR _ 24 f64v lo [b35] vs s := ⟨_, hgs⟩;refine CW.region fun kR20 kr20 => ?_;refine zm rfl (zn rfl (zm rfl ?_));refine WL.nil (kr20 _ _ _ (kh19 ?_));refine CW.block ?_;refine CW.loop (S := fun g : Nat × List Nat => [(1, .int .i64 (pn : Int)), (2, .int .i64 rule), (3, .int .i64 mode), (11, vs), (12, .slice (some ⟨b35, 0, none⟩) (pn + 1) (pn + 1)), (37, .int .i64 ((pn + 1 : Nat) : Int)), (38, .int .i64 (g.1 : Int))]) (Inv := KSv s vs pn rule mode b35 lo w) (mu := fun g => pn + 1 - g.1) ((0, List.replicate (pn + 1) 0)) ?_ ?_ ?_
    ·
     exact ⟨Nat.zero_le _, by simp, fun k hk => absurd hk (Nat.not_lt_zero _), hb35, hgs, hch⟩
    ·
     exact SLp
    ·
     rintro ⟨i, L⟩ wr ⟨hi, hlen, hfk, hb35, hgs, hch⟩;dsimp only at hi hlen hfk hb35 hgs hch;dsimp only;refine Sr fun _ kh21 => ?_;refine WL.ev (Ev.lss rfl rfl) rfl ?_;refine zz (kh21 (zc fun _ kh23 => ?_));refine CW.cond rfl (fun hc5 => ?_) (fun hc5 => ?_)
     ·
      try simp only [qs] at hc5
      refine CW.skip ?_;refine kh23 (zc fun _ kh24 => ?_);refine CW.block ?_;refine Sr fun _ kh25 => zm rfl (za rfl (zz (kh25 ?_)));refine CW.region fun kR27 kr27 => ?_;refine zm rfl (zm rfl (zm rfl (zm rfl (zm rfl (zm rfl (zm rfl ?_))))));refine WL.call hasF28 rfl rfl (qat_spec _ s i pn rule mode _ (hgs.nf hsW (by omega)) hRow (by omega) (by omega) (by omega) (hg0.keep0 hch)) fun v w4 h' => ?_;obtain ⟨⟨bits, e, rfl, hA⟩, hC⟩ := h';have hch := hch.trans (Chg.any hC);have hb35 := hb35.keep0 hC;have hgs := hgs.keep0 hC;refine zm rfl (zx rfl rfl (zx rfl rfl ?_));refine WL.ev (Ev.ixB (i) rfl rfl (by omega) (by omega)) rfl ?_;refine WL.storeF rfl rfl hb35 (by first | omega | (simp; done) | (simp; omega)) fun ws7 hb35_ hcs7 => ?_;have hch := hch.s1 hcs7;have hgs := hgs.keep hcs7 (fun y hy => by simp only [List.mem_singleton] at hy; subst hy; first | exact .inl (by simp) | exact .inr (.inl (by omega)) | exact .inr (.inr (by omega)));have hb35 := hb35_;refine WL.nil (kr27 _ _ _ (kh24 ?_));refine CW.region fun kR28 kr28 => ?_
      first | refine WL.ev (Ev.addIn rfl rfl (by omega)) rfl ?_ | refine WL.ev (Ev.add rfl rfl) rfl ?_
      refine zm rfl ?_;refine WL.nil (kr28 _ _ _ ?_);refine ⟨rfl, (i + 1, L.set i bits), ?_, ?_, ?_⟩
      ·
       exact SLp
      ·
       exact ⟨by show i + 1 ≤ pn + 1; omega, by dsimp only; rw [List.length_set, hlen], sev_step (Q := fun k => atR s k pn rule mode) hfk (by omega) hA, hb35, hgs, hch⟩
      ·
       show pn + 1 - (i + 1) < pn + 1 - i; omega
     ·
      try simp only [qs] at hc5
      have hiX : i = pn + 1 := by omega
      subst hiX;refine CW.exit ?_;refine kh18 (Sr fun _ kh29 => zm rfl (za rfl (za rfl (zz (kh29 ?_)))));refine CW.ret ?_;refine bodyA.ret2 rfl rfl rfl ?_;refine ⟨⟨_, L, _, rfl, GR.of_FB hb35 hlen.symm (by omega) hgehch35 (by simp), .inr ⟨hq, .inr ⟨h0, rfl, hlen, fun k hk => ?_⟩⟩⟩, hch⟩;rw [hSs];exact hfk k (by have : (pn : Int).toNat = pn := rfl; omega)

set_option maxRecDepth 8000 in
set_option maxHeartbeats 4000000 in
theorem Share_spec (v : Value) (l : List Nat) (x : Nat) (w : World) (hv : NF w v l) : Ret Tryz.prog 22 [v, .float .f64 x] w fun u w' => (∃ a b e, u = .tuple [.int .i64 a, .int .i64 b, .int .i64 e].toArray ∧ shareR l x a b e) ∧ Chg [] w w' := by
 have hv0 := hv;obtain ⟨⟨al, cl, rfl, hcapl, hrl⟩, hWl, hll⟩ := hv;have hch : Chg [] w w := Chg.refl _ _;refine Ret.enter Tryz.func22 rfl rfl ?_;simp only [args0, Nat.zero_add, Nat.reduceAdd];refine Sr fun _ kh1 => za rfl (za rfl (za rfl (zz (kh1 (Sr fun _ kh3 => zm rfl ?_)))));refine WL.call hasF27 rfl rfl (refused_spec _ l _ (hv0.keep0 hch)) fun v w1 h' => ?_;obtain ⟨rfl, hC⟩ := h';have h3 := refuse_three l;have hch := hch.trans (Chg.any hC);refine za rfl (zz (kh3 (zc fun _ kh5 => ?_)));refine CW.seqM 15 (decide (refuseE l = 2 ∨ refuseE l = 30)) ?_ ?_
 ·
  refine CW.region fun kR6 kr6 => ?_;refine zm rfl (zq rfl rfl (zm rfl ?_));refine WL.boolCase (fun hg1 => ?_) (fun hg1 => ?_)
  ·
   try simp only [qs] at hg1
   refine zv rfl (zv rfl (zt rfl rfl ?_));refine WL.nil (kr6 _ _ _ ?_);refine ⟨rfl, rfl, Subs.consB rfl ?_ ?_⟩
   ·
    first | (simp; omega) | (simp_all; done) | (refine decide_eq_decide.2 ?_; omega)
   ·
    exact SMg
  ·
   try simp only [qs] at hg1
   refine zw rfl (zm rfl (zw rfl (zq rfl rfl (ze rfl rfl ?_))));refine WL.nil (kr6 _ _ _ ?_);refine ⟨rfl, rfl, Subs.consB rfl ?_ ?_⟩
   ·
    first | (simp; omega) | (simp_all; done) | (refine decide_eq_decide.2 ?_; omega)
   ·
    exact SMg
 ·
  refine CW.cond rfl (fun hc2 => ?_) (fun hc2 => ?_)
  ·
   try simp only [qs] at hc2
   have hq : refuseE l = 2 ∨ refuseE l = 30 := hc2;refine Sr fun _ kh7 => zm rfl (za rfl (za rfl (za rfl (zz (kh7 ?_)))));refine CW.ret ?_;refine bodyA.ret3 rfl rfl rfl rfl ?_;refine ⟨⟨_, _, _, rfl, ?_⟩, hch⟩;exact .inl ⟨hq, rfl, rfl, rfl⟩
  ·
   try simp only [qs] at hc2
   have hq : ¬ (refuseE l = 2 ∨ refuseE l = 30) := hc2;refine CW.skip ?_;refine kh5 (zc fun _ kh9 => Sr fun _ kh10 => zm rfl (zm rfl ?_));refine WL.ev (Ev.fneq rfl rfl) rfl ?_;rw [bne, order_self_eq, Bool.not_not];refine zz (kh10 ?_);refine CW.cond rfl (fun hc3 => ?_) (fun hc3 => ?_)
   ·
    try simp only [qs] at hc3
    have hx : isNaN x = true := hc3;refine Sr fun _ kh12 => za rfl (za rfl (za rfl (zz (kh12 ?_))));refine CW.ret ?_;refine bodyA.ret3 rfl rfl rfl rfl ?_;refine ⟨⟨_, _, _, rfl, ?_⟩, hch⟩;exact .inr ⟨hq, .inl ⟨hx, rfl, rfl, rfl⟩⟩
   ·
    try simp only [qs] at hc3
    have hx : isNaN x = false := by simpa using hc3
    refine CW.skip ?_;refine kh9 (zc fun _ kh14 => Sr fun _ kh15 => zm rfl ?_);refine WL.ev (Ev.neq rfl rfl) rfl ?_;refine zz (kh15 ?_);refine CW.cond rfl (fun hc4 => ?_) (fun hc4 => ?_)
    ·
     try simp only [qs] at hc4
     have h0 : refuseE l ≠ 0 := hc4;refine Sr fun _ kh17 => zm rfl (za rfl (za rfl (za rfl (zz (kh17 ?_)))));refine CW.ret ?_;refine bodyA.ret3 rfl rfl rfl rfl ?_;refine ⟨⟨_, _, _, rfl, ?_⟩, hch⟩;exact .inr ⟨hq, .inr ⟨hx, .inl ⟨h0, rfl, rfl, rfl⟩⟩⟩
    ·
     try simp only [qs] at hc4
     have h0 : refuseE l = 0 := hc4;refine CW.skip ?_;refine kh14 (zc fun _ kh19 => Sr fun _ kh20 => zm rfl (zn rfl (zm rfl (zz (kh20 ?_)))));refine CW.block ?_;refine CW.loop (S := fun i : Nat => [(0, .slice al l.length cl), (1, .float .f64 x), (4, .int .i64 (cntLE (l.take i) x : Int)), (24, .int .i64 (l.length : Int)), (25, .int .i64 (i : Int))]) (Inv := KSs l x w) (mu := fun i => l.length - i) (0) ?_ ?_ ?_
     ·
      exact ⟨Nat.zero_le _, hch⟩
     ·
      exact SLp
     ·
      rintro i wr ⟨hi, hch⟩;have hle := cntLE_le (l.take i) x;rw [List.length_take] at hle;refine Sr fun _ kh22 => ?_;refine WL.ev (Ev.lss rfl rfl) rfl ?_;refine zz (kh22 (zc fun _ kh24 => ?_));refine CW.cond rfl (fun hc5 => ?_) (fun hc5 => ?_)
      ·
       try simp only [qs] at hc5
       have hst := cntLE_step (l := l) (x := x) (i := i) (by omega);refine CW.skip ?_;refine kh24 (zc fun _ kh25 => ?_);refine CW.block ?_;refine Sr fun _ kh26 => zm rfl (za rfl (zz (kh26 (Sr fun _ kh28 => zm rfl (zm rfl ?_)))));refine WL.ev (Ev.ixR (i) rfl rfl (hrl.keep0 hch) (by omega) (by omega) (by simp; omega)) rfl ?_;refine WL.ev (Ev.load rfl rfl ((hrl.keep0 hch).f64 (by first | omega | (simp; omega)))) rfl ?_;refine zm rfl ?_;refine WL.ev (Ev.fleq rfl rfl) rfl ?_;refine zz (kh28 ?_);refine CW.cond rfl (fun hc6 => ?_) (fun hc6 => ?_)
       ·
        try simp only [qs] at hc6
        rw [if_pos (by rw [Bool.or_eq_true]; exact hc6)] at hst;refine CW.region fun kR30 kr30 => ?_;refine zm rfl ?_;refine WL.ev (Ev.addIn rfl rfl (by omega)) rfl ?_;rw [show ((cntLE (l.take i) x : Nat) : Int) + 1 = ((cntLE (l.take (i + 1)) x : Nat) : Int) by omega];refine za rfl ?_;refine WL.nil (kr30 _ _ _ (kh25 ?_));refine CW.region fun kR31 kr31 => ?_
        first | refine WL.ev (Ev.addIn rfl rfl (by omega)) rfl ?_ | refine WL.ev (Ev.add rfl rfl) rfl ?_
        refine zm rfl ?_;refine WL.nil (kr31 _ _ _ ?_);refine ⟨rfl, i + 1, ?_, ?_, ?_⟩
        ·
         exact SLp
        ·
         exact ⟨by omega, hch⟩
        ·
         show l.length - (i + 1) < l.length - i; omega
       ·
        try simp only [qs] at hc6
        rw [if_neg (by rw [hc6]; exact Bool.false_ne_true)] at hst;have hst2 : cntLE (l.take (i + 1)) x = cntLE (l.take i) x := hst;rw [← hst2];refine CW.skip ?_;refine kh25 ?_;refine CW.region fun kR32 kr32 => ?_
        first | refine WL.ev (Ev.addIn rfl rfl (by omega)) rfl ?_ | refine WL.ev (Ev.add rfl rfl) rfl ?_
        refine zm rfl ?_;refine WL.nil (kr32 _ _ _ ?_);refine ⟨rfl, i + 1, ?_, ?_, ?_⟩
        ·
         exact SLp
        ·
         exact ⟨by omega, hch⟩
        ·
         show l.length - (i + 1) < l.length - i; omega
      ·
       try simp only [qs] at hc5
       have hiX : i = l.length := by omega
       subst hiX;refine CW.exit ?_;refine kh19 (Sr fun _ kh33 => zm rfl (zm rfl (zn rfl (za rfl (za rfl (za rfl (zz (kh33 ?_))))))));refine CW.ret ?_;refine bodyA.ret3 rfl rfl rfl rfl ?_;refine ⟨⟨_, _, _, rfl, ?_⟩, hch⟩;refine .inr ⟨hq, .inr ⟨hx, .inr ⟨h0, ?_, rfl, rfl⟩⟩⟩;rw [List.take_length]; rfl

end Go.Proofs.YtbdkecpalhpmdaaGreatDoor

/- Package steelyardlaw16: live, exact. No condition. -/
namespace Go.Proofs.YtbdkecpalhpmdaaGreatDoor
open Go Sx Wd Fl

theorem qexact_spec (x y : Nat) (w : World) : Ret Tryz.prog 14 [.float .f64 x, .float .f64 y] w fun u w' => u = .bool (decide (x = y)) ∧ w = w' := by
 refine Ret.enter Tryz.func14 rfl rfl ?_;simp only [args0, Nat.zero_add, Nat.reduceAdd];refine Sr fun _ kh1 => za rfl (zz (kh1 (Sr fun _ kh3 => zm rfl ?_)));refine WL.ev (Ev.ext rfl (ext30 _ _)) rfl ?_;refine zm rfl ?_;refine WL.ev (Ev.ext rfl (ext30 _ _)) rfl ?_;refine zq rfl rfl (za rfl (zz (kh3 ?_)));refine CW.ret ?_;refine bodyA.ret1 rfl rfl ?_;refine ⟨congrArg Value.bool (decide_eq_decide.2 (by omega)), rfl⟩

set_option maxRecDepth 8000 in
set_option maxHeartbeats 2000000 in
theorem qlive_spec (w : World) (hg : GW w) : Ret Tryz.prog 12 [] w fun u w' => u = .bool true ∧ Chg [] w w' := by
 have hch : Chg [] w w := Chg.refl _ _;have hg0 := hg;refine Ret.enter Tryz.func12 rfl rfl ?_;simp only [args0, Nat.zero_add, Nat.reduceAdd];refine Sr fun _ kh1 => za rfl (zz (kh1 (Sr fun _ kh3 => ?_)));refine WL.buildSlice (m := 4) (cs := [f64v (4621819117588971520), f64v (4630826316843712512), f64v (4626322717216342016), f64v (4629137466983448576)]) (by decide) (by decide) rfl (by kernel_rfl) rfl fun b9 w9 hn9 => ?_;have hcm9 := hn9.chg;have hge9 := hn9.ge;have hb9 : FB w9 b9 _ [4621819117588971520, 4630826316843712512, 4626322717216342016, 4629137466983448576] := hn9.at_;have hgehch9 := Nat.le_trans hch.size hge9;have hch := hch.trans (Chg.any hcm9);refine za rfl (zz (kh3 (Sr fun _ kh5 => zm rfl ?_)));refine WL.call hasF13 rfl rfl (Quantile_spec _ lvq 1 4 4 0 _ (NF.of_row hb9.row (by decide) (by decide) rfl (by decide)) (by decide) (by decide) (hg0.keep0 hch)) fun v w1 h' => ?_;obtain ⟨⟨bits, e, rfl, hM⟩, hC12⟩ := h';obtain ⟨rfl, rfl⟩ := live_quant hM;have hch := hch.trans (Chg.any hC12);have hb9 := hb9.keep0 hC12;refine zm rfl (zx rfl rfl (zx rfl rfl (za rfl (za rfl (zz (kh5 (Sr fun _ kh7 => zm rfl ?_)))))));refine WL.call hasF22 rfl rfl (Share_spec _ lvq 4626322717216342016 _ (NF.of_row hb9.row (by decide) (by decide) rfl (by decide))) fun v w2 h' => ?_;obtain ⟨⟨a, b, e, rfl, hM⟩, hC17⟩ := h';obtain ⟨ha, hb, rfl⟩ := share_fin hM lvq_ok (by decide +kernel);rw [live_share] at ha;obtain rfl : a = 2 := ha;obtain rfl : b = 4 := hb;have hch := hch.trans (Chg.any hC17);have hb9 := hb9.keep0 hC17;refine zm rfl (zx rfl rfl (zx rfl rfl (zx rfl rfl (za rfl (za rfl (za rfl (zz (kh7 (Sr fun _ kh9 => zm rfl ?_)))))))));refine WL.call hasF18 rfl rfl (Several_spec _ lvq 2 3 0 _ (NF.of_row hb9.row (by decide) (by decide) rfl (by decide)) (by decide) (hg0.keep0 hch)) fun v w3 h' => ?_;obtain ⟨⟨vL, Ls, e, rfl, hgs, hM⟩, hC23⟩ := h';obtain ⟨rfl, hL3, hL1⟩ := live_sev hM;obtain ⟨aL, cL, rfl, hcL, hrL⟩ := hgs.row;have hch := hch.trans (Chg.any hC23);have hb9 := hb9.keep0 hC23;refine zm rfl (zx rfl rfl (zx rfl rfl (za rfl (za rfl (zz (kh9 (Sr fun _ kh11 => zm rfl (zq rfl rfl (zm rfl (zw rfl (zm rfl (zw rfl ?_))))))))))));refine WL.ev (Ev.feql rfl rfl) rfl ?_;rw [show (FloatKind.f64.format.order 4625619029774565376 4625619029774565376 == some .eq) = true by rw [Fl.order_self_eq]; decide];refine zt rfl rfl (zm rfl (zw rfl (zm rfl (zw rfl (zq rfl rfl (zt rfl rfl (zm rfl (zw rfl (zm rfl (zw rfl (zq rfl rfl (zt rfl rfl (zm rfl (zw rfl (zm rfl (zw rfl (zq rfl rfl (zt rfl rfl (zm rfl (zw rfl (zm rfl (zw rfl (zq rfl rfl ?_)))))))))))))))))))))));refine zt rfl rfl (zm rfl (zw rfl (zm rfl (zw rfl (zn rfl (zw rfl (zq rfl rfl ?_)))))));rw [hL3];refine zt rfl rfl (zm rfl (zw rfl (zm rfl (zw rfl ?_))));refine WL.ev (Ev.ixR (1) rfl rfl hrL (by omega) (by omega) (by simp; omega)) rfl ?_;refine zw rfl ?_;refine WL.ev (Ev.load rfl rfl (hrL.f64 (by first | omega | (simp; omega)))) rfl ?_
 refine zw rfl ?_;refine WL.ev (Ev.feql rfl rfl) rfl ?_;rw [hL1];rw [show (FloatKind.f64.format.order 4627730092099895296 4627730092099895296 == some .eq) = true by rw [Fl.order_self_eq]; decide];refine zt rfl rfl (za rfl (zz (kh11 ?_)));refine CW.ret ?_;refine bodyA.ret1 rfl rfl ?_;exact ⟨rfl, hch⟩

end Go.Proofs.YtbdkecpalhpmdaaGreatDoor

/- What the statements on quantiles need of the answers. No condition. -/
namespace Go.Proofs.YtbdkecpalhpmdaaGreatDoor
open Go Sx Wd Fl

/-! ### The least and the greatest one -/
section
variable {P : Program} {s : Sl} {w : World} {ty : TypeId} {x y : Operand} {t t' : TypeId} {a b : Nat}
end
end Go.Proofs.YtbdkecpalhpmdaaGreatDoor

/- Lists of integers; rows that grow within a drawn region. No condition. -/
namespace Go.Proofs.YtbdkecpalhpmdaaGreatDoor
open Go Sx Wd Fl

def i64v (z : Int) : Value := .int .i64 z
structure NI (w : World) (v : Value) (m : List Int) : Prop where
  ex : ∃ a c, v = .slice a m.length c ∧ RW w a (m.map i64v)
  bd : ∀ z ∈ m, -9223372036854775808 ≤ z ∧ z ≤ 9223372036854775807
  len : m.length ≤ 70368744177664
theorem Sx.RW.i64 {w : World} {a : Option Addr} {m : List Int} {j : Nat} (h : RW w a (m.map i64v)) (hj : j < m.length) : w.cell? (adr a j) = some (.int .i64 (m.getD j 0)) := h.at_ (map_at i64v 0 hj)
theorem getD_bd {m : List Int} (h : ∀ z ∈ m, -9223372036854775808 ≤ z ∧ z ≤ 9223372036854775807) {j : Nat} (hj : j < m.length) : -9223372036854775808 ≤ m.getD j 0 ∧ m.getD j 0 ≤ 9223372036854775807 := by
  rw [List.getD_eq_getElem?_getD, List.getElem?_eq_getElem hj]; exact h _ (List.getElem_mem hj)
theorem GR.rw_ {w : World} {e : TypeId} {f : Nat → Value} {lo : Nat} {X : List Nat} {a : Option Addr} {m c : Nat} {l : List Nat} (h : GR w e f lo X (.slice a m c) l) : RW w a (l.map f) ∧ m = l.length ∧ l.length ≤ c := by
  obtain ⟨a', c', e1, h1, h2⟩ := h.row
  cases e1
  exact ⟨h2, rfl, h1⟩
theorem RW.slice_take {w : World} {a : Option Addr} {l : List Nat} {f : Nat → Value} (h : RW w a (l.map f)) (j : Nat) : RW w a ((l.take j).map f) := by
  rw [List.map_take]; exact h.take _
theorem RW.slice_drop {w : World} {a : Option Addr} {l : List Nat} {f : Nat → Value} (h : RW w a (l.map f)) {j c : Nat} (hj : j ≤ l.length) (hc : l.length ≤ c) : RW w (cutAt a j c 1) ((l.drop j).map f) := by
  rw [List.map_drop]; exact h.cut j c (by simpa using hj) (by simpa using hc)
theorem pick_perm {l : List Nat} {j : Nat} (hj : j < l.length) : ([l.getD j 0] ++ (l.take j ++ l.drop (j + 1))).Perm l := by
  have e : l = l.take j ++ (l.getD j 0 :: l.drop (j + 1)) := by
    rw [List.getD_eq_getElem?_getD, List.getElem?_eq_getElem hj, Option.getD_some, ← List.drop_eq_getElem_cons hj, List.take_append_drop]
  refine List.Perm.trans ?_ (List.Perm.of_eq e.symm)
  show (l.getD j 0 :: (l.take j ++ l.drop (j + 1))).Perm _
  exact List.perm_middle.symm
theorem pick_step {T R L : List Nat} {j : Nat} (h : (T ++ R).Perm L) (hj : j < R.length) : ((T ++ [R.getD j 0]) ++ (R.take j ++ R.drop (j + 1))).Perm L := by
  rw [List.append_assoc]
  exact (List.Perm.append_left T (pick_perm hj)).trans h
theorem pick_len {R : List Nat} {j : Nat} (hj : j < R.length) : (R.take j ++ R.drop (j + 1)).length + 1 = R.length := by
  rw [List.length_append, List.length_take, List.length_drop]; omega
theorem refuse_perm {a l : List Nat} (h : a.Perm l) : refuseE a = refuseE l := by
  unfold refuseE
  rw [h.length_eq]
  have h1 : finL a ↔ finL l := perm_finL h
  have h2 : a = [] ↔ l = [] := ⟨fun q => by subst q; exact (List.Perm.nil_eq h).symm, fun q => by subst q; exact h.eq_nil⟩
  by_cases q1 : 65536 < l.length
  · rw [if_pos q1, if_pos q1]
  · rw [if_neg q1, if_neg q1]
    by_cases q2 : finL l
    · rw [if_neg (fun (q : ¬ finL a) => q (h1.2 q2)), if_neg (fun (q : ¬ finL l) => q q2)]
      by_cases q3 : l = []
      · rw [if_pos (h2.2 q3), if_pos q3]
      · rw [if_neg (fun q => q3 (h2.1 q)), if_neg q3]
    · rw [if_pos (fun q => q2 (h1.1 q)), if_pos q2]
theorem quant_perm {a l : List Nat} {nu de ru mo : Int} {b b' : Nat} {e e' : Int} (h : quantR a nu de ru mo b e) (h' : quantR l nu de ru mo b' e') (hp : a.Perm l) (hw : ∀ x ∈ l, x < 18446744073709551616) : b = b' ∧ e = e' := by
  refine quant_unique h ?_
  have hr := refuse_perm hp
  rcases h' with q | ⟨q, ⟨r, q1, q2⟩ | ⟨r, hA⟩⟩
  · exact .inl q
  · exact .inr ⟨q, .inl ⟨by rw [hr]; exact r, q1, by rw [hr]; exact q2⟩⟩
  · refine .inr ⟨q, .inr ⟨by rw [hr]; exact r, ?_⟩⟩
    rw [sortP_of_perm hp (finL_nums (refuse_ok r).2.1 hw)]
    exact hA
namespace Sx
section
variable {P : Program} {A : AQ} {n : Nat} {D : List Deferred} {s : Sl} {w : World} {ops : Array Oper} {K : KK} {S : World → Prop} {fuel : Nat} {listed : Array Bool}
variable {op : Op} {ty : TypeId} {pos : String} {af : Array Edge} {d : Nat} {v : Value} {x y : Operand}
theorem ev_empty {t e : TypeId} {de : TypeDesc} {sz by_ es be : Nat} {z ze : Value} {f : Nat → Value} {lo : Nat} {X : List Nat} [hT : HasT P t (.slice e) sz by_ z] [hE : HasT P e de es be ze] (hlo : lo ≤ w.heap.size) (hX : ∀ b ∈ X, b < w.heap.size) :
    ∃ v w', Ev P s (.buildSlice t 0 #[]) ty w v w' ∧ GR w' e f lo X v [] ∧ Chg [] w w' := by
  refine ⟨.slice (some ⟨w.heap.size, 0, none⟩) 0 0, w.alloc (.cells #[] e), fun ρ d' pos af g hρ => ?_, ?_, (new_alloc w _).chg⟩
  · simp [execOp, Instr.buildSlice, hT.underlying, hE.sizeOf, Instr.fill, newRow]
    rw [show Array.range 0 = #[] from by decide, Array.map_empty]
  · refine ⟨⟨by simp, .inr ⟨w.heap.size, 0, #[], rfl, Nat.zero_le _, ?_, Nat.le_refl _, by unfold maxLen; omega, by simp, by simp⟩⟩, fun b hb => ?_⟩
    · exact (new_alloc w (.cells #[] e)).at_
    · cases hb
      exact ⟨hlo, fun hm => Nat.lt_irrefl _ (hX _ hm)⟩
theorem ev_growR {t e be : Nat} {de : TypeDesc} {ze : Value} {sz by_ : Nat} {z : Value} {v : Value} {f : Nat → Value} {lo : Nat} {X : List Nat} {l news : List Nat} {a : Option Addr} {mm c : Nat} [hT : HasT P t (.slice e) sz by_ z] [hE : HasT P e de 1 be ze]
    (hzs : ze.cells.size = 1) (h1 : ∀ i, (f i).oneCell' = true) (hx : opnd s x = some v) (hy : opnd s y = some (.slice a mm c)) (hg : GR w e f lo X v l) (hm : mm = news.length) (hr : RW w a (news.map f)) (hlo : lo ≤ w.heap.size) (hX : ∀ b ∈ X, b < w.heap.size)
    (hbytes : (l.length + news.length) * be ≤ 140737488355328) (h63 : l.length + news.length ≤ 70368744177664) :
    ∃ v' w', Ev P s (.call ⟨.builtin .append, [x, y].toArray, #[t, t]⟩) ty w v' w' ∧ GR w' e f lo X v' (l ++ news) ∧ Chg v.ownBlock.toList w w' := by
  cases a with
  | some ad =>
    obtain ⟨v', w', he, ho, hc, hl⟩ := ev_append (P := P) (s := s) (w := w) (ty := ty) (x := x) (y := y) (t := t) (hT := hT) (hE := hE) (news := news.map f) hzs (by omega) hx hy hg.1 (by simp; omega) (fun j u hu => by
      obtain ⟨ad', e1, hcell⟩ := hr j u hu
      cases e1; exact hcell) (fun u hu => by
      obtain ⟨i, _, rfl⟩ := List.mem_map.1 hu
      exact h1 i) (by unfold maxLen; omega) (by rw [hm]; exact hbytes)
    refine ⟨v', w', he, ⟨by rw [List.length_append, List.map_append, ← hm]; exact ho, fun b hb => ?_⟩, hc⟩
    rcases hl with q | q
    · rw [q] at hb; exact hg.2 b hb
    · rw [q] at hb; cases hb; exact ⟨hlo, fun hm => Nat.lt_irrefl _ (hX _ hm)⟩
  | none =>
    have hn : news = [] := by
      cases news with
      | nil => rfl
      | cons u r => obtain ⟨ad, e1, _⟩ := hr 0 (f u) rfl; cases e1
    subst hn
    have hm0 : mm = 0 := hm
    subst hm0
    exact ⟨v, w, Ev.append00 hx hy hg.1, by rw [List.append_nil]; exact hg, Chg.refl _ _⟩
theorem WH.emptyC (i : Nat) {w0 : World} {t e : TypeId} {de : TypeDesc} {sz by_ es be : Nat} {z ze : Value} {f : Nat → Value} {lo : Nat} {X : List Nat} [hT : HasT P t (.slice e) sz by_ z] [hE : HasT P e de es be ze] (hi : ops[i]? = some ⟨some d, .buildSlice t 0 #[], ty, pos, af, none⟩) (hr : Region.ready .any ops listed = [i]) (hS : Chg [] w0 w) (hlo : lo ≤ w.heap.size) (hX : ∀ b ∈ X, b < w.heap.size) (hd : Nat.blt d n = true)
    (k : ∀ v w', GR w' e f lo X v [] → Chg [] w0 w' → WH P ops K (Chg [] w0) fuel (listed.setIfInBounds i true) n D ((d, v) :: s) w') : WH P ops K (Chg [] w0) (fuel + 1) listed n D s w := by
  obtain ⟨v, w', he, hg, hc⟩ := ev_empty (P := P) (s := s) (ty := ty) (t := t) (hT := hT) (hE := hE) (f := f) hlo hX
  exact WH.one i hi hr he (hS.trans hc) hd (k v w' hg (hS.trans hc))
theorem WH.growC (i : Nat) {w0 : World} {t e be : Nat} {de : TypeDesc} {ze : Value} {sz by_ : Nat} {z : Value} {v : Value} {f : Nat → Value} {lo : Nat} {X : List Nat} {l news : List Nat} {a : Option Addr} {mm c : Nat} [hT : HasT P t (.slice e) sz by_ z] [hE : HasT P e de 1 be ze]
    (hi : ops[i]? = some ⟨some d, .call ⟨.builtin .append, [x, y].toArray, #[t, t]⟩, ty, pos, af, none⟩) (hr : Region.ready .any ops listed = [i]) (hS : Chg [] w0 w)
    (hzs : ze.cells.size = 1) (h1 : ∀ i, (f i).oneCell' = true) (hx : opnd s x = some v) (hy : opnd s y = some (.slice a mm c)) (hg : GR w e f lo X v l) (hm : mm = news.length) (hrw : RW w a (news.map f)) (hw0 : w0.heap.size ≤ lo) (hlo : lo ≤ w.heap.size) (hX : ∀ b ∈ X, b < w.heap.size)
    (hbytes : (l.length + news.length) * be ≤ 140737488355328) (h63 : l.length + news.length ≤ 70368744177664) (hd : Nat.blt d n = true)
    (k : ∀ v' w', GR w' e f lo X v' (l ++ news) → Chg [] w0 w' → WH P ops K (Chg [] w0) fuel (listed.setIfInBounds i true) n D ((d, v') :: s) w') : WH P ops K (Chg [] w0) (fuel + 1) listed n D s w := by
  obtain ⟨v', w', he, hg2, hc⟩ := ev_growR (P := P) (s := s) (ty := ty) (t := t) (hT := hT) (hE := hE) hzs h1 hx hy hg hm hrw hlo hX hbytes h63
  have hS2 := GR.frame hg hc hS hw0
  exact WH.one i hi hr he hS2 hd (k v' w' hg2 hS2)
end
end Sx
end Go.Proofs.YtbdkecpalhpmdaaGreatDoor

/- Package steelyardlaw16: pick, QuantOrder. No condition. -/
namespace Go.Proofs.YtbdkecpalhpmdaaGreatDoor
open Go Sx Wd Fl

set_option maxRecDepth 8000 in
set_option maxHeartbeats 2000000 in
theorem pick_spec (c : Int) (n : Nat) (w : World) (hc : -9223372036854775808 ≤ c ∧ c ≤ 9223372036854775807) (hn : 0 < n) (hn2 : n ≤ 1000000) : Ret Tryz.prog 24 [.int .i64 c, .int .i64 (n : Int)] w fun u w' => (∃ j : Nat, u = .int .i64 (j : Int) ∧ j < n) ∧ w = w' := by
 refine Ret.enter Tryz.func24 rfl rfl ?_;simp only [args0, Nat.zero_add, Nat.reduceAdd];refine Sr fun _ kh1 => za rfl (zz (kh1 (zc fun _ kh3 => Sr fun _ kh4 => zm rfl ?_)));refine WL.ev (Ev.lss rfl rfl) rfl ?_;refine zz (kh4 ?_);refine CW.cond rfl (fun hc1 => ?_) (fun hc1 => ?_)
 ·
  try simp only [qs] at hc1
  have hneg : c < 0 := hc1;obtain ⟨z, hz⟩ : ∃ z : Nat, (z : Int) = -(c + 1) := ⟨(-(c + 1)).toNat, by omega⟩;have hz2 : z < 9223372036854775808 := by omega
  refine CW.region fun kR6 kr6 => ?_;refine zm rfl ?_;refine WL.ev (Ev.addIn rfl rfl (by omega)) rfl ?_;refine WL.ev (Ev.neg rfl) rfl ?_;rw [wrap_i64 (by omega), show (0 : Int) - (c + 1) = ((z : Nat) : Int) from by omega];refine za rfl ?_;refine WL.nil (kr6 _ _ _ (kh3 ?_));refine Sr fun _ kh7 => zm rfl (zm rfl ?_);refine WL.ev (Ev.remIn rfl rfl (by omega) (by omega)) rfl ?_;rw [show (z : Int) % (n : Int) = ((z % n : Nat) : Int) from rfl];refine za rfl (zz (kh7 ?_));refine CW.ret ?_;refine bodyA.ret1 rfl rfl ?_;exact ⟨⟨_, rfl, Nat.mod_lt _ hn⟩, rfl⟩
 ·
  try simp only [qs] at hc1
  have hpos : 0 ≤ c := by have := hc1; omega
  obtain ⟨z, rfl⟩ := Int.eq_ofNat_of_zero_le hpos;refine CW.skip ?_;refine kh3 (Sr fun _ kh9 => zm rfl (zm rfl ?_));refine WL.ev (Ev.remIn rfl rfl (by omega) (by omega)) rfl ?_;rw [show (z : Int) % (n : Int) = ((z % n : Nat) : Int) from rfl];refine za rfl (zz (kh9 ?_));refine CW.ret ?_;refine bodyA.ret1 rfl rfl ?_;exact ⟨⟨_, rfl, Nat.mod_lt _ hn⟩, rfl⟩

structure KOr (L : List Nat) (b5 : Nat) (cs : List Value) (w0 : World) (g : Nat × Value × List Nat × Value × List Nat) (w : World) : Prop where
  k : g.1 + g.2.2.2.2.length = L.length
  perm : (g.2.2.1 ++ g.2.2.2.2).Perm L
  hT : GR w 24 f64v w0.heap.size [b5] g.2.1 g.2.2.1
  hR : GR w 24 f64v 0 g.2.1.ownBlock.toList g.2.2.2.1 g.2.2.2.2
  hb : BK w b5 30 cs
  ch : Chg [] w0 w

set_option maxRecDepth 8000 in
set_option maxHeartbeats 2000000 in
theorem QuantOrder_spec (v : Value) (L : List Nat) (u : Value) (O : List Int) (nu de ru mo : Int) (w : World) (hg : GW w) (hvl : NF w v L ∧ L.length ≤ 17592186044415) (hu : NI w u O) (hnu : -9223372036854775808 ≤ nu ∧ nu ≤ 9223372036854775807) (hde : -9223372036854775808 ≤ de ∧ de ≤ 9223372036854775807) (hru : -9223372036854775808 ≤ ru ∧ ru ≤ 9223372036854775807) (hmo : -9223372036854775808 ≤ mo ∧ mo ≤ 9223372036854775807) : Ret Tryz.prog 8 [v, u, .agg [.int .i64 nu, .int .i64 de, .int .i64 ru, .int .i64 mo].toArray] w fun u w' => u = .bool true ∧ Chg [] w w' := by
 obtain ⟨hv, hlm⟩ := hvl;have hv0 := hv;have hWl := hv.hw;have hll := hv.len;have hch : Chg [] w w := Chg.refl _ _;have hg0 := hg;obtain ⟨⟨al, cl, rfl, hcapl, hrl⟩, -, -⟩ := hv;obtain ⟨⟨ao, co, rfl, hrO⟩, hOb, hOl⟩ := hu;refine Ret.enter Tryz.func8 rfl rfl ?_;simp only [args0, Nat.zero_add, Nat.reduceAdd];refine Sr fun _ kh1 => ?_;refine WL.boxB rfl rfl rfl fun b5 wm5 hb5 hcm5 hge5 => ?_;have hgehch5 := Nat.le_trans hch.size hge5;have hch := hch.trans (Chg.any hcm5);refine za rfl (zz (kh1 (Sr fun _ kh3 => ?_)));refine WL.call hasF12 rfl rfl (qlive_spec _ (hg0.keep0 hch)) fun v w1 h' => ?_;obtain ⟨rfl, hC⟩ := h';have hch := hch.trans (Chg.any hC);have hb5 := hb5.keep0 hC;refine za rfl (zz (kh3 (zc fun _ kh5 => Sr fun _ kh6 => zm rfl (zn rfl ?_))));refine WL.ev (Ev.gtr rfl rfl) rfl ?_;refine zz (kh6 ?_);refine CW.cond rfl (fun hc1 => ?_) (fun hc1 => ?_)
 ·
  try simp only [qs] at hc1
  obtain ⟨L, hLe⟩ : ∃ L9, L9 = L.take 300 := ⟨_, rfl⟩;have hvL : NF w (.slice al 300 cl) L := by rw [hLe]; exact hv0.head (by omega)
  have hL3 : L.length = 300 := by rw [hLe, List.length_take]; omega
  have hWL := hvL.hw;have hrL : RW w al (L.map f64v) := by rw [hLe]; exact RW.slice_take hrl _
  rw [← hL3] at hvL;refine CW.region fun kR8 kr8 => ?_;refine zm rfl ?_;refine WL.ev (Ev.sliceHn 300 rfl rfl (by omega) (by omega)) rfl ?_;rw [show (Value.slice al 300 cl) = Value.slice al L.length cl by rw [hL3]];refine za rfl ?_;refine WL.nil (kr8 _ _ _ (kh5 ?_));refine Sr fun _ kh9 => ?_;refine WL.emptySlice (f := f64v) (lo := w.heap.size) (X := [b5]) hch.size (by intro b hb; simp only [List.mem_singleton] at hb; subst hb; exact hb5.lt) rfl fun v22 w22 hg22 hcm22 => ?_;have hch := hch.trans (Chg.any hcm22);have hb5 := hb5.keep0 hcm22;refine zm rfl ?_;refine WL.growR (f := f64v) (lo := w.heap.size) (X := [b5]) (l := []) (news := L) (by rfl) (fun i => rfl) rfl rfl hg22 (by first | rfl | (simp; done) | (simp; omega) | omega) (hrL.keep0 hch) (by first | omega | exact hch.size | exact hcr.size | exact Nat.le_refl _) (by intro b hb; simp only [List.mem_singleton] at hb; subst hb; exact hb5.lt) (by simp only [List.length_append, List.length_cons, List.length_nil]; omega) (by simp only [List.length_append, List.length_cons, List.length_nil]; omega) rfl fun v24 w24 hg24 hcg24 => ?_;have hch := GR.frame hg22 hcg24 hch (by first | omega | exact Nat.le_refl _);have hb5 := hb5.keep hcg24 (hg22.notin (by first | exact .inl (by simp) | exact .inr (by omega)));have hg22 := hg24;rw [show ([] ++ L) = L from by simp] at hg22;refine za rfl (zz (kh9 (Sr fun _ kh11 => za rfl (zz (kh11 (zc fun _ kh13 => Sr fun _ kh14 => za rfl (zz (kh14 ?_))))))));refine CW.block ?_;refine CW.loop (S := fun g : Nat × Value × List Nat × Value × List Nat => [(0, .slice al L.length cl), (1, .slice ao O.length co), (5, .pointer (some ⟨b5, 0, none⟩)), (7, .bool true), (8, g.2.2.2.1), (9, g.2.1), (10, .int .i64 (g.1 : Int))]) (Inv := KOr L b5 [.int .i64 nu, .int .i64 de, .int .i64 ru, .int .i64 mo] w) (mu := fun g => g.2.2.2.2.length) ((0, .slice none 0 0, [], v24, L)) ?_ ?_ ?_
  ·
   exact ⟨Nat.zero_add _, List.Perm.refl _, GR.nil, hg22.mono (Nat.zero_le _) (by intro b hb; cases hb), hb5, hch⟩
  ·
   exact SLp
  ·
   rintro ⟨k, vT, T, vR, R⟩ wr ⟨hk, hperm, hT, hR, hb5, hch⟩;dsimp only at hk hperm hT hR hb5 hch;dsimp only;obtain ⟨aR, cR, rfl, hcR, -⟩ := hR.row;have hTl : T.length + R.length = L.length := by rw [← List.length_append]; exact hperm.length_eq
   refine zc fun _ kh16 => Sr fun _ kh17 => zm rfl (zn rfl ?_);refine WL.ev (Ev.gtr rfl rfl) rfl ?_;refine zz (kh17 ?_);refine CW.cond rfl (fun hc2 => ?_) (fun hc2 => ?_)
   ·
    try simp only [qs] at hc2
    have hRp : 0 < R.length := by omega
    refine CW.skip ?_;refine kh16 (zc fun _ kh19 => ?_);refine CW.block ?_;refine Sr fun _ kh20 => ?_;obtain ⟨JJ, hJJ⟩ : ∃ JJ : Nat, JJ = 0 := ⟨_, rfl⟩;refine WL.ev (Ev.assign (v := .int .i64 (JJ : Int)) (by rw [hJJ]; rfl)) rfl ?_;refine zz (kh20 (zc fun _ kh22 => Sr fun _ kh23 => zm rfl (zm rfl (zn rfl ?_))));refine WL.ev (Ev.lss rfl rfl) rfl ?_;refine zz (kh23 ?_);refine CW.cond rfl (fun hc3 => ?_) (fun hc3 => ?_)
    ·
     try simp only [qs] at hc3
     refine CW.region fun kR25 kr25 => ?_;refine zm rfl (zm rfl ?_);refine WL.ev (Ev.ixR (k) rfl rfl (hrO.keep0 hch) (by omega) (by omega) (by simp; omega)) rfl ?_;refine WL.ev (Ev.load rfl rfl ((hrO.keep0 hch).i64 (by omega))) rfl ?_;refine zm rfl (zn rfl ?_);refine WL.call hasF24 rfl rfl (pick_spec (O.getD k 0) R.length _ (getD_bd hOb (by omega)) hRp (by omega)) fun v w2 h' => ?_;obtain ⟨⟨JJ, rfl, hj⟩, rfl⟩ := h';refine za rfl ?_;refine WL.nil (kr25 _ _ _ (kh22 ?_));refine Sr fun _ kh26 => zm rfl (zm rfl (zm rfl ?_));refine WL.ev (Ev.ixR (JJ) rfl rfl hR.rw_.1 (by omega) (by omega) (by simp; omega)) rfl ?_;refine WL.ev (Ev.load rfl rfl (RW.f64 hR.rw_.1 (by omega))) rfl ?_;refine WL.buildSlice (m := 1) (cs := [f64v (R.getD JJ 0)]) (by decide) (by decide) rfl (by kernel_rfl) rfl fun b46 w46 hn46 => ?_;have hcm46 := hn46.chg;have hge46 := hn46.ge;have hb46 : FB w46 b46 _ [R.getD JJ 0] := hn46.at_;have hgehch46 := Nat.le_trans hch.size hge46;have hch := hch.trans (Chg.any hcm46);have hneb546 : b5 ≠ b46 := by have := hb5.lt; omega
     have hb5 := hb5.keep0 hcm46;have hT := hT.keep0 hcm46;have hR := hR.keep0 hcm46;refine WL.growR (f := f64v) (lo := w.heap.size) (X := [b5]) (l := T) (news := [R.getD JJ 0]) (by rfl) (fun i => rfl) rfl rfl hT (by first | rfl | (simp; done) | (simp; omega) | omega) hb46.row (by first | omega | exact hch.size | exact hcr.size | exact Nat.le_refl _) (by intro b hb; simp only [List.mem_singleton] at hb; subst hb; exact hb5.lt) (by simp only [List.length_append, List.length_cons, List.length_nil]; omega) (by simp only [List.length_append, List.length_cons, List.length_nil]; omega) rfl fun v47 w47 hg47 hcg47 => ?_;have hch := GR.frame hT hcg47 hch (by first | omega | exact Nat.le_refl _);have hb5 := hb5.keep hcg47 (hT.notin (by first | exact .inl (by simp) | exact .inr (by omega)));have hT := hg47;have hR := hR.keep hcg47 (fun b hb => .inl hb);refine za rfl (zz (kh26 ?_));refine CW.regionHC 11 rfl hmix fun kR28 kr28 hS hdr => ?_;have hch := hch.trans (Chg.any hdr);have hb5 := hb5.keep0 hdr;have hT := hT.keep0 hdr;have hR := hR.keep0 hdr;have hch_r := hch;have hb5_r := hb5;have hlw := hch.size;have hS0 := hS.size;have hX13 := fun b (hb : b ∈ v47.ownBlock.toList) => hT.lt (Option.mem_toList.1 hb);have hR13 := hR;have hT13 := hT;have hb513 := hb5;have hch13 := hch;refine wh 1 rfl hS (fun _ _ => Ev.move rfl) (wh 2 rfl hS (fun _ _ => Ev.move rfl) (wh 3 rfl hS (fun _ _ => Ev.sliceHn (JJ) rfl rfl (by omega) (by omega)) (wh 5 rfl hS (fun _ _ => Ev.move rfl) (wh 6 rfl hS (fun _ _ => Ev.move rfl) (wh 7 rfl hS (fun _ _ => Ev.addIn rfl rfl (by omega)) (wh 8 rfl hS (fun _ _ => Ev.sliceLn ((JJ + 1)) rfl rfl (by omega) (by omega)) ?_))))));refine WH.emptyC (f := f64v) (X := v47.ownBlock.toList) 0 rfl (by kernel_rfl) hS (Nat.le_refl _) hX13 rfl fun v48 w48 hg48 hS => ?_;have hs48 := hS.size;have hR := hR13.keep0 hS;have hT := hT13.keep0 hS;have hb5 := hb513.keep0 hS;have hch := hch13.trans (Chg.any hS);refine WH.growC (f := f64v) (news := R.take JJ) 4 rfl (by kernel_rfl) hS (by rfl) (fun _ => rfl) rfl rfl hg48 (by rw [List.length_take]; omega) (RW.slice_take hR.rw_.1 _) hS0 hs48 (fun b hb => Nat.lt_of_lt_of_le (hX13 b hb) hs48) (by rw [List.length_take]; simp only [List.length_nil]; omega) (by rw [List.length_take]; simp only [List.length_nil]; omega) rfl fun v52 w52 hg52 hS => ?_;have hs52 := hS.size;have hR := hR13.keep0 hS;have hT := hT13.keep0 hS;have hb5 := hb513.keep0 hS;have hch := hch13.trans (Chg.any hS);refine WH.growC (f := f64v) (news := R.drop (JJ + 1)) 9 rfl (by kernel_rfl) hS (by rfl) (fun _ => rfl) rfl rfl hg52 (by rw [List.length_drop]) (RW.slice_drop hR.rw_.1 (by omega) hR.rw_.2.2) hS0 hs52 (fun b hb => Nat.lt_of_lt_of_le (hX13 b hb) hs52) (by rw [List.nil_append, List.length_take, List.length_drop]; omega) (by rw [List.nil_append, List.length_take, List.length_drop]; omega) rfl fun v57 w57 hg57 hS => ?_;have hR := hR13.keep0 hS;have hT := hT13.keep0 hS;have hb5 := hb513.keep0 hS;have hch := hch13.trans (Chg.any hS);refine wh 10 rfl hS (fun _ _ => Ev.assign rfl) ?_
     refine WH.done (by kernel_rfl) (kr28 _ _ _ ?_);refine kh19 ?_;refine CW.region fun kR29 kr29 => ?_;refine zm rfl ?_
     first | refine WL.ev (Ev.addIn rfl rfl (by omega)) rfl ?_ | refine WL.ev (Ev.add rfl rfl) rfl ?_
     refine za rfl ?_;refine WL.nil (kr29 _ _ _ ?_);refine ⟨rfl, (k + 1, v47, T ++ [R.getD JJ 0], v57, R.take JJ ++ R.drop (JJ + 1)), ?_, ?_, ?_⟩
     ·
      exact SLp
     ·
      refine ⟨by dsimp only; have := pick_len (R := R) (j := JJ) (by omega); omega, pick_step hperm (by omega), hT, ?_, hb5, hch⟩;have hgf := hg57.mono (Nat.zero_le _) (X' := v47.ownBlock.toList) (fun b hb => .inl hb);rw [List.nil_append] at hgf;exact hgf
     ·
      show (R.take JJ ++ R.drop (JJ + 1)).length < R.length; have := pick_len (R := R) (j := JJ) (by omega); omega
    ·
     try simp only [qs] at hc3
     refine CW.skip ?_;refine kh22 (Sr fun _ kh30 => zm rfl (zm rfl (zm rfl ?_)));refine WL.ev (Ev.ixR (JJ) rfl rfl hR.rw_.1 (by omega) (by omega) (by simp; omega)) rfl ?_;refine WL.ev (Ev.load rfl rfl (RW.f64 hR.rw_.1 (by omega))) rfl ?_;refine WL.buildSlice (m := 1) (cs := [f64v (R.getD JJ 0)]) (by decide) (by decide) rfl (by kernel_rfl) rfl fun b46 w46 hn46 => ?_;have hcm46 := hn46.chg;have hge46 := hn46.ge;have hb46 : FB w46 b46 _ [R.getD JJ 0] := hn46.at_;have hgehch46 := Nat.le_trans hch.size hge46;have hch := hch.trans (Chg.any hcm46);have hneb546 : b5 ≠ b46 := by have := hb5.lt; omega
     have hb5 := hb5.keep0 hcm46;have hT := hT.keep0 hcm46;have hR := hR.keep0 hcm46;refine WL.growR (f := f64v) (lo := w.heap.size) (X := [b5]) (l := T) (news := [R.getD JJ 0]) (by rfl) (fun i => rfl) rfl rfl hT (by first | rfl | (simp; done) | (simp; omega) | omega) hb46.row (by first | omega | exact hch.size | exact hcr.size | exact Nat.le_refl _) (by intro b hb; simp only [List.mem_singleton] at hb; subst hb; exact hb5.lt) (by simp only [List.length_append, List.length_cons, List.length_nil]; omega) (by simp only [List.length_append, List.length_cons, List.length_nil]; omega) rfl fun v47 w47 hg47 hcg47 => ?_;have hch := GR.frame hT hcg47 hch (by first | omega | exact Nat.le_refl _);have hb5 := hb5.keep hcg47 (hT.notin (by first | exact .inl (by simp) | exact .inr (by omega)));have hT := hg47;have hR := hR.keep hcg47 (fun b hb => .inl hb);refine za rfl (zz (kh30 ?_));refine CW.regionHC 11 rfl hmix fun kR32 kr32 hS hdr => ?_;have hch := hch.trans (Chg.any hdr);have hb5 := hb5.keep0 hdr;have hT := hT.keep0 hdr;have hR := hR.keep0 hdr;have hch_r := hch;have hb5_r := hb5;have hlw := hch.size;have hS0 := hS.size;have hX13 := fun b (hb : b ∈ v47.ownBlock.toList) => hT.lt (Option.mem_toList.1 hb);have hR13 := hR;have hT13 := hT;have hb513 := hb5;have hch13 := hch;refine wh 1 rfl hS (fun _ _ => Ev.move rfl) (wh 2 rfl hS (fun _ _ => Ev.move rfl) (wh 3 rfl hS (fun _ _ => Ev.sliceHn (JJ) rfl rfl (by omega) (by omega)) (wh 5 rfl hS (fun _ _ => Ev.move rfl) (wh 6 rfl hS (fun _ _ => Ev.move rfl) (wh 7 rfl hS (fun _ _ => Ev.addIn rfl rfl (by omega)) (wh 8 rfl hS (fun _ _ => Ev.sliceLn ((JJ + 1)) rfl rfl (by omega) (by omega)) ?_))))));refine WH.emptyC (f := f64v) (X := v47.ownBlock.toList) 0 rfl (by kernel_rfl) hS (Nat.le_refl _) hX13 rfl fun v48 w48 hg48 hS => ?_;have hs48 := hS.size;have hR := hR13.keep0 hS;have hT := hT13.keep0 hS;have hb5 := hb513.keep0 hS;have hch := hch13.trans (Chg.any hS);refine WH.growC (f := f64v) (news := R.take JJ) 4 rfl (by kernel_rfl) hS (by rfl) (fun _ => rfl) rfl rfl hg48 (by rw [List.length_take]; omega) (RW.slice_take hR.rw_.1 _) hS0 hs48 (fun b hb => Nat.lt_of_lt_of_le (hX13 b hb) hs48) (by rw [List.length_take]; simp only [List.length_nil]; omega) (by rw [List.length_take]; simp only [List.length_nil]; omega) rfl fun v52 w52 hg52 hS => ?_;have hs52 := hS.size;have hR := hR13.keep0 hS;have hT := hT13.keep0 hS;have hb5 := hb513.keep0 hS;have hch := hch13.trans (Chg.any hS);refine WH.growC (f := f64v) (news := R.drop (JJ + 1)) 9 rfl (by kernel_rfl) hS (by rfl) (fun _ => rfl) rfl rfl hg52 (by rw [List.length_drop]) (RW.slice_drop hR.rw_.1 (by omega) hR.rw_.2.2) hS0 hs52 (fun b hb => Nat.lt_of_lt_of_le (hX13 b hb) hs52) (by rw [List.nil_append, List.length_take, List.length_drop]; omega) (by rw [List.nil_append, List.length_take, List.length_drop]; omega) rfl fun v57 w57 hg57 hS => ?_;have hR := hR13.keep0 hS;have hT := hT13.keep0 hS;have hb5 := hb513.keep0 hS;have hch := hch13.trans (Chg.any hS);refine wh 10 rfl hS (fun _ _ => Ev.assign rfl) ?_
     refine WH.done (by kernel_rfl) (kr32 _ _ _ ?_);refine kh19 ?_;refine CW.region fun kR33 kr33 => ?_;refine zm rfl ?_
     first | refine WL.ev (Ev.addIn rfl rfl (by omega)) rfl ?_ | refine WL.ev (Ev.add rfl rfl) rfl ?_
     refine za rfl ?_;refine WL.nil (kr33 _ _ _ ?_);refine ⟨rfl, (k + 1, v47, T ++ [R.getD JJ 0], v57, R.take JJ ++ R.drop (JJ + 1)), ?_, ?_, ?_⟩
     ·
      exact SLp
     ·
      refine ⟨by dsimp only; have := pick_len (R := R) (j := JJ) (by omega); omega, pick_step hperm (by omega), hT, ?_, hb5, hch⟩;have hgf := hg57.mono (Nat.zero_le _) (X' := v47.ownBlock.toList) (fun b hb => .inl hb);rw [List.nil_append] at hgf;exact hgf
     ·
      show (R.take JJ ++ R.drop (JJ + 1)).length < R.length; have := pick_len (R := R) (j := JJ) (by omega); omega
   ·
    try simp only [qs] at hc2
    have hR0 : R = [] := List.length_eq_zero_iff.1 (by omega);subst hR0;rw [List.append_nil] at hperm;have hWT : ∀ x ∈ T, x < 18446744073709551616 := fun x hx => hWL x (hperm.mem_iff.1 hx);have hNT := hT.nf hWT (by omega);refine CW.exit ?_;refine kh13 (Sr fun _ kh34 => zm rfl (zf rfl (zl hb5 rfl rfl (zf rfl (zl hb5 rfl rfl (zf rfl (zl hb5 rfl rfl (zf rfl (zl hb5 rfl rfl ?_)))))))));refine WL.call hasF13 rfl rfl (Quantile_spec _ L nu de ru mo _ (hvL.keep0 hch) hnu hde (hg0.keep0 hch)) fun v w3 h' => ?_;obtain ⟨⟨x1, e1, rfl, hM1⟩, hC⟩ := h';have hNT := hNT.keep0 hC;have hch := hch.trans (Chg.any hC);have hb5 := hb5.keep0 hC;have hT := hT.keep0 hC;have hR := hR.keep0 hC;refine zm rfl (zx rfl rfl (zx rfl rfl (za rfl (za rfl (zz (kh34 (Sr fun _ kh36 => zm rfl (zf rfl (zl hb5 rfl rfl (zf rfl (zl hb5 rfl rfl (zf rfl (zl hb5 rfl rfl (zf rfl (zl hb5 rfl rfl ?_)))))))))))))));refine WL.call hasF13 rfl rfl (Quantile_spec _ T nu de ru mo _ hNT hnu hde (hg0.keep0 hch)) fun v w4 h' => ?_;obtain ⟨⟨x2, e2, rfl, hM2⟩, hC⟩ := h';obtain ⟨rfl, rfl⟩ := quant_perm hM2 hM1 hperm hWL;have hch := hch.trans (Chg.any hC);have hb5 := hb5.keep0 hC;have hT := hT.keep0 hC;have hR := hR.keep0 hC;refine zm rfl (zx rfl rfl (zx rfl rfl (za rfl (za rfl (zz (kh36 (Sr fun _ kh38 => zm rfl (zm rfl (zw rfl (zm rfl (zw rfl (zm rfl (zw rfl (zq rfl rfl ?_))))))))))))));rw [decide_eq_true rfl];refine zt rfl rfl (zm rfl (zw rfl (zm rfl (zw rfl (zm rfl (zw rfl ?_))))));refine WL.call hasF14 rfl rfl (qexact_spec _ _ _) fun v w5 h' => ?_;obtain ⟨rfl, rfl⟩ := h';rw [decide_eq_true rfl];refine zt rfl rfl (za rfl (zz (kh38 ?_)));refine CW.ret ?_;refine bodyA.ret1 rfl rfl ?_;exact ⟨rfl, hch⟩
 ·
  try simp only [qs] at hc1
  have hvL := hv0;have hWL := hWl;have hrL := hrl;refine CW.skip ?_;refine kh5 (Sr fun _ kh40 => ?_);refine WL.emptySlice (f := f64v) (lo := w.heap.size) (X := [b5]) hch.size (by intro b hb; simp only [List.mem_singleton] at hb; subst hb; exact hb5.lt) rfl fun v22 w22 hg22 hcm22 => ?_;have hch := hch.trans (Chg.any hcm22);have hb5 := hb5.keep0 hcm22;refine zm rfl ?_;refine WL.growR (f := f64v) (lo := w.heap.size) (X := [b5]) (l := []) (news := L) (by rfl) (fun i => rfl) rfl rfl hg22 (by first | rfl | (simp; done) | (simp; omega) | omega) (hrl.keep0 hch) (by first | omega | exact hch.size | exact hcr.size | exact Nat.le_refl _) (by intro b hb; simp only [List.mem_singleton] at hb; subst hb; exact hb5.lt) (by simp only [List.length_append, List.length_cons, List.length_nil]; omega) (by simp only [List.length_append, List.length_cons, List.length_nil]; omega) rfl fun v24 w24 hg24 hcg24 => ?_;have hch := GR.frame hg22 hcg24 hch (by first | omega | exact Nat.le_refl _);have hb5 := hb5.keep hcg24 (hg22.notin (by first | exact .inl (by simp) | exact .inr (by omega)));have hg22 := hg24;rw [show ([] ++ L) = L from by simp] at hg22;refine za rfl (zz (kh40 (Sr fun _ kh42 => za rfl (zz (kh42 (zc fun _ kh44 => Sr fun _ kh45 => za rfl (zz (kh45 ?_))))))));refine CW.block ?_;refine CW.loop (S := fun g : Nat × Value × List Nat × Value × List Nat => [(0, .slice al L.length cl), (1, .slice ao O.length co), (5, .pointer (some ⟨b5, 0, none⟩)), (7, .bool true), (8, g.2.2.2.1), (9, g.2.1), (10, .int .i64 (g.1 : Int))]) (Inv := KOr L b5 [.int .i64 nu, .int .i64 de, .int .i64 ru, .int .i64 mo] w) (mu := fun g => g.2.2.2.2.length) ((0, .slice none 0 0, [], v24, L)) ?_ ?_ ?_
  ·
   exact ⟨Nat.zero_add _, List.Perm.refl _, GR.nil, hg22.mono (Nat.zero_le _) (by intro b hb; cases hb), hb5, hch⟩
  ·
   exact SLp
  ·
   rintro ⟨k, vT, T, vR, R⟩ wr ⟨hk, hperm, hT, hR, hb5, hch⟩;dsimp only at hk hperm hT hR hb5 hch;dsimp only;obtain ⟨aR, cR, rfl, hcR, -⟩ := hR.row;have hTl : T.length + R.length = L.length := by rw [← List.length_append]; exact hperm.length_eq
   refine zc fun _ kh47 => Sr fun _ kh48 => zm rfl (zn rfl ?_);refine WL.ev (Ev.gtr rfl rfl) rfl ?_;refine zz (kh48 ?_);refine CW.cond rfl (fun hc4 => ?_) (fun hc4 => ?_)
   ·
    try simp only [qs] at hc4
    have hRp : 0 < R.length := by omega
    refine CW.skip ?_;refine kh47 (zc fun _ kh50 => ?_);refine CW.block ?_;refine Sr fun _ kh51 => ?_;obtain ⟨JJ, hJJ⟩ : ∃ JJ : Nat, JJ = 0 := ⟨_, rfl⟩;refine WL.ev (Ev.assign (v := .int .i64 (JJ : Int)) (by rw [hJJ]; rfl)) rfl ?_;refine zz (kh51 (zc fun _ kh53 => Sr fun _ kh54 => zm rfl (zm rfl (zn rfl ?_))));refine WL.ev (Ev.lss rfl rfl) rfl ?_;refine zz (kh54 ?_);refine CW.cond rfl (fun hc5 => ?_) (fun hc5 => ?_)
    ·
     try simp only [qs] at hc5
     refine CW.region fun kR56 kr56 => ?_;refine zm rfl (zm rfl ?_);refine WL.ev (Ev.ixR (k) rfl rfl (hrO.keep0 hch) (by omega) (by omega) (by simp; omega)) rfl ?_;refine WL.ev (Ev.load rfl rfl ((hrO.keep0 hch).i64 (by omega))) rfl ?_;refine zm rfl (zn rfl ?_);refine WL.call hasF24 rfl rfl (pick_spec (O.getD k 0) R.length _ (getD_bd hOb (by omega)) hRp (by omega)) fun v w6 h' => ?_;obtain ⟨⟨JJ, rfl, hj⟩, rfl⟩ := h';refine za rfl ?_;refine WL.nil (kr56 _ _ _ (kh53 ?_));refine Sr fun _ kh57 => zm rfl (zm rfl (zm rfl ?_));refine WL.ev (Ev.ixR (JJ) rfl rfl hR.rw_.1 (by omega) (by omega) (by simp; omega)) rfl ?_;refine WL.ev (Ev.load rfl rfl (RW.f64 hR.rw_.1 (by omega))) rfl ?_;refine WL.buildSlice (m := 1) (cs := [f64v (R.getD JJ 0)]) (by decide) (by decide) rfl (by kernel_rfl) rfl fun b46 w46 hn46 => ?_;have hcm46 := hn46.chg;have hge46 := hn46.ge;have hb46 : FB w46 b46 _ [R.getD JJ 0] := hn46.at_;have hgehch46 := Nat.le_trans hch.size hge46;have hch := hch.trans (Chg.any hcm46);have hneb546 : b5 ≠ b46 := by have := hb5.lt; omega
     have hb5 := hb5.keep0 hcm46;have hT := hT.keep0 hcm46;have hR := hR.keep0 hcm46;refine WL.growR (f := f64v) (lo := w.heap.size) (X := [b5]) (l := T) (news := [R.getD JJ 0]) (by rfl) (fun i => rfl) rfl rfl hT (by first | rfl | (simp; done) | (simp; omega) | omega) hb46.row (by first | omega | exact hch.size | exact hcr.size | exact Nat.le_refl _) (by intro b hb; simp only [List.mem_singleton] at hb; subst hb; exact hb5.lt) (by simp only [List.length_append, List.length_cons, List.length_nil]; omega) (by simp only [List.length_append, List.length_cons, List.length_nil]; omega) rfl fun v47 w47 hg47 hcg47 => ?_;have hch := GR.frame hT hcg47 hch (by first | omega | exact Nat.le_refl _);have hb5 := hb5.keep hcg47 (hT.notin (by first | exact .inl (by simp) | exact .inr (by omega)));have hT := hg47;have hR := hR.keep hcg47 (fun b hb => .inl hb);refine za rfl (zz (kh57 ?_));refine CW.regionHC 11 rfl hmix fun kR59 kr59 hS hdr => ?_;have hch := hch.trans (Chg.any hdr);have hb5 := hb5.keep0 hdr;have hT := hT.keep0 hdr;have hR := hR.keep0 hdr;have hch_r := hch;have hb5_r := hb5;have hlw := hch.size;have hS0 := hS.size;have hX13 := fun b (hb : b ∈ v47.ownBlock.toList) => hT.lt (Option.mem_toList.1 hb);have hR13 := hR;have hT13 := hT;have hb513 := hb5;have hch13 := hch;refine wh 1 rfl hS (fun _ _ => Ev.move rfl) (wh 2 rfl hS (fun _ _ => Ev.move rfl) (wh 3 rfl hS (fun _ _ => Ev.sliceHn (JJ) rfl rfl (by omega) (by omega)) (wh 5 rfl hS (fun _ _ => Ev.move rfl) (wh 6 rfl hS (fun _ _ => Ev.move rfl) (wh 7 rfl hS (fun _ _ => Ev.addIn rfl rfl (by omega)) (wh 8 rfl hS (fun _ _ => Ev.sliceLn ((JJ + 1)) rfl rfl (by omega) (by omega)) ?_))))));refine WH.emptyC (f := f64v) (X := v47.ownBlock.toList) 0 rfl (by kernel_rfl) hS (Nat.le_refl _) hX13 rfl fun v48 w48 hg48 hS => ?_;have hs48 := hS.size;have hR := hR13.keep0 hS;have hT := hT13.keep0 hS;have hb5 := hb513.keep0 hS;have hch := hch13.trans (Chg.any hS);refine WH.growC (f := f64v) (news := R.take JJ) 4 rfl (by kernel_rfl) hS (by rfl) (fun _ => rfl) rfl rfl hg48 (by rw [List.length_take]; omega) (RW.slice_take hR.rw_.1 _) hS0 hs48 (fun b hb => Nat.lt_of_lt_of_le (hX13 b hb) hs48) (by rw [List.length_take]; simp only [List.length_nil]; omega) (by rw [List.length_take]; simp only [List.length_nil]; omega) rfl fun v52 w52 hg52 hS => ?_;have hs52 := hS.size;have hR := hR13.keep0 hS;have hT := hT13.keep0 hS;have hb5 := hb513.keep0 hS;have hch := hch13.trans (Chg.any hS);refine WH.growC (f := f64v) (news := R.drop (JJ + 1)) 9 rfl (by kernel_rfl) hS (by rfl) (fun _ => rfl) rfl rfl hg52 (by rw [List.length_drop]) (RW.slice_drop hR.rw_.1 (by omega) hR.rw_.2.2) hS0 hs52 (fun b hb => Nat.lt_of_lt_of_le (hX13 b hb) hs52) (by rw [List.nil_append, List.length_take, List.length_drop]; omega) (by rw [List.nil_append, List.length_take, List.length_drop]; omega) rfl fun v57 w57 hg57 hS => ?_;have hR := hR13.keep0 hS;have hT := hT13.keep0 hS;have hb5 := hb513.keep0 hS;have hch := hch13.trans (Chg.any hS);refine wh 10 rfl hS (fun _ _ => Ev.assign rfl) ?_
     refine WH.done (by kernel_rfl) (kr59 _ _ _ ?_);refine kh50 ?_;refine CW.region fun kR60 kr60 => ?_;refine zm rfl ?_
     first | refine WL.ev (Ev.addIn rfl rfl (by omega)) rfl ?_ | refine WL.ev (Ev.add rfl rfl) rfl ?_
     refine za rfl ?_;refine WL.nil (kr60 _ _ _ ?_);refine ⟨rfl, (k + 1, v47, T ++ [R.getD JJ 0], v57, R.take JJ ++ R.drop (JJ + 1)), ?_, ?_, ?_⟩
     ·
      exact SLp
     ·
      refine ⟨by dsimp only; have := pick_len (R := R) (j := JJ) (by omega); omega, pick_step hperm (by omega), hT, ?_, hb5, hch⟩;have hgf := hg57.mono (Nat.zero_le _) (X' := v47.ownBlock.toList) (fun b hb => .inl hb);rw [List.nil_append] at hgf;exact hgf
     ·
      show (R.take JJ ++ R.drop (JJ + 1)).length < R.length; have := pick_len (R := R) (j := JJ) (by omega); omega
    ·
     try simp only [qs] at hc5
     refine CW.skip ?_;refine kh53 (Sr fun _ kh61 => zm rfl (zm rfl (zm rfl ?_)));refine WL.ev (Ev.ixR (JJ) rfl rfl hR.rw_.1 (by omega) (by omega) (by simp; omega)) rfl ?_;refine WL.ev (Ev.load rfl rfl (RW.f64 hR.rw_.1 (by omega))) rfl ?_;refine WL.buildSlice (m := 1) (cs := [f64v (R.getD JJ 0)]) (by decide) (by decide) rfl (by kernel_rfl) rfl fun b46 w46 hn46 => ?_;have hcm46 := hn46.chg;have hge46 := hn46.ge;have hb46 : FB w46 b46 _ [R.getD JJ 0] := hn46.at_;have hgehch46 := Nat.le_trans hch.size hge46;have hch := hch.trans (Chg.any hcm46);have hneb546 : b5 ≠ b46 := by have := hb5.lt; omega
     have hb5 := hb5.keep0 hcm46;have hT := hT.keep0 hcm46;have hR := hR.keep0 hcm46;refine WL.growR (f := f64v) (lo := w.heap.size) (X := [b5]) (l := T) (news := [R.getD JJ 0]) (by rfl) (fun i => rfl) rfl rfl hT (by first | rfl | (simp; done) | (simp; omega) | omega) hb46.row (by first | omega | exact hch.size | exact hcr.size | exact Nat.le_refl _) (by intro b hb; simp only [List.mem_singleton] at hb; subst hb; exact hb5.lt) (by simp only [List.length_append, List.length_cons, List.length_nil]; omega) (by simp only [List.length_append, List.length_cons, List.length_nil]; omega) rfl fun v47 w47 hg47 hcg47 => ?_;have hch := GR.frame hT hcg47 hch (by first | omega | exact Nat.le_refl _);have hb5 := hb5.keep hcg47 (hT.notin (by first | exact .inl (by simp) | exact .inr (by omega)));have hT := hg47;have hR := hR.keep hcg47 (fun b hb => .inl hb);refine za rfl (zz (kh61 ?_));refine CW.regionHC 11 rfl hmix fun kR63 kr63 hS hdr => ?_;have hch := hch.trans (Chg.any hdr);have hb5 := hb5.keep0 hdr;have hT := hT.keep0 hdr;have hR := hR.keep0 hdr;have hch_r := hch;have hb5_r := hb5;have hlw := hch.size;have hS0 := hS.size;have hX13 := fun b (hb : b ∈ v47.ownBlock.toList) => hT.lt (Option.mem_toList.1 hb);have hR13 := hR;have hT13 := hT;have hb513 := hb5;have hch13 := hch;refine wh 1 rfl hS (fun _ _ => Ev.move rfl) (wh 2 rfl hS (fun _ _ => Ev.move rfl) (wh 3 rfl hS (fun _ _ => Ev.sliceHn (JJ) rfl rfl (by omega) (by omega)) (wh 5 rfl hS (fun _ _ => Ev.move rfl) (wh 6 rfl hS (fun _ _ => Ev.move rfl) (wh 7 rfl hS (fun _ _ => Ev.addIn rfl rfl (by omega)) (wh 8 rfl hS (fun _ _ => Ev.sliceLn ((JJ + 1)) rfl rfl (by omega) (by omega)) ?_))))));refine WH.emptyC (f := f64v) (X := v47.ownBlock.toList) 0 rfl (by kernel_rfl) hS (Nat.le_refl _) hX13 rfl fun v48 w48 hg48 hS => ?_;have hs48 := hS.size;have hR := hR13.keep0 hS;have hT := hT13.keep0 hS;have hb5 := hb513.keep0 hS;have hch := hch13.trans (Chg.any hS);refine WH.growC (f := f64v) (news := R.take JJ) 4 rfl (by kernel_rfl) hS (by rfl) (fun _ => rfl) rfl rfl hg48 (by rw [List.length_take]; omega) (RW.slice_take hR.rw_.1 _) hS0 hs48 (fun b hb => Nat.lt_of_lt_of_le (hX13 b hb) hs48) (by rw [List.length_take]; simp only [List.length_nil]; omega) (by rw [List.length_take]; simp only [List.length_nil]; omega) rfl fun v52 w52 hg52 hS => ?_;have hs52 := hS.size;have hR := hR13.keep0 hS;have hT := hT13.keep0 hS;have hb5 := hb513.keep0 hS;have hch := hch13.trans (Chg.any hS);refine WH.growC (f := f64v) (news := R.drop (JJ + 1)) 9 rfl (by kernel_rfl) hS (by rfl) (fun _ => rfl) rfl rfl hg52 (by rw [List.length_drop]) (RW.slice_drop hR.rw_.1 (by omega) hR.rw_.2.2) hS0 hs52 (fun b hb => Nat.lt_of_lt_of_le (hX13 b hb) hs52) (by rw [List.nil_append, List.length_take, List.length_drop]; omega) (by rw [List.nil_append, List.length_take, List.length_drop]; omega) rfl fun v57 w57 hg57 hS => ?_;have hR := hR13.keep0 hS;have hT := hT13.keep0 hS;have hb5 := hb513.keep0 hS;have hch := hch13.trans (Chg.any hS);refine wh 10 rfl hS (fun _ _ => Ev.assign rfl) ?_
     refine WH.done (by kernel_rfl) (kr63 _ _ _ ?_);refine kh50 ?_;refine CW.region fun kR64 kr64 => ?_;refine zm rfl ?_
     first | refine WL.ev (Ev.addIn rfl rfl (by omega)) rfl ?_ | refine WL.ev (Ev.add rfl rfl) rfl ?_
     refine za rfl ?_;refine WL.nil (kr64 _ _ _ ?_);refine ⟨rfl, (k + 1, v47, T ++ [R.getD JJ 0], v57, R.take JJ ++ R.drop (JJ + 1)), ?_, ?_, ?_⟩
     ·
      exact SLp
     ·
      refine ⟨by dsimp only; have := pick_len (R := R) (j := JJ) (by omega); omega, pick_step hperm (by omega), hT, ?_, hb5, hch⟩;have hgf := hg57.mono (Nat.zero_le _) (X' := v47.ownBlock.toList) (fun b hb => .inl hb);rw [List.nil_append] at hgf;exact hgf
     ·
      show (R.take JJ ++ R.drop (JJ + 1)).length < R.length; have := pick_len (R := R) (j := JJ) (by omega); omega
   ·
    try simp only [qs] at hc4
    have hR0 : R = [] := List.length_eq_zero_iff.1 (by omega);subst hR0;rw [List.append_nil] at hperm;have hWT : ∀ x ∈ T, x < 18446744073709551616 := fun x hx => hWL x (hperm.mem_iff.1 hx);have hNT := hT.nf hWT (by omega);refine CW.exit ?_;refine kh44 (Sr fun _ kh65 => zm rfl (zf rfl (zl hb5 rfl rfl (zf rfl (zl hb5 rfl rfl (zf rfl (zl hb5 rfl rfl (zf rfl (zl hb5 rfl rfl ?_)))))))));refine WL.call hasF13 rfl rfl (Quantile_spec _ L nu de ru mo _ (hvL.keep0 hch) hnu hde (hg0.keep0 hch)) fun v w7 h' => ?_;obtain ⟨⟨x1, e1, rfl, hM1⟩, hC⟩ := h';have hNT := hNT.keep0 hC;have hch := hch.trans (Chg.any hC);have hb5 := hb5.keep0 hC;have hT := hT.keep0 hC;have hR := hR.keep0 hC;refine zm rfl (zx rfl rfl (zx rfl rfl (za rfl (za rfl (zz (kh65 (Sr fun _ kh67 => zm rfl (zf rfl (zl hb5 rfl rfl (zf rfl (zl hb5 rfl rfl (zf rfl (zl hb5 rfl rfl (zf rfl (zl hb5 rfl rfl ?_)))))))))))))));refine WL.call hasF13 rfl rfl (Quantile_spec _ T nu de ru mo _ hNT hnu hde (hg0.keep0 hch)) fun v w8 h' => ?_;obtain ⟨⟨x2, e2, rfl, hM2⟩, hC⟩ := h';obtain ⟨rfl, rfl⟩ := quant_perm hM2 hM1 hperm hWL;have hch := hch.trans (Chg.any hC);have hb5 := hb5.keep0 hC;have hT := hT.keep0 hC;have hR := hR.keep0 hC;refine zm rfl (zx rfl rfl (zx rfl rfl (za rfl (za rfl (zz (kh67 (Sr fun _ kh69 => zm rfl (zm rfl (zw rfl (zm rfl (zw rfl (zm rfl (zw rfl (zq rfl rfl ?_))))))))))))));rw [decide_eq_true rfl];refine zt rfl rfl (zm rfl (zw rfl (zm rfl (zw rfl (zm rfl (zw rfl ?_))))));refine WL.call hasF14 rfl rfl (qexact_spec _ _ _) fun v w9 h' => ?_;obtain ⟨rfl, rfl⟩ := h';rw [decide_eq_true rfl];refine zt rfl rfl (za rfl (zz (kh69 ?_)));refine CW.ret ?_;refine bodyA.ret1 rfl rfl ?_;exact ⟨rfl, hch⟩

end Go.Proofs.YtbdkecpalhpmdaaGreatDoor

/- What came in, opened; the listed table, opened. No condition. -/
namespace Go.Proofs.YtbdkecpalhpmdaaGreatDoor
open Go Sx Wd
open Go.ChangeShapes Go.WideShapes Go.ChangeAt Go.WideMaps Go.WideElems Go.RowKit

theorem own : ownKnob Tryz.prog.godebug = none := by kernel_rfl
theorem laidOut : laidOutB Tryz.prog = true := by kernel_rfl
theorem door_met (os : Os) (args : Array Value) : laidMetH Tryz.prog [("math/bits.deBruijn32tab", Rows.laid_math_bits_deBruijn32tab)] ((World.doorLaid Tryz.prog 400 os).forCall (fun _ _ => 0) ⟨#[], args, []⟩).memory :=
  laidMetH_of_parts3 (fuel := 8) (laidMet_of_run' 8 (by kernel_rfl) (by kernel_rfl)) (by kernel_rfl) (by kernel_rfl)
theorem gDeb : Tryz.prog.globalNamed "math/bits.deBruijn32tab" = some 1 := by kernel_rfl
theorem tDeb : (Tryz.prog.globals[1]?).map (·.type) = some 220 := by kernel_rfl
theorem deb_data {H : Type} : (Rows.laid_math_bits_deBruijn32tab : DataW H) = .agg (deb.map fun n : Nat => .lit (.int .u8 (n : Int))) := rfl
theorem gw_of_laid {W : World} (h : laidMetH Tryz.prog [("math/bits.deBruijn32tab", Rows.laid_math_bits_deBruijn32tab)] W) : GW W := by
  rw [MakeChecks.laidMetH_plain _ _ _ (by kernel_rfl)] at h
  obtain ⟨ps, ⟨g0, t0, cs0, f0, p0, q0, hg0, ht0, hv0, hd0, _, _⟩, _, _⟩ := h
  obtain rfl := Option.some.inj (gDeb.symm.trans hg0)
  obtain rfl := Option.some.inj (tDeb.symm.trans ht0)
  obtain ⟨xs, m1, rfl, hx1, hlen, hn3, hel⟩ := DataW.trod_array Tryz.underlying220 hd0
  have c8 : Tryz.prog.cellsOf 5 = 1 := by kernel_rfl
  simp only [Prod.mk.injEq] at hx1
  intro i hi
  have hi' := hel i hi
  rw [c8, Nat.mul_one] at hi'
  have hxi : xs[i]? = some (xs[i]'(by omega)) := List.getElem?_eq_getElem (by omega)
  rw [hxi] at hi'
  obtain ⟨k, e1, e2, _⟩ := DataW.trod_int Tryz.underlying5 hi'
  have hxs : (deb.map fun n : Nat => (DataW.lit (.int .u8 (n : Int)) : DataW Unit)) = xs.map (·.1) := by
    have := hx1.1
    rw [deb_data] at this
    exact DataW.agg.inj this
  have hdat : (deb.map fun n : Nat => (DataW.lit (.int .u8 (n : Int)) : DataW Unit))[i]? = some (.lit (.int .u8 ((deb.getD i 0 : Nat) : Int))) := by
    rw [List.getElem?_map, List.getElem?_eq_getElem (show i < deb.length from hi), List.getD_eq_getElem?_getD, List.getElem?_eq_getElem (show i < deb.length from hi)]; rfl
  rw [hxs, List.getElem?_map, hxi] at hdat
  simp only [Option.map_some] at hdat
  rw [e2] at hdat
  have hk : k = ((deb.getD i 0 : Nat) : Int) := by
    have := Option.some.inj hdat
    simp only [DataW.lit.injEq, Lit.int.injEq, true_and] at this
    exact this
  subst hk
  have hc : cs0[i]? = some (.int .u8 ((deb.getD i 0 : Nat) : Int)) := by
    have h3 : (cs0.toList.drop i)[0]? = some (.int .u8 ((deb.getD i 0 : Nat) : Int)) := by
      have := congrArg (fun l : List Value => l[0]?) e1
      simpa using this
    simpa using h3
  have := World.var?_cell hg0 hv0 i
  rw [hc] at this
  exact this

/-- One float cell, read. -/
theorem float_cell {H : Type} {enc : TypeId × Value → H} {P : Program} {w : World} {base : Nat} {spare : Nat → Bool} {held : Bool} {n : Nat} {e : TypeId} {v : Value} {x : DataW H × List MemPlace} (he : P.underlying e = some (.float .f64)) (h : DataW.trod enc P w base spare held n e [v] = some x) : ∃ b, v = .float .f64 b ∧ b < 18446744073709551616 := by
  cases n with
  | zero => simp [DataW.trod] at h
  | succ n =>
    simp only [DataW.trod, he] at h
    cases v <;> simp_all
    rename_i k b
    cases k <;> simp_all [Lit.wf]
/-- A slice of floats that came in. -/
theorem open_nf {H : Type} {enc : TypeId × Value → H} {P : Program} {w : World} {base b0 : Nat} {spare : Nat → Bool} {held : Bool} {t e : TypeId} {v : Value} {d : DataW H} {ps : List MemPlace} (ht : P.underlying t = some (.slice e)) (he : P.underlying e = some (.float .f64)) (hc : P.cellsOf e = 1) (hb : P.bytesOf e = 8) (hval : Value.okWide P w .any b0 t v) (h : DataW.Trod enc P w base spare held t v d ps)
    (hsz : ∀ elems spare', d = .slice elems spare' → (elems.length + spare'.length) * P.bytesOf e ≤ reachBytes) : ∃ l : List Nat, NF w v l ∧ l.length ≤ 17592186044415 := by
  obtain ⟨a, len, cap, rfl⟩ := okWide_slice ht hval
  obtain ⟨fuel, hf⟩ := h
  rcases Go.Deep.open_slice1 ht hc hf with ⟨hcs, _⟩ | ⟨ad, l, c, m, n, V, D, Pl, hcs, _, hlc, hcm, hm, hx, hV⟩
  · simp [Value.cells] at hcs
    obtain ⟨rfl, rfl, rfl⟩ := hcs
    exact ⟨[], ⟨⟨none, 0, rfl, Nat.le_refl _, RW.nil⟩, fun x hx => (by cases hx), by decide⟩, by decide⟩
  · simp [Value.cells] at hcs
    obtain ⟨rfl, rfl, rfl⟩ := hcs
    have hlm : len ≤ m := by rw [hm]; split <;> omega
    simp only [Prod.mk.injEq] at hx
    have h8 := hsz _ _ hx.1
    rw [hb] at h8
    simp only [List.length_map, List.length_range] at h8
    have hr : reachBytes = 140737488351232 := by decide
    have hlen : len ≤ 17592186044415 := by omega
    obtain ⟨f, hf2⟩ := Go.Deep.choose_lt (α := Nat) (n := len) (p := fun i b => V i = .float .f64 b ∧ b < 18446744073709551616) (fun i hi => float_cell he (hV i (by omega)).2)
    refine ⟨(List.range len).map f, ⟨⟨some ad, cap, by simp, by simpa using hlc, fun i y hy => ?_⟩, fun y hy => ?_, by simp; omega⟩, by simpa using hlen⟩
    · have hi : i < len := by
        by_cases q : i < len
        · exact q
        · rw [List.getElem?_eq_none (by simp; omega)] at hy; cases hy
      simp [List.getElem?_range hi] at hy
      subst hy
      exact ⟨ad, rfl, by rw [(hV i (by omega)).1, (hf2 i hi).1]; rfl⟩
    · obtain ⟨i, hi, rfl⟩ := List.mem_map.1 hy
      exact (hf2 i (List.mem_range.1 hi)).2
end Go.Proofs.YtbdkecpalhpmdaaGreatDoor

/- A share, a rule and a mode that came in. No condition. -/
namespace Go.Proofs.YtbdkecpalhpmdaaGreatDoor
open Go Sx Wd
open Go.ChangeShapes Go.WideShapes Go.ChangeAt Go.WideMaps Go.WideElems Go.RowKit

theorem trod_four {H : Type} {enc : TypeId × Value → H} {P : Program} {w : World} {base : Nat} {spare : Nat → Bool} {held : Bool} {t : TypeId} {f0 f1 f2 f3 : Field} {fuel : Nat} {cs : List Value} {x : DataW H × List MemPlace} (ht : P.underlying t = some (.struct #[f0, f1, f2, f3])) (h : DataW.trod enc P w base spare held fuel t cs = some x) :
    ∃ y0 y1 y2 y3 n, DataW.trod enc P w base spare held n f0.type ((cs.drop f0.offset).take (P.cellsOf f0.type)) = some y0 ∧ DataW.trod enc P w base spare held n f1.type ((cs.drop f1.offset).take (P.cellsOf f1.type)) = some y1 ∧
      DataW.trod enc P w base spare held n f2.type ((cs.drop f2.offset).take (P.cellsOf f2.type)) = some y2 ∧ DataW.trod enc P w base spare held n f3.type ((cs.drop f3.offset).take (P.cellsOf f3.type)) = some y3 := by
  obtain ⟨xs, n, _, rfl, hl, hlen, hf⟩ := DataW.trod_struct ht h
  match xs, hlen with
  | [y0, y1, y2, y3], _ => exact ⟨y0, y1, y2, y3, n, by simpa using hf 0 f0 rfl, by simpa using hf 1 f1 rfl, by simpa using hf 2 f2 rfl, by simpa using hf 3 f3 rfl⟩
theorem cell_i64 {H : Type} {enc : TypeId × Value → H} {P : Program} {w : World} {base : Nat} {spare : Nat → Bool} {held : Bool} {n : Nat} {e : TypeId} {v : Value} {x : DataW H × List MemPlace} (he : P.underlying e = some (.int .i64)) (h : DataW.trod enc P w base spare held n e [v] = some x) : ∃ z, v = .int .i64 z ∧ (-9223372036854775808 ≤ z ∧ z ≤ 9223372036854775807) := by
  obtain ⟨z, e1, _, e3⟩ := DataW.trod_int he h
  exact ⟨z, by simpa using e1, bounds_i64 e3⟩
set_option maxRecDepth 100000 in
theorem open_ask {H : Type} {enc : TypeId × Value → H} {w : World} {base b0 : Nat} {spare : Nat → Bool} {held : Bool} {v : Value} {d : DataW H} {ps : List MemPlace} (hval : Value.okWide Tryz.prog w .any b0 30 v) (h : DataW.Trod enc Tryz.prog w base spare held 30 v d ps) :
    ∃ p q r s : Int, v = .agg [.int .i64 p, .int .i64 q, .int .i64 r, .int .i64 s].toArray ∧ (-9223372036854775808 ≤ p ∧ p ≤ 9223372036854775807) ∧ (-9223372036854775808 ≤ q ∧ q ≤ 9223372036854775807) ∧ (-9223372036854775808 ≤ r ∧ r ≤ 9223372036854775807) ∧ (-9223372036854775808 ≤ s ∧ s ≤ 9223372036854775807) := by
  obtain ⟨fuel, hf⟩ := h
  have hu := Tryz.underlying30
  simp only [Value.okWide, hu] at hval
  obtain ⟨cs, rfl, hsz, _⟩ := hval
  have hc4 : Tryz.prog.cellsOf 30 = 4 := by kernel_rfl
  rw [hc4] at hsz
  obtain ⟨y0, y1, y2, y3, m, h0, h1, h2, h3⟩ := trod_four hu hf
  have c1 : Tryz.prog.cellsOf 3 = 1 := by kernel_rfl
  obtain ⟨l⟩ := cs
  match l, hsz with
  | [a, b, c, d], _ =>
    simp only [Value.cells] at h0 h1 h2 h3
    rw [c1] at h0 h1 h2 h3
    obtain ⟨p, rfl, hp⟩ := cell_i64 Tryz.underlying3 (show DataW.trod enc Tryz.prog w base spare held m 3 [a] = some y0 from by simpa using h0)
    obtain ⟨q, rfl, hq⟩ := cell_i64 Tryz.underlying3 (show DataW.trod enc Tryz.prog w base spare held m 3 [b] = some y1 from by simpa using h1)
    obtain ⟨r, rfl, hr⟩ := cell_i64 Tryz.underlying3 (show DataW.trod enc Tryz.prog w base spare held m 3 [c] = some y2 from by simpa using h2)
    obtain ⟨s, rfl, hs⟩ := cell_i64 Tryz.underlying3 (show DataW.trod enc Tryz.prog w base spare held m 3 [d] = some y3 from by simpa using h3)
    exact ⟨p, q, r, s, rfl, hp, hq, hr, hs⟩
end Go.Proofs.YtbdkecpalhpmdaaGreatDoor

/- A list of integers that came in. No condition. -/
namespace Go.Proofs.YtbdkecpalhpmdaaGreatDoor
open Go Sx Wd
open Go.ChangeShapes Go.WideShapes Go.ChangeAt Go.WideMaps Go.WideElems Go.RowKit

theorem open_ints {H : Type} {enc : TypeId × Value → H} {P : Program} {w : World} {base b0 : Nat} {spare : Nat → Bool} {held : Bool} {t e : TypeId} {v : Value} {d : DataW H} {ps : List MemPlace} (ht : P.underlying t = some (.slice e)) (he : P.underlying e = some (.int .i64)) (hc : P.cellsOf e = 1) (hb : P.bytesOf e = 8) (hval : Value.okWide P w .any b0 t v) (h : DataW.Trod enc P w base spare held t v d ps)
    (hsz : ∀ elems spare', d = .slice elems spare' → (elems.length + spare'.length) * P.bytesOf e ≤ reachBytes) : ∃ l : List Int, NI w v l := by
  obtain ⟨a, len, cap, rfl⟩ := okWide_slice ht hval
  obtain ⟨fuel, hf⟩ := h
  rcases Go.Deep.open_slice1 ht hc hf with ⟨hcs, _⟩ | ⟨ad, l, c, m, n, V, D, Pl, hcs, _, hlc, hcm, hm, hx, hV⟩
  · simp [Value.cells] at hcs
    obtain ⟨rfl, rfl, rfl⟩ := hcs
    exact ⟨[], ⟨⟨none, 0, rfl, RW.nil⟩, fun x hx => (by cases hx), by decide⟩⟩
  · simp [Value.cells] at hcs
    obtain ⟨rfl, rfl, rfl⟩ := hcs
    have hlm : len ≤ m := by rw [hm]; split <;> omega
    simp only [Prod.mk.injEq] at hx
    have h8 := hsz _ _ hx.1
    rw [hb] at h8
    simp only [List.length_map, List.length_range] at h8
    have hr : reachBytes = 140737488351232 := by decide
    have hlen : len ≤ 17592186044415 := by omega
    obtain ⟨f, hf2⟩ := Go.Deep.choose_lt (α := Int) (n := len) (p := fun i b => V i = .int .i64 b ∧ (-9223372036854775808 ≤ b ∧ b ≤ 9223372036854775807)) (fun i hi => cell_i64 he (hV i (by omega)).2)
    refine ⟨(List.range len).map f, ⟨⟨some ad, cap, by simp, fun i y hy => ?_⟩, fun y hy => ?_, by simp; omega⟩⟩
    · have hi : i < len := by
        by_cases q : i < len
        · exact q
        · rw [List.getElem?_eq_none (by simp; omega)] at hy; cases hy
      simp [List.getElem?_range hi] at hy
      subst hy
      exact ⟨ad, rfl, by rw [(hV i (by omega)).1, (hf2 i hi).1]; rfl⟩
    · obtain ⟨i, hi, rfl⟩ := List.mem_map.1 hy
      exact (hf2 i (List.mem_range.1 hi)).2
end Go.Proofs.YtbdkecpalhpmdaaGreatDoor

/- The statement on QuantOrder. -/
namespace Go.Proofs.YtbdkecpalhpmdaaGreatDoor.quantOrder
open Go.ChangeShapes Go.WideShapes Go.ChangeAt Go.RowKit

set_option maxRecDepth 100000 in
theorem lifted (os : Os) (started : os.Started) (H : Type) (enc : TypeId × Value → H) :
    ReturnsInHanded {} Tryz.checked os 8 .any (fun w args => (Rows.quantOrderSpec.pre enc Tryz.prog Tryz.f8 Rows.quantOrderRow.domain false w args ∧ laidMetH Tryz.prog [("math/bits.deBruijn32tab", Rows.laid_math_bits_deBruijn32tab)] w) ∧ sizedMet enc Tryz.prog Tryz.f8 (OpenSpec.ofChange Rows.quantOrderSpec) false w args) (Rows.quantOrderSpec.post enc Tryz.prog Tryz.f8 false true false false) := by
  refine returnsInHanded_of_change_and (C := Tryz.checked) (X := fun w _ => laidMetH Tryz.prog [("math/bits.deBruijn32tab", Rows.laid_math_bits_deBruijn32tab)] w) (fun _ _ _ hh h => h.of_heap hh) own started (by kernel_rfl) Tryz.func8
    (ChangeSpec.witness_shaped (enc := enc) (C := Tryz.checked) (os := os) (X := fun w _ => laidMetH Tryz.prog [("math/bits.deBruijn32tab", Rows.laid_math_bits_deBruijn32tab)] w) false (World.doorLaid Tryz.prog 400 os) #[.slice none 0 0, .slice none 0 0, .agg #[.int .i64 0, .int .i64 0, .int .i64 0, .int .i64 0]] 8 rfl (World.shaped_of_RefB (by kernel_rfl) (by kernel_rfl)) (by kernel_rfl) (by kernel_rfl) (by kernel_rfl) (door_met os _)) ?_
  intro W base args ds gs before hval0 hW hcnd hsz0 hL _
  have hGW := gw_of_laid hL
  have hval : ∀ (j : Nat) t v, Tryz.f8.params[j]? = some t → args[j]? = some v → Value.okWide Tryz.prog W .any base t v := hval0
  have hsz : (DataW.weightsEach Tryz.prog (Tryz.f8.params.toList ++ []) (ds ++ gs)).all (· ≤ reachBytes) = true := hsz0
  have hW' := hW
  obtain ⟨p, q, hA0, hV, rfl, hfz, hnd⟩ := hW
  have hA : DataW.TrodAll enc Tryz.prog W 0 (fun _ => true) true Tryz.f8.params.toList args.toList ds p := hA0
  rw [Tryz.params8] at hA hval hsz
  obtain ⟨v0, vs0, d0, ds0, p0, q0, hargs, rfl, rfl, h0, r0⟩ := trodAll_cons hA
  obtain ⟨v1, vs1, d1, ds1, p1, q1, rfl, rfl, rfl, h1, r1⟩ := trodAll_cons r0
  obtain ⟨v2, vs2, d2, ds2, p2, q2, rfl, rfl, rfl, h2, r2⟩ := trodAll_cons r1
  obtain ⟨rfl, rfl, rfl⟩ := trodAll_nil r2
  obtain rfl : args = #[v0, v1, v2] := by cases args; simp_all
  obtain ⟨rfl, rfl⟩ := trodVars_none hV
  simp only [List.append_nil] at hsz
  have k0 := h0
  have lt0 : ∀ x ∈ p0, x.block < W.heap.size := by obtain ⟨m, hm⟩ := k0; exact DataW.trod_lt m _ _ _ hm
  obtain ⟨l0, nf0⟩ := open_nf Tryz.underlying23 Tryz.underlying24 (by kernel_rfl) (by kernel_rfl) (hval 0 23 v0 rfl rfl) h0 (fun elems spare hd => sized_slice (j := 0) hsz rfl (by rw [← hd]; rfl) Tryz.underlying23)
  have k1 := h1
  have lt1 : ∀ x ∈ p1, x.block < W.heap.size := by obtain ⟨m, hm⟩ := k1; exact DataW.trod_lt m _ _ _ hm
  obtain ⟨m1, ni1⟩ := open_ints Tryz.underlying46 Tryz.underlying3 (by kernel_rfl) (by kernel_rfl) (hval 1 46 v1 rfl rfl) h1 (fun elems spare hd => sized_slice (j := 1) hsz rfl (by rw [← hd]; rfl) Tryz.underlying46)
  have k2 := h2
  have lt2 : ∀ x ∈ p2, x.block < W.heap.size := by obtain ⟨m, hm⟩ := k2; exact DataW.trod_lt m _ _ _ hm
  obtain ⟨p2_, q2_, r2_, s2_, rfl, kp2, kq2, kr2, ks2⟩ := open_ask (hval 2 30 v2 rfl rfl) h2
  clear hA0 hval0
  refine Calls.mono (QuantOrder_spec v0 l0 v1 m1 p2_ q2_ r2_ s2_ W hGW nf0 ni1 kp2 kq2 kr2 ks2) fun e W' ⟨v, he, hv, hc⟩ => ?_
  subst he
  subst hv
  have bel : Below W.heap.size W W' := hc.below
  exact ⟨_, rfl, _, _, _, [], _, [], hW', trodAll_mk1 (shut_bool Tryz.underlying4 _), (trodAll_cons_mk (Below.trod laidOut (by kernel_rfl) (of_decide_eq_true (by kernel_rfl)) k0 bel lt0) (trodAll_cons_mk (Below.trod laidOut (by kernel_rfl) (of_decide_eq_true (by kernel_rfl)) k1 bel lt1) (trodAll_cons_mk (Below.trod laidOut (by kernel_rfl) (of_decide_eq_true (by kernel_rfl)) k2 bel lt2) trodAll_mk0))), rfl, bel.frame _, fun h => by cases h⟩

theorem over : Rows.quantOrderRow.holds Tryz.pinned (OpenSpec.ofChange Rows.quantOrderSpec) :=
  OpenClaim.holds_of_wide 8 Tryz.f8 rfl rfl rfl rfl rfl rfl rfl ⟨rfl, rfl, rfl, rfl, rfl⟩ rfl rfl rfl rfl rfl (by kernel_rfl) Tryz.func8 (by kernel_rfl)
    (of_decide_eq_true (by kernel_rfl)) (by unfold Func.isWrapper; first | (rw [if_pos (by decide +kernel)]; kernel_rfl) | (rw [if_neg (by decide +kernel)]; exact ⟨rfl, rfl⟩))
    (fun os started H enc _ => lifted os started H enc)

theorem proved : Rows.QuantOrderCardSaid :=
  Claim7.holds_tied_plain_at .later [] [.data] true Rows.quantOrderCard.stood.harness false
    over (fun _ h => by cases h) (by kernel_rfl) (fun _ h => by cases h) quantOrder_row_tie rfl ⟨rfl, rfl⟩ (by kernel_rfl) rfl
    (fun f fn hf hfn => by
      obtain rfl : f = 8 := Option.some.inj ((show Tryz.prog.funcNamed "steelyard/steelyardlaw16.QuantOrder" = some 8 by kernel_rfl).symm.trans hf) |>.symm
      obtain rfl : fn = Tryz.f8 := (Option.some.inj (Tryz.func8.symm.trans hfn)).symm
      exact ⟨by kernel_rfl, fun j t ht => by
        have hm : t ∈ Tryz.f8.params.toList := by simpa using Array.mem_of_getElem? ht
        have hall : (Tryz.f8.params.toList.all fun u => !Tryz.prog.wantsStandIn u) = true := by kernel_rfl
        exact (show Tryz.prog.wantsStandIn t = false by simpa using List.all_eq_true.1 hall t hm)⟩)
    (by kernel_rfl)
end Go.Proofs.YtbdkecpalhpmdaaGreatDoor.quantOrder
