/- slices.SortFunc over entries (a number, a count) by the numbers' order: the row holds a permutation, sorted. No condition but that each number has 64 bits. -/
import Derived.Test.YtjlmenmlpmfokaaSortLay
import Derived.Test.YtjlmenmlpmfokaaTally
namespace Go.Proofs.Ytjlmenmlpmfokaa
open Go Sx Fl Ty Go.Sort Go.Shelf
set_option linter.unusedVariables false
set_option linter.unusedSimpArgs false

abbrev Ent := {p : Nat × Nat // p.1 < 18446744073709551616}
instance entInh : Inhabited Ent := ⟨⟨(0, 0), by decide⟩⟩
def encE (x : Ent) : List Value := [.float .f64 x.1.1, .int .i64 (x.1.2 : Int)]
def flatE (l : KV) : List Value := l.flatMap fun p => [.float .f64 p.1, .int .i64 (p.2 : Int)]
theorem flatE_cons (p : Nat × Nat) (l : KV) : flatE (p :: l) = .float .f64 p.1 :: .int .i64 (p.2 : Int) :: flatE l := rfl
theorem flatE_append (a b : KV) : flatE (a ++ b) = flatE a ++ flatE b := by simp [flatE]
theorem flatE_length (l : KV) : (flatE l).length = l.length * 2 := by
  induction l with
  | nil => rfl
  | cons p l ih => rw [flatE_cons]; simp [ih]; omega
theorem flatE_get : ∀ (l : KV) (i : Nat) (p : Nat × Nat), l[i]? = some p → (flatE l)[i * 2]? = some (.float .f64 p.1) ∧ (flatE l)[i * 2 + 1]? = some (.int .i64 (p.2 : Int))
  | [], i, p, h => by simp at h
  | q :: l, 0, p, h => by
    simp at h; subst h; rw [flatE_cons]; simp
  | q :: l, i + 1, p, h => by
    have := flatE_get l i p (by simpa using h)
    rw [flatE_cons, show (i + 1) * 2 = i * 2 + 1 + 1 by omega]
    simpa using this
theorem flatE_one (l : KV) : ∀ v ∈ flatE l, v.oneCell' = true := by
  intro v hv
  simp only [flatE, List.mem_flatMap] at hv
  obtain ⟨p, _, hv⟩ := hv
  simp at hv
  rcases hv with rfl | rfl <;> rfl
theorem flatK_eq (d : Array Ent) : flatK encE 2 d = (flatE (d.toList.map (·.1))).toArray := by
  refine ext_get! (by simp [size_flatK, flatE_length]) fun t ht => ?_
  have ht' : t < d.size * 2 := by simpa [size_flatK] using ht
  rw [get_flatK _ _ _ _ ht']
  have hi : t / 2 < d.size := by omega
  have hg : (d.toList.map (·.1))[t / 2]? = some d[t / 2].1 := by simp [hi]
  obtain ⟨h1, h2⟩ := flatE_get _ _ _ hg
  have hd : d[t / 2]! = d[t / 2] := getElem!_pos d _ hi
  rcases Nat.mod_two_eq_zero_or_one t with e | e
  · have et : t / 2 * 2 = t := by omega
    rw [et] at h1
    rw [e, hd]
    simp [encE, Array.getElem!_eq_getD, Array.getD_eq_getD_getElem?, h1]
  · have et : t / 2 * 2 + 1 = t := by omega
    rw [et] at h2
    rw [e, hd]
    simp [encE, Array.getElem!_eq_getD, Array.getD_eq_getD_getElem?, h2]

def cfE (x y : Ent) : Int := cmpI (key x.1.1) (key y.1.1)
theorem ltE (x y : Ent) : ltOf cfE x y = decide (key x.1.1 < key y.1.1) := by
  unfold ltOf cfE cmpI
  by_cases h1 : key x.1.1 < key y.1.1
  · simp [h1]
  · by_cases h2 : key y.1.1 < key x.1.1 <;> simp [h1, h2]
theorem swoE : SWO (ltOf cfE) where
  irrefl x := by rw [ltE]; simp
  trans x y z h1 h2 := by rw [ltE] at *; simp at *; omega
  ntrans x y z h1 h2 := by rw [ltE] at *; simp at *; omega

theorem isAggE (w : World) : (isAgg 50).run Try.prog w = .ok true w := (inferInstance : HasT Try.prog 50 _ _ _ _).isAgg
theorem sizeOfE (w : World) : (Go.sizeOf 50).run Try.prog w = .ok 2 w := (inferInstance : HasT Try.prog 50 _ _ _ _).sizeOf

theorem Ev.boxE {P : Program} {s : Sl} {w : World} {ty : TypeId} {x : Operand} {t : TypeId} {v : Value} {l : List Value} (hx : opnd s x = some v) (hl : v.cells = l.toArray) :
    Ev P s (.box t x) ty w (.pointer (some ⟨w.heap.size, 0, none⟩)) (w.alloc (.cells l.toArray t)) := fun ρ d' pos af g hρ => by
  have h1 := hρ x _ hx
  simp [execOp, h1, Instr.box, newVar, newRow, hl]
-- CLOSURE BEGIN
theorem cmp_closure (x y : Ent) (w : World) : Ret Try.prog 36 [.agg [.float .f64 x.1.1, .int .i64 (x.1.2 : Int)].toArray, .agg [.float .f64 y.1.1, .int .i64 (y.1.2 : Int)].toArray] w fun v w' => v = .int .i64 (cfE x y) ∧ w' = (w.alloc (.cells [.float .f64 x.1.1, .int .i64 (x.1.2 : Int)].toArray 50)).alloc (.cells [.float .f64 y.1.1, .int .i64 (y.1.2 : Int)].toArray 50) := by
  refine Ret.enter Try.func36 rfl rfl ?_
  refine CW.seq fun kK1 kh1 => ?_
  refine CW.region fun kR2 kr2 => ?_  -- region 0
  refine WL.ev (Ev.boxE rfl rfl) rfl ?_
  refine WL.ev (Ev.boxE rfl rfl) rfl ?_
  refine WL.ev (Ev.assign rfl) rfl ?_
  refine WL.nil (kr2 _ _ _ ?_)
  refine kh1 _ _ _ ?_
  refine CW.seq fun kK3 kh3 => ?_
  have g1 := heap_alloc2_old w (.cells [Value.float .f64 x.1.1, .int .i64 (x.1.2 : Int)].toArray 50) (.cells [Value.float .f64 y.1.1, .int .i64 (y.1.2 : Int)].toArray 50)
  have g2 := heap_alloc2_new w (.cells [Value.float .f64 x.1.1, .int .i64 (x.1.2 : Int)].toArray 50) (.cells [Value.float .f64 y.1.1, .int .i64 (y.1.2 : Int)].toArray 50)
  rw [World.size_alloc]
  refine CW.region fun kR4 kr4 => ?_  -- region 1
  refine WL.ev (Ev.fieldAddr rfl) rfl ?_
  refine WL.ev (Ev.load rfl rfl ((cell_at g1).trans rfl)) rfl ?_
  refine WL.ev (Ev.fieldAddr rfl) rfl ?_
  refine WL.ev (Ev.load rfl rfl ((cell_at g2).trans rfl)) rfl ?_
  refine WL.call hasF37 rfl rfl (bits_Order_spec _ _ x.2 y.2 _) fun v w1 h => ?_
  obtain ⟨rfl, rfl⟩ := h
  refine WL.ev (Ev.assign rfl) rfl ?_
  refine WL.nil (kr4 _ _ _ ?_)
  refine kh3 _ _ _ ?_
  refine CW.ret ?_
  refine bodyA.ret1 rfl rfl ?_
  exact ⟨rfl, rfl⟩

theorem grow_two (w : World) (A B : Obj) : (w.alloc A).alloc B = grow w #[A, B] := by rw [alloc_eq_grow, alloc_eq_grow, grow_grow]; rfl
theorem cmpLaysE (blk off size : Nat) (w : World) : CmpLays Try.prog 36 #[] encE 2 cfE blk off size w := fun _ _ _ _ x y =>
  Calls.mono (cmp_closure x y _) fun e w' ⟨v, he, hv, hw⟩ => ⟨by rw [he, hv], 0, _, hw.trans (grow_two _ _ _)⟩

theorem sortWorldK_heap {w : World} {blk n : Nat} {d : Array Ent} {os : Array Obj} {cur : Array Value} {T : TypeId} (h : w.heap[blk]? = some (.cells cur T (0, 0))) :
    Chg [blk] w (sortWorldK encE 2 w blk 0 n d os) ∧ (sortWorldK encE 2 w blk 0 n d os).heap[blk]? = some (.cells (putCells id 0 (flatK encE 2 d) cur) T (0, 0)) := by
  have hlt := lt_of_heap h
  unfold sortWorldK grow putRowK putRow mapBlock Go.Sort.ahead
  refine ⟨⟨rfl, rfl, rfl, by simp, fun k hk hn => ?_⟩, ?_⟩
  · simp only [List.mem_singleton] at hn
    rw [Array.getElem?_append_left (by simpa using hk), Array.getElem?_modify, if_neg (fun e => hn e.symm)]
  · rw [Array.getElem?_append_left (by simpa using hlt), Array.getElem?_modify, if_pos rfl, h]; rfl
theorem putCells_take (F : Array Value) (cur : Array Value) (h : F.size ≤ cur.size) : (putCells id 0 F cur).size = cur.size ∧ (putCells id 0 F cur).toList.take F.size = F.toList := by
  refine ⟨by simp [putCells], ?_⟩
  apply List.ext_getElem?
  intro i
  rw [List.getElem?_take]
  by_cases hi : i < F.size
  · rw [if_pos hi]
    have hc : i < cur.size := by omega
    have hF : F[i]! = F[i] := getElem!_pos F _ hi
    simp [putCells, hi, hc, hF]
  · rw [if_neg hi]
    simp; omega

def entsOf (l : KV) (h : ∀ p ∈ l, p.1 < 18446744073709551616) : List Ent := l.attach.map fun x => ⟨x.1, h x.1 x.2⟩
theorem entsOf_val (l : KV) (h : ∀ p ∈ l, p.1 < 18446744073709551616) : (entsOf l h).map (·.1) = l := by
  unfold entsOf
  rw [List.map_map]
  exact List.attach_map_subtype_val l

/-- THE SORT: the call's own row of entries comes sorted. -/
theorem sortE_spec (w : World) (blk cap : Nat) (l : KV) (hl : ∀ p ∈ l, p.1 < 18446744073709551616) (hsz : l.length < 4611686018427387904) (hown : w.ownsRow 0 50 2 (.slice (some ⟨blk, 0, none⟩) l.length cap) l.length (flatE l)) :
    Ret Try.prog 35 [.slice (some ⟨blk, 0, none⟩) l.length cap, .func (.func 36) #[] #[]] w fun v w' =>
      ∃ l' : KV, l'.Perm l ∧ l'.Pairwise (fun p q => key p.1 ≤ key q.1) ∧ Chg [blk] w w' ∧ w'.ownsRow 0 50 2 (.slice (some ⟨blk, 0, none⟩) l.length cap) l.length (flatE l') := by
  obtain ⟨hlen, hcase⟩ := hown
  rcases hcase with ⟨hbad, _⟩ | ⟨g, cp, cur, hv, _, hheap, hnc, hcm, hcs, htake⟩
  · cases hbad
  injection hv with hv1 hv2 hv3
  injection hv1 with hv1
  injection hv1 with hv1
  subst hv1 hv3
  have hd : (entsOf l hl).toArray.size = l.length := by simp [entsOf]
  have hF : flatK encE 2 (entsOf l hl).toArray = (flatE l).toArray := by
    rw [flatK_eq]; congr 2; exact entsOf_val l hl
  have hblk := lt_of_heap hheap
  have hH : HoldsK encE 2 w blk 0 (entsOf l hl).toArray := by
    intro j hj
    rw [hF] at hj ⊢
    have hj' : j < (flatE l).length := by simpa using hj
    refine ⟨?_, by rw [Nat.zero_add]; exact frozen_no hheap⟩
    rw [Nat.zero_add, cell_at' hheap]
    have : cur[j]? = (flatE l)[j]? := by
      rw [← htake, List.getElem?_take, if_pos (by omega)]; simp
    rw [this]
    simp [hj', getElem!_pos]
  have eg : ∀ args w, (callFunc 36 args).run Try.prog w = .ok (.enter 36 args) w := fun args w => HasF.run hasF36 args
  have hcon := AnyQ.slices_SortFunc Try.laySortLay 2 isAggE sizeOfE encE (fun _ => rfl) (fun x v hv => by simp [encE] at hv; rcases hv with rfl | rfl <;> rfl) cfE swoE 36 #[] blk 0 cap (entsOf l hl).toArray w eg (cmpLaysE blk 0 _ w) hH hblk (by rw [hd]; exact hsz)
  rw [hd] at hcon
  refine Calls.mono hcon fun e w' ⟨he, d', n, os, hp, hs, hw⟩ => ⟨_, he, ?_⟩
  obtain ⟨hps, _, hpp⟩ := hp
  have hsz' : d'.size = l.length := by rw [hps, hd]
  have hperm : d'.toList.Perm (entsOf l hl) := by
    have e1 : d'.extract 0 l.length = d' := by rw [← hsz']; simp
    have e2 : (entsOf l hl).toArray.extract 0 l.length = (entsOf l hl).toArray := by rw [← hd]; simp
    rw [e1, e2] at hpp
    exact hpp
  have hl' : (d'.toList.map (·.1)).length = l.length := by simp [hsz']
  subst hw
  obtain ⟨hc, hh⟩ := sortWorldK_heap (n := n) (d := d') (os := os) hheap
  have hFd : flatK encE 2 d' = (flatE (d'.toList.map (·.1))).toArray := flatK_eq d'
  have hFs : (flatK encE 2 d').size = l.length * 2 := by rw [hFd]; simp [flatE_length, hsz']
  obtain ⟨p1, p2⟩ := putCells_take (flatK encE 2 d') cur (by rw [hFs, hcs]; omega)
  refine ⟨d'.toList.map (·.1), ?_, ?_, hc, ?_, .inr ⟨blk, cap, _, rfl, Nat.zero_le _, hh, hnc, hcm, by rw [p1, hcs], ?_⟩⟩
  · have := hperm.map Subtype.val
    rw [entsOf_val] at this
    exact this
  · rw [List.pairwise_iff_getElem]
    intro i j hi hj hij
    have := hs i j (Nat.zero_le _) hij (by simpa [hsz'] using hj)
    rw [ltE] at this
    have hi' : i < d'.size := by simpa using hi
    have hj' : j < d'.size := by simpa using hj
    rw [getElem!_pos d' i hi', getElem!_pos d' j hj'] at this
    simp at this
    simpa using this
  · rw [flatE_length, hl']
  · rw [← hFs, p2, hFd]
theorem sortE_none (w : World) (cap : Nat) (p : Option Addr) :
    Ret Try.prog 35 [.slice p 0 cap, .func (.func 36) #[] #[]] w fun v w' => w = w' :=
  Calls.mono (AnyF.slices_SortFunc_none Try.laySortLay p cap _ w) fun e w' ⟨he, hw⟩ => ⟨_, he, hw.symm⟩
theorem sortE_any (w : World) (v : Value) (l : KV) (hl : ∀ p ∈ l, p.1 < 18446744073709551616) (hsz : l.length < 4611686018427387904) (hown : w.ownsRow 0 50 2 v l.length (flatE l)) :
    Ret Try.prog 35 [v, .func (.func 36) #[] #[]] w fun u w' =>
      ∃ l' : KV, l'.Perm l ∧ l'.Pairwise (fun p q => key p.1 ≤ key q.1) ∧ Chg v.ownBlock.toList w w' ∧ w'.ownsRow 0 50 2 v l.length (flatE l') := by
  have h0 := hown
  rcases hown.2 with ⟨rfl, hn⟩ | ⟨g, cap, cur, rfl, _⟩
  · obtain rfl : l = [] := List.eq_nil_of_length_eq_zero hn
    exact (sortE_none w 0 none).mono fun v w' e => by subst e; exact ⟨[], List.Perm.refl _, List.Pairwise.nil, Chg.refl _ _, h0⟩
  · exact sortE_spec w g cap l hl hsz h0

end Go.Proofs.Ytjlmenmlpmfokaa
