/- What each operation yields, read off the known slots: one lemma an operation. No condition. -/
import Derived.Test.YtjlmenmlpmfokaaSx
namespace Go.Proofs.Ytjlmenmlpmfokaa.Sx
open Go
set_option linter.unusedVariables false
set_option linter.unusedSimpArgs false

/-! ### How the world goes on -/
/-- Nothing that was there has turned, but for the blocks of T. -/
structure Chg (T : List Nat) (w w' : World) : Prop where
  os : w'.os = w.os
  tape : w'.tape = w.tape
  output : w'.output = w.output
  size : w.heap.size ≤ w'.heap.size
  block : ∀ k, k < w.heap.size → k ∉ T → w'.heap[k]? = w.heap[k]?
theorem Chg.refl (T : List Nat) (w : World) : Chg T w w := ⟨rfl, rfl, rfl, Nat.le_refl _, fun _ _ _ => rfl⟩
theorem Chg.trans {T : List Nat} {a b c : World} (h : Chg T a b) (k : Chg T b c) : Chg T a c :=
  ⟨k.os.trans h.os, k.tape.trans h.tape, k.output.trans h.output, Nat.le_trans h.size k.size, fun i hi hn => (k.block i (Nat.lt_of_lt_of_le hi h.size) hn).trans (h.block i hi hn)⟩
theorem Chg.mono {T T' : List Nat} {a b : World} (h : Chg T a b) (hT : ∀ x, x ∈ T → x ∈ T') : Chg T' a b :=
  ⟨h.os, h.tape, h.output, h.size, fun i hi hn => h.block i hi fun hm => hn (hT _ hm)⟩
theorem Chg.any {T : List Nat} {a b : World} (h : Chg [] a b) : Chg T a b := h.mono fun x hx => by cases hx
/-- A block that was not there when it all began does not count. -/
theorem Chg.drop {T : List Nat} {a b : World} {x : Nat} (h : Chg (x :: T) a b) (hx : a.heap.size ≤ x) : Chg T a b :=
  ⟨h.os, h.tape, h.output, h.size, fun i hi hn => h.block i hi fun hm => by
    cases hm with
    | head => omega
    | tail _ hm => exact hn hm⟩
theorem Chg.below {a b : World} (h : Chg [] a b) : RowKit.Below a.heap.size a b := ⟨h.os, h.tape, h.output, h.size, fun k hk => h.block k hk (by simp)⟩
theorem Chg.of_below {a b : World} (h : RowKit.Below a.heap.size a b) : Chg [] a b := ⟨h.os, h.tape, h.output, h.size, fun k hk _ => h.block k hk⟩
theorem Chg.heap {T : List Nat} {a b : World} (h : Chg T a b) {k : Nat} {o : Obj} (hk : a.heap[k]? = some o) (hn : k ∉ T) : b.heap[k]? = some o := by
  rw [h.block k ?_ hn]; exact hk
  by_cases hlt : k < a.heap.size
  · exact hlt
  · rw [Array.getElem?_eq_none (by omega)] at hk; cases hk
theorem lt_of_heap {w : World} {k : Nat} {o : Obj} (hk : w.heap[k]? = some o) : k < w.heap.size := by
  by_cases hlt : k < w.heap.size
  · exact hlt
  · rw [Array.getElem?_eq_none (by omega)] at hk; cases hk
theorem Chg.drew (T : List Nat) (w : World) : Chg T w w.drew := ⟨rfl, rfl, rfl, Nat.le_refl _, fun _ _ _ => rfl⟩

/-- A new block. -/
structure New (w : World) (b : Nat) (o : Obj) (w' : World) : Prop where
  chg : Chg [] w w'
  at_ : w'.heap[b]? = some o
  is : b = w.heap.size
  size : w'.heap.size = w.heap.size + 1
theorem new_alloc (w : World) (o : Obj) : New w w.heap.size o (w.alloc o) :=
  ⟨⟨rfl, rfl, rfl, by simp, fun k hk _ => RowKit.Below.heap_alloc _ _ _ hk⟩, heap_alloc_new w o, rfl, by simp⟩
/-- One block turned. -/
structure Upd (w : World) (b : Nat) (o : Obj) (w' : World) : Prop where
  chg : Chg [b] w w'
  at_ : w'.heap[b]? = some o
  size : w'.heap.size = w.heap.size

/-! ### Types -/
class HasT (P : Program) (t : TypeId) (d : outParam TypeDesc) (sz by_ : outParam Nat) (z : outParam Value) : Prop where
  und : P.underlying t = some d
  all : (P.info? t).map (fun i => (i.size, i.bytes, i.zero)) = some (sz, by_, some z)
theorem HasT.inf {P : Program} {t : TypeId} {d : TypeDesc} {sz by_ : Nat} {z : Value} (h : HasT P t d sz by_ z) : ∃ i, P.info? t = some i ∧ i.size = sz ∧ i.bytes = by_ ∧ i.zero = some z := by
  have := h.all
  cases hi : P.info? t with
  | none => rw [hi] at this; cases this
  | some i => rw [hi] at this; simp at this; exact ⟨i, rfl, this.1, this.2.1, this.2.2⟩
def aggD : TypeDesc → Bool
  | .struct _ | .array _ _ => true
  | _ => false

section
variable {P : Program} {t : TypeId} {d : TypeDesc} {sz by_ : Nat} {z : Value} {w : World}
theorem HasT.sizeOf (h : HasT P t d sz by_ z) : (sizeOf t).run P w = .ok sz w := by
  obtain ⟨i, h1, h2, _, _⟩ := h.inf
  simp [Go.sizeOf, typeInfo, h1, h2]
theorem HasT.zero (h : HasT P t d sz by_ z) : (zeroValue t).run P w = .ok z w := by
  obtain ⟨i, h1, _, _, h2⟩ := h.inf
  simp [zeroValue, typeInfo, h1, h2]
theorem HasT.underlying (h : HasT P t d sz by_ z) : (underlying t).run P w = .ok d w := by
  simp [Go.underlying, h.und]
theorem HasT.isAgg (h : HasT P t d sz by_ z) : (isAgg t).run P w = .ok (aggD d) w := by
  have := h.underlying (w := w)
  simp only [Go.isAgg, Sem.run_bind, this, Result.andThen]
  cases d <;> rfl
end

section
variable {P : Program} {s : Sl} {w : World} {ty : TypeId} {x y : Operand}
theorem Ev.move {v : Value} (h : opnd s x = some v) : Ev P s (.move x) ty w v w := fun ρ d pos af g hρ => by
  have := hρ x v h
  simp [execOp, this]
theorem Ev.assign {v : Value} (h : opnd s x = some v) : Ev P s (.assign x) ty w v w := fun ρ d pos af g hρ => by
  have := hρ x v h
  simp [execOp, this]
theorem Ev.pick {c a b : Operand} {t : Bool} {v u : Value} (hc : opnd s c = some (.bool t)) (ha : opnd s a = some v) (hb : opnd s b = some u) : Ev P s (.pick c a b) ty w (if t then v else u) w := fun ρ d pos af g hρ => by
  have h1 := hρ c _ hc
  have h2 := hρ a _ ha
  have h3 := hρ b _ hb
  simp [execOp, h1, h2, h3, asBool]
theorem Ev.pickT {c a b : Operand} {t : Bool} {v : Value} (hc : opnd s c = some (.bool t)) (ht : t = true) (ha : opnd s a = some v) : Ev P s (.pick c a b) ty w v w := fun ρ d pos af g hρ => by
  have h1 := hρ c _ hc
  have h2 := hρ a _ ha
  simp [execOp, h1, h2, asBool, ht]
theorem Ev.pickF {c a b : Operand} {t : Bool} {v : Value} (hc : opnd s c = some (.bool t)) (ht : t = false) (hb : opnd s b = some v) : Ev P s (.pick c a b) ty w v w := fun ρ d pos af g hρ => by
  have h1 := hρ c _ hc
  have h2 := hρ b _ hb
  simp [execOp, h1, h2, asBool, ht]
theorem Ev.extract {l : List Value} {i : Nat} {v : Value} (h : opnd s x = some (.tuple l.toArray)) (hv : l[i]? = some v) : Ev P s (.extract x i) ty w v w := fun ρ d pos af g hρ => by
  have h1 := hρ x _ h
  simp [execOp, h1, Instr.extract, hv]
theorem Ev.nilPtr {a : Addr} (h : opnd s x = some (.pointer (some a))) : Ev P s (.nilCheck x) ty w (.pointer (some a)) w := fun ρ d pos af g hρ => by
  have h1 := hρ x _ h
  simp [execOp, h1]

/-! ### Whole numbers -/
theorem run_bin {op : BinOp} {t t' : TypeId} {u v r : Value} (hx : opnd s x = some u) (hy : opnd s y = some v) (hg : ∀ x y, (eqGuard op t x y u v).run P w = .ok () w) (h : (binOp op t u v).run P w = .ok r w) :
    Ev P s (.binOp op t x y t') ty w r w := fun ρ d pos af g hρ => by
  have h1 := hρ x _ hx
  have h2 := hρ y _ hy
  simp [execOp, h1, h2, hg, h]
theorem eqGuard_int (op : BinOp) (t : TypeId) (x y : Operand) (k k' : IntKind) (a b : Int) : (eqGuard op t x y (.int k a) (.int k' b)).run P w = .ok () w := by
  unfold eqGuard; split <;> simp
theorem eqGuard_float (op : BinOp) (t : TypeId) (x y : Operand) (k k' : FloatKind) (a b : Nat) : (eqGuard op t x y (.float k a) (.float k' b)).run P w = .ok () w := by
  unfold eqGuard; split <;> simp
theorem eqGuard_bool (op : BinOp) (t : TypeId) (x y : Operand) (a b : Bool) : (eqGuard op t x y (.bool a) (.bool b)).run P w = .ok () w := by
  unfold eqGuard; split <;> simp
theorem eqGuard_ptr (op : BinOp) (t : TypeId) (x y : Operand) (a b : Option Addr) : (eqGuard op t x y (.pointer a) (.pointer b)).run P w = .ok () w := by
  unfold eqGuard; split <;> simp

section
variable {t t' : TypeId} {k : IntKind} {a b : Int}
theorem Ev.add (hx : opnd s x = some (.int k a)) (hy : opnd s y = some (.int k b)) : Ev P s (.binOp .add t x y t') ty w (.int k (k.wrap (a + b))) w :=
  run_bin hx hy (fun _ _ => eqGuard_int _ _ _ _ _ _ _ _) (by simp [binOp, Op.intArith])
theorem Ev.sub (hx : opnd s x = some (.int k a)) (hy : opnd s y = some (.int k b)) : Ev P s (.binOp .sub t x y t') ty w (.int k (k.wrap (a - b))) w :=
  run_bin hx hy (fun _ _ => eqGuard_int _ _ _ _ _ _ _ _) (by simp [binOp, Op.intArith])
theorem wrap_in {k : IntKind} {n : Int} (h : k.min ≤ n ∧ n ≤ k.max) : k.wrap n = n := by
  obtain ⟨h1, h2⟩ := h
  cases k <;> simp [IntKind.min, IntKind.max, IntKind.signed, IntKind.bits] at h1 h2 <;> simp [IntKind.wrap, IntKind.signed, IntKind.bits] <;> omega
theorem wrap_i64 {n : Int} (h : -9223372036854775808 ≤ n ∧ n ≤ 9223372036854775807) : IntKind.i64.wrap n = n := IntWalk.i64_in n h
theorem Ev.addIn {a b : Int} (hx : opnd s x = some (.int .i64 a)) (hy : opnd s y = some (.int .i64 b)) (h : -9223372036854775808 ≤ a + b ∧ a + b ≤ 9223372036854775807) : Ev P s (.binOp .add t x y t') ty w (.int .i64 (a + b)) w := by
  have := Ev.add (P := P) (w := w) (ty := ty) (t := t) (t' := t') hx hy
  rwa [wrap_i64 h] at this
theorem Ev.subIn {a b : Int} (hx : opnd s x = some (.int .i64 a)) (hy : opnd s y = some (.int .i64 b)) (h : -9223372036854775808 ≤ a - b ∧ a - b ≤ 9223372036854775807) : Ev P s (.binOp .sub t x y t') ty w (.int .i64 (a - b)) w := by
  have := Ev.sub (P := P) (w := w) (ty := ty) (t := t) (t' := t') hx hy
  rwa [wrap_i64 h] at this
theorem Ev.mul (hx : opnd s x = some (.int k a)) (hy : opnd s y = some (.int k b)) : Ev P s (.binOp .mul t x y t') ty w (.int k (k.wrap (a * b))) w :=
  run_bin hx hy (fun _ _ => eqGuard_int _ _ _ _ _ _ _ _) (by simp [binOp, Op.intArith])
theorem Ev.quo (hx : opnd s x = some (.int k a)) (hy : opnd s y = some (.int k b)) (h : b ≠ 0) : Ev P s (.binOp .quo t x y t') ty w (.int k (k.wrap (a.tdiv b))) w :=
  run_bin hx hy (fun _ _ => eqGuard_int _ _ _ _ _ _ _ _) (by simp [binOp, Op.intDiv, h])
theorem Ev.rem (hx : opnd s x = some (.int k a)) (hy : opnd s y = some (.int k b)) (h : b ≠ 0) : Ev P s (.binOp .rem t x y t') ty w (.int k (a.tmod b)) w :=
  run_bin hx hy (fun _ _ => eqGuard_int _ _ _ _ _ _ _ _) (by simp [binOp, Op.intDiv, h])
theorem Ev.remIn (hx : opnd s x = some (.int k a)) (hy : opnd s y = some (.int k b)) (h0 : 0 ≤ a) (h : 0 < b) : Ev P s (.binOp .rem t x y t') ty w (.int k (a % b)) w := by
  have := Ev.rem (P := P) (w := w) (ty := ty) (t := t) (t' := t') hx hy (by omega)
  rwa [Int.tmod_eq_emod_of_nonneg h0] at this
theorem Ev.quoIn (hx : opnd s x = some (.int k a)) (hy : opnd s y = some (.int k b)) (h0 : 0 ≤ a) (h1 : a ≤ k.max) (h : 0 < b) : Ev P s (.binOp .quo t x y t') ty w (.int k (a / b)) w := by
  have := Ev.quo (P := P) (w := w) (ty := ty) (t := t) (t' := t') hx hy (by omega)
  have h2 := Int.ediv_le_self b h0
  have h3 := Int.ediv_nonneg h0 (by omega : 0 ≤ b)
  have h4 : k.min ≤ 0 := by cases k <;> decide
  rwa [Int.tdiv_eq_ediv_of_nonneg h0, wrap_in ⟨by omega, by omega⟩] at this
theorem Ev.lss (hx : opnd s x = some (.int k a)) (hy : opnd s y = some (.int k b)) : Ev P s (.binOp .lss t x y t') ty w (.bool (decide (a < b))) w :=
  run_bin hx hy (fun _ _ => eqGuard_int _ _ _ _ _ _ _ _) (by simp [binOp, Op.intCmp])
theorem Ev.leq (hx : opnd s x = some (.int k a)) (hy : opnd s y = some (.int k b)) : Ev P s (.binOp .leq t x y t') ty w (.bool (decide (a ≤ b))) w :=
  run_bin hx hy (fun _ _ => eqGuard_int _ _ _ _ _ _ _ _) (by simp [binOp, Op.intCmp])
theorem Ev.gtr (hx : opnd s x = some (.int k a)) (hy : opnd s y = some (.int k b)) : Ev P s (.binOp .gtr t x y t') ty w (.bool (decide (b < a))) w :=
  run_bin hx hy (fun _ _ => eqGuard_int _ _ _ _ _ _ _ _) (by simp [binOp, Op.intCmp])
theorem Ev.geq (hx : opnd s x = some (.int k a)) (hy : opnd s y = some (.int k b)) : Ev P s (.binOp .geq t x y t') ty w (.bool (decide (b ≤ a))) w :=
  run_bin hx hy (fun _ _ => eqGuard_int _ _ _ _ _ _ _ _) (by simp [binOp, Op.intCmp])
theorem Ev.eql (hx : opnd s x = some (.int k a)) (hy : opnd s y = some (.int k b)) : Ev P s (.binOp .eql t x y t') ty w (.bool (decide (a = b))) w :=
  run_bin hx hy (fun _ _ => eqGuard_int _ _ _ _ _ _ _ _) (by simp [binOp, Op.intCmp]; rw [Bool.eq_iff_iff]; simp)
theorem Ev.neq (hx : opnd s x = some (.int k a)) (hy : opnd s y = some (.int k b)) : Ev P s (.binOp .neq t x y t') ty w (.bool (decide (a ≠ b))) w :=
  run_bin hx hy (fun _ _ => eqGuard_int _ _ _ _ _ _ _ _) (by simp [binOp, Op.intCmp]; rw [Bool.eq_iff_iff]; simp)
/-- & | ^ &^ as they stand. -/
def bits2 (op : BinOp) (k : IntKind) (a b : Int) : Int :=
  let u := BitVec.ofInt k.bits a
  let v := BitVec.ofInt k.bits b
  match op with
  | .and => k.wrap (u &&& v).toNat
  | .or => k.wrap (u ||| v).toNat
  | .xor => k.wrap (u ^^^ v).toNat
  | .andNot => k.wrap (u &&& ~~~v).toNat
  | _ => 0
theorem Ev.bits {op : BinOp} (hop : (op = .and ∨ op = .or) ∨ (op = .xor ∨ op = .andNot)) (hx : opnd s x = some (.int k a)) (hy : opnd s y = some (.int k b)) : Ev P s (.binOp op t x y t') ty w (.int k (bits2 op k a b)) w :=
  run_bin hx hy (fun _ _ => eqGuard_int _ _ _ _ _ _ _ _) (by rcases hop with (rfl | rfl) | (rfl | rfl) <;> simp [binOp, Op.intBits, bits2])
theorem Ev.and (hx : opnd s x = some (.int k a)) (hy : opnd s y = some (.int k b)) : Ev P s (.binOp .and t x y t') ty w (.int k (bits2 .and k a b)) w := Ev.bits (.inl (.inl rfl)) hx hy
theorem Ev.or (hx : opnd s x = some (.int k a)) (hy : opnd s y = some (.int k b)) : Ev P s (.binOp .or t x y t') ty w (.int k (bits2 .or k a b)) w := Ev.bits (.inl (.inr rfl)) hx hy
theorem Ev.xor (hx : opnd s x = some (.int k a)) (hy : opnd s y = some (.int k b)) : Ev P s (.binOp .xor t x y t') ty w (.int k (bits2 .xor k a b)) w := Ev.bits (.inr (.inl rfl)) hx hy
theorem Ev.andNot (hx : opnd s x = some (.int k a)) (hy : opnd s y = some (.int k b)) : Ev P s (.binOp .andNot t x y t') ty w (.int k (bits2 .andNot k a b)) w := Ev.bits (.inr (.inr rfl)) hx hy
theorem Ev.shl {k' : IntKind} (hx : opnd s x = some (.int k a)) (hy : opnd s y = some (.int k' b)) (h : 0 ≤ b) : Ev P s (.binOp .shl t x y t') ty w (.int k (k.wrap (a * 2 ^ (min b.toNat k.bits)))) w :=
  run_bin hx hy (fun _ _ => eqGuard_int _ _ _ _ _ _ _ _) (by simp [binOp, Op.shift, Int.not_lt.2 h])
theorem Ev.shr {k' : IntKind} (hx : opnd s x = some (.int k a)) (hy : opnd s y = some (.int k' b)) (h : 0 ≤ b) : Ev P s (.binOp .shr t x y t') ty w (.int k (a.fdiv (2 ^ (min b.toNat k.bits)))) w :=
  run_bin hx hy (fun _ _ => eqGuard_int _ _ _ _ _ _ _ _) (by simp [binOp, Op.shift, Int.not_lt.2 h])
theorem Ev.conv {src dst : TypeId} {d d' : TypeDesc} {sz by_ sz' by' : Nat} {z z' : Value} {k' : IntKind} [hs : HasT P src d sz by_ z] [hd : HasT P dst d' sz' by' z'] (hk : d' = .int k') (hx : opnd s x = some (.int k a)) :
    Ev P s (.convert src dst x) ty w (.int k' (k'.wrap a)) w := fun ρ d pos af g hρ => by
  have h1 := hρ x _ hx
  subst hk
  simp [execOp, h1, convert, hs.underlying, hd.underlying, Conv.intToInt]
theorem Ev.convF {src dst : TypeId} {d d' : TypeDesc} {sz by_ sz' by' : Nat} {z z' : Value} {k' : FloatKind} [hs : HasT P src d sz by_ z] [hd : HasT P dst d' sz' by' z'] (hk : d' = .float k') (hx : opnd s x = some (.int k a)) :
    Ev P s (.convert src dst x) ty w (.float k' (k'.nearest a)) w := fun ρ d pos af g hρ => by
  have h1 := hρ x _ hx
  subst hk
  simp [execOp, h1, convert, hs.underlying, hd.underlying, Conv.intToFloat]
theorem Ev.neg (hx : opnd s x = some (.int k a)) : Ev P s (.unOp .neg t x) ty w (.int k (k.wrap (0 - a))) w := fun ρ d pos af g hρ => by
  have h1 := hρ x _ hx
  simp [execOp, h1, Op.unary, Op.intArith]
theorem Ev.compl (hx : opnd s x = some (.int k a)) : Ev P s (.unOp .xor t x) ty w (.int k (bits2 .xor k (if k.signed then -1 else k.max) a)) w := fun ρ d pos af g hρ => by
  have h1 := hρ x _ hx
  simp [execOp, h1, Op.unary, Op.intBits, bits2]
end
theorem Ev.not {t : TypeId} {b : Bool} (hx : opnd s x = some (.bool b)) : Ev P s (.unOp .not t x) ty w (.bool !b) w := fun ρ d pos af g hρ => by
  have h1 := hρ x _ hx
  simp [execOp, h1, Op.unary]

/-! ### Floats -/
section
variable {t t' : TypeId} {k : FloatKind} {a b : Nat}
theorem Ev.feql (hx : opnd s x = some (.float k a)) (hy : opnd s y = some (.float k b)) : Ev P s (.binOp .eql t x y t') ty w (.bool (k.format.order a b == some .eq)) w :=
  run_bin hx hy (fun _ _ => eqGuard_float _ _ _ _ _ _ _ _) (by simp [binOp, Op.floatCmp])
theorem Ev.fneq (hx : opnd s x = some (.float k a)) (hy : opnd s y = some (.float k b)) : Ev P s (.binOp .neq t x y t') ty w (.bool (k.format.order a b != some .eq)) w :=
  run_bin hx hy (fun _ _ => eqGuard_float _ _ _ _ _ _ _ _) (by simp [binOp, Op.floatCmp])
theorem Ev.flss (hx : opnd s x = some (.float k a)) (hy : opnd s y = some (.float k b)) : Ev P s (.binOp .lss t x y t') ty w (.bool (k.format.order a b == some .lt)) w :=
  run_bin hx hy (fun _ _ => eqGuard_float _ _ _ _ _ _ _ _) (by simp [binOp, Op.floatCmp])
theorem Ev.fgtr (hx : opnd s x = some (.float k a)) (hy : opnd s y = some (.float k b)) : Ev P s (.binOp .gtr t x y t') ty w (.bool (k.format.order a b == some .gt)) w :=
  run_bin hx hy (fun _ _ => eqGuard_float _ _ _ _ _ _ _ _) (by simp [binOp, Op.floatCmp])
theorem Ev.fneg (hx : opnd s x = some (.float k a)) : Ev P s (.unOp .neg t x) ty w (.float k (Op.negFloat k a)) w := fun ρ d pos af g hρ => by
  have h1 := hρ x _ hx
  simp [execOp, h1, Op.unary]
end

/-- A function without a body. -/
theorem Ev.ext {f : FuncId} {xs : List Operand} {at_ : Array TypeId} {vs : List Value} {v : Value} (hx : opnds s xs = some vs) (h : (callFunc f vs.toArray).run P w = .ok (.value v) w) : Ev P s (.call ⟨.value (.func f), xs.toArray, at_⟩) ty w v w := fun ρ d pos af g hρ => by
  have e1 : ρ (.func f) = .func (.func f) #[] #[] := hρ _ _ rfl
  have e2 := opnds_map hρ xs vs hx
  simp [execOp, resolve, e1, Deferred.ofValue, invoke, e2, h]

/-! ### Memory -/
section
variable {t : TypeId} {d : TypeDesc} {sz by_ : Nat} {z : Value} {a : Addr}
theorem Ev.load {v : Value} [hT : HasT P t d sz by_ z] (hd : aggD d = false) (hx : opnd s x = some (.pointer (some a))) (hc : w.cell? a = some v) : Ev P s (.load t x) ty w v w := fun ρ d' pos af g hρ => by
  have h1 := hρ x _ hx
  simp [execOp, h1, Instr.loadAt, Instr.sureAddr, loadVar, hT.isAgg, hd, hc]
theorem Ev.loadAgg {cs : List Value} [hT : HasT P t d sz by_ z] (hd : aggD d = true) (hl : cs.length = sz) (hx : opnd s x = some (.pointer (some a))) (hc : ∀ j v, cs[j]? = some v → w.cell? (a.add j) = some v) : Ev P s (.load t x) ty w (.agg cs.toArray) w := fun ρ d' pos af g hρ => by
  have h1 := hρ x _ hx
  have h2 := run_loadCells_list (P := P) w a cs hc
  rw [hl] at h2
  simp [execOp, h1, Instr.loadAt, Instr.sureAddr, loadVar, hT.isAgg, hd, hT.sizeOf, h2]
/-- Field i of the struct type t lies off cells behind its head. -/
class HasFld (P : Program) (t : TypeId) (i : Nat) (off : outParam Nat) : Prop where
  run : ∀ (a : Addr) (w : World), (Instr.fieldAt t (.pointer (some a)) i).run P w = .ok (.pointer (some (a.add off))) w
theorem add_addr (b o off : Nat) : Addr.add ⟨b, o, none⟩ off = ⟨b, o + off, none⟩ := by
  unfold Addr.add; split
  · rename_i h; subst h; rfl
  · rfl
theorem Ev.fieldAddr {i b o off : Nat} [hF : HasFld P t i off] (hx : opnd s x = some (.pointer (some ⟨b, o, none⟩))) :
    Ev P s (.fieldAddr t x i) ty w (.pointer (some ⟨b, o + off, none⟩)) w := fun ρ d' pos af g hρ => by
  have h1 := hρ x _ hx
  have h2 := hF.run ⟨b, o, none⟩ w
  rw [add_addr] at h2
  simp [execOp, h1, h2]
end
end
end Go.Proofs.Ytjlmenmlpmfokaa.Sx
