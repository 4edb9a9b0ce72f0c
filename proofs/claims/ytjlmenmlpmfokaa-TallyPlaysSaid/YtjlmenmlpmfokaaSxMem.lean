/- Memory in the engine: new blocks, stores, slices, make, append, copy. No condition. -/
import Derived.Test.YtjlmenmlpmfokaaSxEv
import Derived.Maps.AppendAt
import Derived.Laws.IdiomCopy
import Derived.Laws.CopyOwn
namespace Go.Proofs.Ytjlmenmlpmfokaa.Sx
open Go
set_option linter.unusedVariables false
set_option linter.unusedSimpArgs false

theorem New.lt {w w' : World} {b : Nat} {o : Obj} (h : New w b o w') : b < w'.heap.size := by have := h.is; have := h.size; omega
theorem New.ge {w w' : World} {b : Nat} {o : Obj} (h : New w b o w') : w.heap.size ≤ b := by have := h.is; omega
theorem Upd.heap {w w' : World} {b : Nat} {o : Obj} (h : Upd w b o w') {k : Nat} {u : Obj} (hk : w.heap[k]? = some u) (hn : k ≠ b) : w'.heap[k]? = some u :=
  h.chg.heap hk (by simpa using hn)
theorem New.heap {w w' : World} {b : Nat} {o : Obj} (h : New w b o w') {k : Nat} {u : Obj} (hk : w.heap[k]? = some u) : w'.heap[k]? = some u := h.chg.heap hk (by simp)
theorem cell_at {w : World} {b i : Nat} {l : List Value} {t : TypeId} {fr : Nat × Nat} (h : w.heap[b]? = some (.cells l.toArray t fr)) : w.cell? ⟨b, i, none⟩ = l[i]? := by
  rw [cell_of_row w b i _ t fr h]; simp
theorem cell_at' {w : World} {b i : Nat} {l : Array Value} {t : TypeId} {fr : Nat × Nat} (h : w.heap[b]? = some (.cells l t fr)) : w.cell? ⟨b, i, none⟩ = l[i]? := cell_of_row w b i _ t fr h
theorem Chg.cell {T : List Nat} {w w' : World} (h : Chg T w w') {p : Addr} {v : Value} (hv : w.cell? p = some v) (hn : p.block ∉ T) : w'.cell? p = some v := by
  rw [World.cell?_of_block (w := w) (h.block _ (block_lt_of_cell hv) hn)]; exact hv

theorem upd_setCell (w : World) (b i : Nat) (l : List Value) (t : TypeId) (v : Value) (h : w.heap[b]? = some (.cells l.toArray t (0, 0))) : Upd w b (.cells (l.set i v).toArray t (0, 0)) (w.setCell ⟨b, i, none⟩ v) := by
  refine ⟨⟨rfl, rfl, rfl, by simp, fun k hk hn => ?_⟩, ?_, by simp⟩
  · exact RowKit.Below.heap_setCell _ _ _ _ (by simpa using hn)
  · rw [heap_setCell_same w b i _ t v h]; simp

section
variable {P : Program} {n : Nat} {D : List Deferred} {s : Sl} {w : World} {ty : TypeId} {x y : Operand} {ops : Array Oper} {K : KK} {rest : List Oper} {pos : String} {af : Array Edge} {d : Nat}

theorem WL.box {t : TypeId} {v : Value} {l : List Value} (hx : opnd s x = some v) (hl : v.cells = l.toArray) (hd : Nat.blt d n = true)
    (k : ∀ b w', New w b (.cells l.toArray t) w' → WL P ops K rest n D ((d, .pointer (some ⟨b, 0, none⟩)) :: s) w') : WL P ops K (⟨some d, .box t x, ty, pos, af, none⟩ :: rest) n D s w :=
  WL.ev (v := .pointer (some ⟨w.heap.size, 0, none⟩)) (w' := w.alloc (.cells l.toArray t)) (fun ρ d' pos af g hρ => by
    have h1 := hρ x _ hx
    simp [execOp, h1, Instr.box, newVar, newRow, hl]) hd (k _ _ (new_alloc _ _))
theorem WL.alloc {t : TypeId} {ds : TypeDesc} {sz by_ : Nat} {z : Value} {l : List Value} [hT : HasT P t ds sz by_ z] (hl : z.cells = l.toArray) (hd : Nat.blt d n = true)
    (k : ∀ b w', New w b (.cells l.toArray t) w' → WL P ops K rest n D ((d, .pointer (some ⟨b, 0, none⟩)) :: s) w') : WL P ops K (⟨some d, .alloc t, ty, pos, af, none⟩ :: rest) n D s w :=
  WL.ev (v := .pointer (some ⟨w.heap.size, 0, none⟩)) (w' := w.alloc (.cells l.toArray t)) (fun ρ d' pos af g hρ => by
    simp [execOp, Instr.alloc, hT.zero, newVar, newRow, hl]) hd (k _ _ (new_alloc _ _))

theorem frozen_no {w : World} {b i : Nat} {l : Array Value} {t : TypeId} (h : w.heap[b]? = some (.cells l t (0, 0))) : w.frozen? ⟨b, i, none⟩ = false := by
  simp [World.frozen?, h]

/-- A store into one cell of a known block. -/
theorem WL.store {t : TypeId} {ds : TypeDesc} {by_ : Nat} {z : Value} {b i : Nat} {l : List Value} {T : TypeId} {v : Value} [hT : HasT P t ds 1 by_ z] (hx : opnd s x = some (.pointer (some ⟨b, i, none⟩))) (hy : opnd s y = some v) (h1 : v.oneCell' = true)
    (hb : w.heap[b]? = some (.cells l.toArray T (0, 0))) (hi : i < l.length) (k : ∀ w', Upd w b (.cells (l.set i v).toArray T (0, 0)) w' → WL P ops K rest n D s w') : WL P ops K (⟨none, .store t x y, ty, pos, af, none⟩ :: rest) n D s w :=
  WL.evs (w' := w.setCell ⟨b, i, none⟩ v) (fun ρ d' pos af g hρ => by
    have e1 := hρ x _ hx
    have e2 := hρ y _ hy
    have e3 : v.cells = #[v] := by cases v <;> first | rfl | cases h1
    have e4 : w.cell? ⟨b, i, none⟩ = some l[i] := by rw [cell_at hb]; simp [hi]
    have e5 : w.frozen? ⟨b, i, none⟩ = false := frozen_no hb
    simp [execOp, e1, e2, Instr.storeAt, Instr.sureAddr, storeVar, hT.sizeOf, e3, storeCells, Addr.add, run_store _ _ _ _ _ h1, e4, e5]) (k _ (upd_setCell w b i l T v hb))

/-- Cells i .. of a row are written, one behind the other. -/
def splice (l : List Value) (i : Nat) : List Value → List Value
  | [] => l
  | v :: r => splice (l.set i v) (i + 1) r
theorem splice_length (vs : List Value) : ∀ l i, (splice l i vs).length = l.length := by
  induction vs with
  | nil => intros; rfl
  | cons v r ih => intro l i; simp [splice, ih]
theorem run_storeCells (b : Nat) (T : TypeId) : ∀ (vs : List Value) (l : List Value) (o j : Nat) (w : World), (∀ v ∈ vs, v.oneCell' = true) → w.heap[b]? = some (.cells l.toArray T (0, 0)) → o + j + vs.length ≤ l.length →
    ∃ w', (storeCells ⟨b, o, none⟩ vs j).run P w = .ok () w' ∧ Upd w b (.cells (splice l (o + j) vs).toArray T (0, 0)) w' := by
  intro vs
  induction vs with
  | nil => intro l o j w _ hb _; exact ⟨w, by simp [storeCells], ⟨Chg.refl _ _, hb, rfl⟩⟩
  | cons v r ih =>
    intro l o j w h1 hb hl
    simp only [List.length_cons] at hl
    have ha : (Addr.add ⟨b, o, none⟩ j) = ⟨b, o + j, none⟩ := by
      unfold Addr.add; split
      · rename_i h; subst h; rfl
      · rfl
    have e4 : w.cell? ⟨b, o + j, none⟩ = some l[o + j] := by rw [cell_at hb]; simp
    have e5 : w.frozen? ⟨b, o + j, none⟩ = false := frozen_no hb
    have hu := upd_setCell w b (o + j) l T v hb
    obtain ⟨w', hr, hu'⟩ := ih (l.set (o + j) v) o (j + 1) (w.setCell ⟨b, o + j, none⟩ v) (fun x hx => h1 x (by simp [hx])) hu.at_ (by simp; omega)
    refine ⟨w', ?_, ⟨hu.chg.trans hu'.chg, hu'.at_, by rw [hu'.size, hu.size]⟩⟩
    simp only [storeCells, Sem.run_bind, ha, run_store _ _ _ _ _ (h1 v (by simp)), e4, e5]
    simpa using hr
/-- A store of a struct into a known block. -/
theorem WL.storeAgg {t : TypeId} {ds : TypeDesc} {sz by_ : Nat} {z : Value} {b i : Nat} {l vs : List Value} {T : TypeId} [hT : HasT P t ds sz by_ z] (hx : opnd s x = some (.pointer (some ⟨b, i, none⟩))) (hy : opnd s y = some (.agg vs.toArray)) (hs : vs.length = sz) (h1 : ∀ v ∈ vs, v.oneCell' = true)
    (hb : w.heap[b]? = some (.cells l.toArray T (0, 0))) (hi : i + vs.length ≤ l.length) (k : ∀ w', Upd w b (.cells (splice l i vs).toArray T (0, 0)) w' → WL P ops K rest n D s w') : WL P ops K (⟨none, .store t x y, ty, pos, af, none⟩ :: rest) n D s w := by
  obtain ⟨w', hr, hu⟩ := run_storeCells (P := P) b T vs l i 0 w h1 hb (by simpa using hi)
  refine WL.evs (w' := w') (fun ρ d' pos af g hρ => ?_) (k _ (by simpa using hu))
  have e1 := hρ x _ hx
  have e2 := hρ y _ hy
  have e3 : (Value.agg vs.toArray).cells = vs.toArray := rfl
  simp [execOp, e1, e2, Instr.storeAt, Instr.sureAddr, storeVar, hT.sizeOf, e3, hs, hr]

/-! ### Pointers held against each other -/
theorem run_sameAddr_ne {w : World} {p q : Nat} {o o' : Nat} {c c' : Array Value} {T T' : TypeId} (hne : p ≠ q) (hp : w.heap[p]? = some (.cells c T (0, 0))) (hq : w.heap[q]? = some (.cells c' T' (0, 0))) :
    (sameAddr ⟨p, o, none⟩ ⟨q, o', none⟩).run P w = .ok false w := by
  have h1 : (p == q) = false := by simpa using hne
  have f1 : ∀ i, w.frozen? ⟨p, i, none⟩ = false := fun i => frozen_no hp
  have f2 : ∀ i, w.frozen? ⟨q, i, none⟩ = false := fun i => frozen_no hq
  have s1 : w.shape? p = some (T, c.size) := by simp [World.shape?, hp]
  have s2 : w.shape? q = some (T', c'.size) := by simp [World.shape?, hq]
  simp [sameAddr, h1, f1, f2, noView, viewAt, s1, s2, mayBeOne, stringish]
theorem run_eqIn {w : World} {t : TypeId} {u v : Value} {r : Bool} (h : ∀ d, (Op.equalIn (d + 1) t u v).run P w = .ok r w) : (Op.equal t u v).run P w = .ok r w := h 9999
theorem run_eql_ptr {w : World} {t : TypeId} {a b : Option Addr} {r : Bool} (h : ∀ d, (Op.equalIn (d + 1) t (.pointer a) (.pointer b)).run P w = .ok r w) : (binOp .eql t (.pointer a) (.pointer b)).run P w = .ok (.bool r) w := by
  have := run_eqIn h
  simp only [binOp]
  simp [this]
theorem run_neq_ptr {w : World} {t : TypeId} {a b : Option Addr} {r : Bool} (h : ∀ d, (Op.equalIn (d + 1) t (.pointer a) (.pointer b)).run P w = .ok r w) : (binOp .neq t (.pointer a) (.pointer b)).run P w = .ok (.bool (!r)) w := by
  have := run_eqIn h
  simp only [binOp]
  simp [this]
theorem Ev.eqlPtrF {t t' e : TypeId} {de : TypeDesc} {sz by_ es be : Nat} {z ze : Value} {p q : Nat} {o o' : Nat} {c c' : Array Value} {T T' : TypeId} [hT : HasT P t (.pointer e) sz by_ z] [hE : HasT P e de es be ze] (hs : es ≠ 0)
    (hx : opnd s x = some (.pointer (some ⟨p, o, none⟩))) (hy : opnd s y = some (.pointer (some ⟨q, o', none⟩))) (hne : p ≠ q) (hp : w.heap[p]? = some (.cells c T (0, 0))) (hq : w.heap[q]? = some (.cells c' T' (0, 0))) : Ev P s (.binOp .eql t x y t') ty w (.bool false) w :=
  run_bin hx hy (fun _ _ => eqGuard_ptr _ _ _ _ _ _) (run_eql_ptr fun d => by
    have := run_sameAddr_ne (P := P) (o := o) (o' := o') hne hp hq
    simp [Op.equalIn, hT.underlying, hE.sizeOf, hs, this])
theorem Ev.eqlPtrT {t t' e : TypeId} {de : TypeDesc} {sz by_ es be : Nat} {z ze : Value} {a : Addr} [hT : HasT P t (.pointer e) sz by_ z] [hE : HasT P e de es be ze] (hs : es ≠ 0)
    (hx : opnd s x = some (.pointer (some a))) (hy : opnd s y = some (.pointer (some a))) : Ev P s (.binOp .eql t x y t') ty w (.bool true) w :=
  run_bin hx hy (fun _ _ => eqGuard_ptr _ _ _ _ _ _) (run_eql_ptr fun d => by
    simp [Op.equalIn, hT.underlying, hE.sizeOf, hs, sameAddr])
/-- A pointer against nil. -/
theorem Ev.eqlPtrNil {t t' e : TypeId} {sz by_ : Nat} {z : Value} {a : Option Addr} [hT : HasT P t (.pointer e) sz by_ z] (hx : opnd s x = some (.pointer a)) (hy : opnd s y = some (.pointer none)) : Ev P s (.binOp .eql t x y t') ty w (.bool a.isNone) w :=
  run_bin hx hy (fun _ _ => eqGuard_ptr _ _ _ _ _ _) (run_eql_ptr fun d => by
    cases a <;> simp [Op.equalIn, hT.underlying])
theorem Ev.neqPtrNil {t t' e : TypeId} {sz by_ : Nat} {z : Value} {a : Option Addr} [hT : HasT P t (.pointer e) sz by_ z] (hx : opnd s x = some (.pointer a)) (hy : opnd s y = some (.pointer none)) : Ev P s (.binOp .neq t x y t') ty w (.bool (!a.isNone)) w :=
  run_bin hx hy (fun _ _ => eqGuard_ptr _ _ _ _ _ _) (run_neq_ptr fun d => by
    cases a <;> simp [Op.equalIn, hT.underlying])

/-! ### Results that lie in memory -/
def rdR (tmps : Array Value) : ResultVar → Sem Value
  | .tmp t => pure (tmps.getD t undef)
  | .cell a t => do loadVar t (← asAddr (tmps.getD a undef))
def RVal (P : Program) (n : Nat) (D : List Deferred) (s : Sl) (w : World) (r : ResultVar) (v : Value) : Prop := ∀ a, Fr n D s a → (rdR a.tmps r).run P w = .ok v w
theorem loadVar_one {t : TypeId} {ds : TypeDesc} {sz by_ : Nat} {z v : Value} {a : Addr} [hT : HasT P t ds sz by_ z] (hd : aggD ds = false) (hc : w.cell? a = some v) : (loadVar t a).run P w = .ok v w := by
  simp [loadVar, hT.isAgg, hd, hc]
theorem loadVar_agg {t : TypeId} {ds : TypeDesc} {sz by_ : Nat} {z : Value} {a : Addr} {cs : List Value} [hT : HasT P t ds sz by_ z] (hd : aggD ds = true) (hl : cs.length = sz) (hc : ∀ j v, cs[j]? = some v → w.cell? (a.add j) = some v) : (loadVar t a).run P w = .ok (.agg cs.toArray) w := by
  have h2 := run_loadCells_list (P := P) w a cs hc
  rw [hl] at h2
  simp [loadVar, hT.isAgg, hd, hT.sizeOf, h2]
theorem RVal.tmp {t : Nat} {v : Value} (h : look s t = some v) : RVal P n D s w (.tmp t) v := fun a ha => by
  simp only [rdR, ha.getD h]; rfl
theorem RVal.cell {t a : Nat} {ad : Addr} {v : Value} (h : look s a = some (.pointer (some ad))) (hl : (loadVar t ad).run P w = .ok v w) : RVal P n D s w (.cell a t) v := fun b hb => by
  simp [rdR, hb.getD h, asAddr, hl]
theorem results_rdR (fn : Func) (tmps : Array Value) : results fn tmps = (do let vs ← fn.results.mapM (rdR tmps); pure (if h : vs.size = 1 then vs[0] else .tuple vs)) := rfl
theorem bodyA.retR1 {fn : Func} {R : Value → World → Prop} {r : ResultVar} {v : Value} (hr : fn.results = #[r]) (h : RVal P n [] s w r v) (hR : R v w) : bodyA P fn n R .ret [] s w :=
  bodyA.mk (.inl rfl) (fun a ha => by rw [results_rdR, hr]; simp [h a ha]) hR
theorem bodyA.retR2 {fn : Func} {R : Value → World → Prop} {r q : ResultVar} {v u : Value} (hr : fn.results = #[r, q]) (h : RVal P n [] s w r v) (h2 : RVal P n [] s w q u) (hR : R (.tuple [v, u].toArray) w) : bodyA P fn n R .ret [] s w :=
  bodyA.mk (.inl rfl) (fun a ha => by rw [results_rdR, hr]; simp [h a ha, h2 a ha]) hR
theorem bodyA.retR3 {fn : Func} {R : Value → World → Prop} {r q p : ResultVar} {v u x : Value} (hr : fn.results = #[r, q, p]) (h : RVal P n [] s w r v) (h2 : RVal P n [] s w q u) (h3 : RVal P n [] s w p x) (hR : R (.tuple [v, u, x].toArray) w) : bodyA P fn n R .ret [] s w :=
  bodyA.mk (.inl rfl) (fun a ha => by rw [results_rdR, hr]; simp [h a ha, h2 a ha, h3 a ha]) hR

/-! ### Structs -/
theorem und_inj {P : Program} {t : TypeId} {fs gs : Array Field} (h : P.underlying t = some (.struct fs)) (g : P.underlying t = some (.struct gs)) : gs = fs := by
  rw [h] at g; injection g with g; injection g with g; exact g.symm
/-- Where a struct's fields lie. -/
class HasB (P : Program) (t : TypeId) (pl : outParam (Array (Nat × Nat))) : Prop where
  run : ∀ (w : World) (fs : Array Field), P.underlying t = some (.struct fs) → (fs.mapM fun f : Field => (do pure (f.offset, ← sizeOf f.type) : Sem (Nat × Nat))).run P w = .ok pl w
/-- A struct made of its parts: 'fill' reckoned by the kernel. -/
def opndP (s : Sl) : List (Nat × Operand) → Option (List (Nat × Value))
  | [] => some []
  | (i, x) :: r => match opnd s x, opndP s r with
    | some v, some vs => some ((i, v) :: vs)
    | _, _ => none
theorem opndP_map {s : Sl} {ρ : Operand → Value} (h : ∀ x u, opnd s x = some u → ρ x = u) : ∀ (l : List (Nat × Operand)) vs, opndP s l = some vs → l.map (fun p => (p.1, ρ p.2)) = vs
  | [], vs, he => by simp only [opndP] at he; cases he; rfl
  | (i, x) :: r, vs, he => by
    simp only [opndP] at he
    split at he
    · rename_i v vs' h1 h2
      cases he
      simp [h x v h1, opndP_map h r vs' h2]
    · cases he
theorem Ev.build {t : TypeId} {fs : Array Field} {sz by_ : Nat} {z : Value} {ps : List (Nat × Operand)} {vs : List (Nat × Value)} {pl : Array (Nat × Nat)} {cs : List Value} [hT : HasT P t (.struct fs) sz by_ z] [hB : HasB P t pl]
    (hx : opndP s ps = some vs) (hf : Instr.fill (pl[·]?) z.cells vs = some cs.toArray) : Ev P s (.build t ps.toArray) ty w (.agg cs.toArray) w := fun ρ d' pos af g hρ => by
  have h1 := opndP_map hρ ps vs hx
  have h2 := hB.run w fs hT.und
  simp only [bind_pure_comp] at h2
  simp [execOp, Instr.build, hT.zero, hT.underlying, h1, h2, hf]
/-- []T{x}: a new row of one element that is a struct. -/
theorem WL.buildSlice {t e : TypeId} {de : TypeDesc} {sz by_ es be : Nat} {z ze : Value} {ps : List (Nat × Operand)} {vs : List (Nat × Value)} {cs : List Value} {m : Nat} {ops : Array Oper} {K : KK} {rest : List Oper} {pos : String} {af : Array Edge} {d : Nat} [hT : HasT P t (.slice e) sz by_ z] [hE : HasT P e de es be ze]
    (hm : m * es ≤ 2 ^ 24) (hp : 0 < m * es) (hx : opndP s ps = some vs) (hf : Instr.fill (fun i => some (i * es, es)) ((Array.range (m * es)).map (ze.cells[· % ze.cells.size]!)) vs = some cs.toArray) (hd : Nat.blt d n = true)
    (k : ∀ b w', New w b (.cells cs.toArray e) w' → WL P ops K rest n D ((d, .slice (some ⟨b, 0, none⟩) m m) :: s) w') : WL P ops K (⟨some d, .buildSlice t m ps.toArray, ty, pos, af, none⟩ :: rest) n D s w :=
  WL.ev (v := .slice (some ⟨w.heap.size, 0, none⟩) m m) (w' := w.alloc (.cells cs.toArray e)) (fun ρ d' pos af g hρ => by
    have h1 := opndP_map hρ ps vs hx
    have h3 : ¬ (16777216 < m * es) := by have : (2 : Nat) ^ 24 = 16777216 := rfl; omega
    have h4 : ¬ (m * es = 0) := by omega
    have h5 : ¬ (m = 0 ∨ es = 0) := by
      intro h; rcases h with h | h <;> simp [h] at hp
    simp [execOp, Instr.buildSlice, hT.underlying, hE.sizeOf, hE.zero, h1, h3, h5, hf, newRow]
    intro h; exact absurd h h4) hd (k _ _ (new_alloc _ _))

/-! ### Slices -/
theorem Ev.len {t : TypeId} {a : Option Addr} {m c e : Nat} {sz by_ : Nat} {z : Value} [hT : HasT P t (.slice e) sz by_ z] (hx : opnd s x = some (.slice a m c)) : Ev P s (.call ⟨.builtin .len, [x].toArray, #[t]⟩) ty w (.int .i64 (m : Int)) w := fun ρ d' pos af g hρ => by
  have e1 := hρ x _ hx
  simp [execOp, resolve, invoke, builtin, e1, Builtin.len_, hT.underlying, goInt]
theorem Ev.cap {t : TypeId} {a : Option Addr} {m c e : Nat} {sz by_ : Nat} {z : Value} [hT : HasT P t (.slice e) sz by_ z] (hx : opnd s x = some (.slice a m c)) : Ev P s (.call ⟨.builtin .cap, [x].toArray, #[t]⟩) ty w (.int .i64 (c : Int)) w := fun ρ d' pos af g hρ => by
  have e1 := hρ x _ hx
  simp [execOp, resolve, invoke, builtin, e1, Builtin.cap_, hT.underlying, goInt]
theorem Ev.lenMap {t : TypeId} {r k e c : Nat} {es : Array MapEntry} {sz by_ : Nat} {z : Value} [hT : HasT P t (.map k e) sz by_ z] (hx : opnd s x = some (.map (some r))) (hr : w.heap[r]? = some (.map es c)) : Ev P s (.call ⟨.builtin .len, [x].toArray, #[t]⟩) ty w (.int .i64 (es.size : Int)) w := fun ρ d' pos af g hρ => by
  have e1 := hρ x _ hx
  simp [execOp, resolve, invoke, builtin, e1, Builtin.len_, hT.underlying, goInt, getObj, Sem.run, hr]

/-- The address of an element. -/
theorem Ev.indexAddr {t : TypeId} {b o m c e : Nat} {es be : Nat} {k : IntKind} {i : Int} {de : TypeDesc} {ze : Value} {sz by_ : Nat} {z : Value} [hT : HasT P t (.slice e) sz by_ z] [hE : HasT P e de es be ze] (hx : opnd s x = some (.slice (some ⟨b, o, none⟩) m c)) (hy : opnd s y = some (.int k i)) (h0 : 0 ≤ i) (h1 : i < m) :
    Ev P s (.indexAddr t x y) ty w (.pointer (some ⟨b, o + i.toNat * es, none⟩)) w := fun ρ d' pos af g hρ => by
  have e1 := hρ x _ hx
  have e2 := hρ y _ hy
  have ha : (Addr.add ⟨b, o, none⟩ (i.toNat * es)) = ⟨b, o + i.toNat * es, none⟩ := by
    unfold Addr.add; split
    · rename_i h; rw [h]; rfl
    · rfl
  simp [execOp, e1, e2, Instr.indexAt, asIntOf, hT.underlying, h0, h1, hE.sizeOf, ha]
theorem Ev.indexAddrArr {t : TypeId} {b o m e : Nat} {es be : Nat} {k : IntKind} {i : Int} {de : TypeDesc} {ze : Value} {sz by_ : Nat} {z : Value} [hT : HasT P t (.array m e) sz by_ z] [hE : HasT P e de es be ze] (hx : opnd s x = some (.pointer (some ⟨b, o, none⟩))) (hy : opnd s y = some (.int k i)) (h0 : 0 ≤ i) (h1 : i < m) :
    Ev P s (.indexAddr t x y) ty w (.pointer (some ⟨b, o + i.toNat * es, none⟩)) w := fun ρ d' pos af g hρ => by
  have e1 := hρ x _ hx
  have e2 := hρ y _ hy
  have ha : (Addr.add ⟨b, o, none⟩ (i.toNat * es)) = ⟨b, o + i.toNat * es, none⟩ := by
    unfold Addr.add; split
    · rename_i h; rw [h]; rfl
    · rfl
  simp [execOp, e1, e2, Instr.indexAt, Instr.sureAddr, asIntOf, hT.underlying, h0, h1, hE.sizeOf, ha]

/-- A part of a slice. -/
def cutAt (a : Option Addr) (l m es : Nat) : Option Addr := if m = l then a else a.map (·.add (l * es))
theorem Ev.sliceLH {t : TypeId} {a : Option Addr} {m c e : Nat} {es be : Nat} {k k' : IntKind} {lo hi : Int} {de : TypeDesc} {ze : Value} {sz by_ : Nat} {z : Value} {p q : Operand} [hT : HasT P t (.slice e) sz by_ z] [hE : HasT P e de es be ze]
    (hx : opnd s x = some (.slice a m c)) (hp : opnd s p = some (.int k lo)) (hq : opnd s q = some (.int k' hi)) (h0 : 0 ≤ lo) (h1 : lo ≤ hi) (h2 : hi ≤ c) :
    Ev P s (.slice t x (some p) (some q) none) ty w (.slice (cutAt a lo.toNat c es) (hi.toNat - lo.toNat) (c - lo.toNat)) w := fun ρ d' pos af g hρ => by
  have e1 := hρ x _ hx
  have e2 := hρ p _ hp
  have e3 := hρ q _ hq
  have e4 : 0 ≤ hi := by omega
  have e5 : lo ≤ (hi.toNat : Int) := by omega
  simp [execOp, e1, e2, e3, Instr.sliceAt, Instr.slice, hT.underlying, Instr.sliceBounds, Instr.sliceBound, asIntOf, h0, h2, e4, e5, hE.sizeOf, cutAt]
  intro hlt
  exfalso
  omega
theorem Ev.sliceL {t : TypeId} {a : Option Addr} {m c e : Nat} {es be : Nat} {k : IntKind} {lo : Int} {de : TypeDesc} {ze : Value} {sz by_ : Nat} {z : Value} {p : Operand} [hT : HasT P t (.slice e) sz by_ z] [hE : HasT P e de es be ze]
    (hx : opnd s x = some (.slice a m c)) (hp : opnd s p = some (.int k lo)) (h0 : 0 ≤ lo) (h1 : lo ≤ m) :
    Ev P s (.slice t x (some p) none none) ty w (.slice (cutAt a lo.toNat c es) (m - lo.toNat) (c - lo.toNat)) w := fun ρ d' pos af g hρ => by
  have e1 := hρ x _ hx
  have e2 := hρ p _ hp
  simp [execOp, e1, e2, Instr.sliceAt, Instr.slice, hT.underlying, Instr.sliceBounds, Instr.sliceBound, asIntOf, h0, h1, hE.sizeOf, cutAt]
theorem Ev.sliceH {t : TypeId} {a : Option Addr} {m c e : Nat} {es be : Nat} {k' : IntKind} {hi : Int} {de : TypeDesc} {ze : Value} {sz by_ : Nat} {z : Value} {q : Operand} [hT : HasT P t (.slice e) sz by_ z] [hE : HasT P e de es be ze]
    (hx : opnd s x = some (.slice a m c)) (hq : opnd s q = some (.int k' hi)) (h1 : 0 ≤ hi) (h2 : hi ≤ c) :
    Ev P s (.slice t x none (some q) none) ty w (.slice a hi.toNat c) w := fun ρ d' pos af g hρ => by
  have e1 := hρ x _ hx
  have e3 := hρ q _ hq
  simp [execOp, e1, e3, Instr.sliceAt, Instr.slice, hT.underlying, Instr.sliceBounds, Instr.sliceBound, asIntOf, h1, h2, hE.sizeOf]
  intro _; cases a <;> simp [Addr.add]

/-- make([]T, len, cap). -/
theorem WL.make {t : TypeId} {e es be : Nat} {kl kc : IntKind} {l c : Int} {de : TypeDesc} {ze : Value} {sz by_ : Nat} {z : Value} [hT : HasT P t (.slice e) sz by_ z] [hE : HasT P e de es be ze] (hx : opnd s x = some (.int kl l)) (hy : opnd s y = some (.int kc c))
    (h0 : 0 ≤ l) (hlc : l ≤ c) (hb : (be : Int) * c ≤ 281474976710656) (h63 : c ≤ 9223372036854775807) (hd : Nat.blt d n = true)
    (k : ∀ b w', New w b (.cells (madeCells ze.cells (c.toNat * es)) e) w' → WL P ops K rest n D ((d, .slice (some ⟨b, 0, none⟩) l.toNat c.toNat) :: s) w') : WL P ops K (⟨some d, .makeSlice t x y, ty, pos, af, none⟩ :: rest) n D s w := by
  obtain ⟨i, hi, hi1, hi2, hi3⟩ := hE.inf
  refine WL.ev (v := .slice (some ⟨w.heap.size, 0, none⟩) l.toNat c.toNat) (w' := w.alloc (.cells (madeCells ze.cells (c.toNat * es)) e)) (fun ρ d' pos af g hρ => ?_) hd (k _ _ (new_alloc _ _))
  have e1 := hρ x _ hx
  have e2 := hρ y _ hy
  have := run_make (P := P) w t e i ze hT.und hi hi3 kl kc l c h0 hlc (by rw [hi2]; exact hb) h63
  rw [hi1] at this
  simp [execOp, e1, e2, this]

theorem Chg.of_grown {w w' : World} {row : Option Nat} (h : w.grownBy w' row) : Chg row.toList w w' :=
  ⟨h.os, h.tape, h.output, h.size, fun j hj hn => h.block j hj fun he => hn (by rw [← he]; simp)⟩
/-- make([]T, 0, c), as an owned row. -/
theorem WL.makeOwn {t : TypeId} {e es be : Nat} {kl kc : IntKind} {c : Nat} {de : TypeDesc} {ze : Value} {sz by_ : Nat} {z : Value} [hT : HasT P t (.slice e) sz by_ z] [hE : HasT P e de es be ze] (hx : opnd s x = some (.int kl 0)) (hy : opnd s y = some (.int kc (c : Int)))
    (hb : be * c ≤ 281474976710656) (h63 : c ≤ maxLen) (hd : Nat.blt d n = true)
    (k : ∀ b w', w'.ownsRow 0 e es (.slice (some ⟨b, 0, none⟩) 0 c) 0 [] → Chg [] w w' → w.heap.size ≤ b → b < w'.heap.size → WL P ops K rest n D ((d, .slice (some ⟨b, 0, none⟩) 0 c) :: s) w') : WL P ops K (⟨some d, .makeSlice t x y, ty, pos, af, none⟩ :: rest) n D s w := by
  obtain ⟨i, hi, hi1, hi2, hi3⟩ := hE.inf
  obtain ⟨w', hr, ho, hg⟩ := run_make_own (P := P) w 0 t e i ze es hT.und hi hi3 hi1 kl kc c (by rw [hi2]; exact hb) h63 (Nat.zero_le _)
  have hlt : w.heap.size < w'.heap.size := by
    rcases ho.2 with ⟨h, _⟩ | ⟨g, cp, cur, h, _, hh, _⟩
    · cases h
    · injection h with h1; injection h1 with h1; injection h1 with h1; subst h1; exact lt_of_heap hh
  refine WL.ev (v := .slice (some ⟨w.heap.size, 0, none⟩) 0 c) (w' := w') (fun ρ d' pos af g hρ => ?_) hd (k _ _ ho (Chg.of_grown hg) (Nat.le_refl _) hlt)
  have e1 := hρ x _ hx
  have e2 := hρ y _ hy
  simp [execOp, e1, e2, hr]
theorem own_keep {w w' : World} {T : List Nat} {e sz : Nat} {v : Value} {m : Nat} {xs : List Value} (h : w.ownsRow 0 e sz v m xs) (hc : Chg T w w') (hn : ∀ b, v.ownBlock = some b → b ∉ T) : w'.ownsRow 0 e sz v m xs := by
  obtain ⟨h1, h2⟩ := h
  refine ⟨h1, ?_⟩
  rcases h2 with h2 | ⟨g, cap, cur, rfl, a1, a2, a3⟩
  · exact .inl h2
  · exact .inr ⟨g, cap, cur, rfl, a1, hc.heap a2 (hn g rfl), a3⟩
theorem own_form {w : World} {e sz : Nat} {v : Value} {m : Nat} {xs : List Value} (h : w.ownsRow 0 e sz v m xs) : ∃ a cap, v = .slice a m cap := by
  rcases h.2 with ⟨rfl, rfl⟩ | ⟨g, cap, cur, rfl, _⟩
  · exact ⟨_, _, rfl⟩
  · exact ⟨_, _, rfl⟩
theorem own_cell {w : World} {e sz : Nat} {a : Option Addr} {m n cap : Nat} {xs : List Value} (h : w.ownsRow 0 e sz (.slice a n cap) m xs) (hp : 0 < xs.length) : ∃ g, a = some ⟨g, 0, none⟩ ∧ ∀ j x, xs[j]? = some x → w.cell? ⟨g, j, none⟩ = some x := by
  obtain ⟨h1, h2⟩ := h
  rcases h2 with ⟨_, rfl⟩ | ⟨g, cp, cur, hv, _, hh, _, _, hcs, ht⟩
  · simp at h1; rw [h1] at hp; simp at hp
  · injection hv with hv1 hv2 hv3
    refine ⟨g, hv1, fun j x hj => ?_⟩
    rw [cell_at' hh]
    have hjl : j < m * sz := by
      rw [← h1]
      by_cases hlt : j < xs.length
      · exact hlt
      · rw [List.getElem?_eq_none (by omega)] at hj; cases hj
    rw [← ht, List.getElem?_take, if_pos hjl] at hj
    simpa using hj
theorem own_lt {w : World} {e sz : Nat} {v : Value} {m : Nat} {xs : List Value} (h : w.ownsRow 0 e sz v m xs) {b : Nat} (hb : v.ownBlock = some b) : b < w.heap.size := by
  rcases h.2 with ⟨rfl, _⟩ | ⟨g, cap, cur, rfl, _, a2, _⟩
  · cases hb
  · cases hb; exact lt_of_heap a2

/-- append(s, news..): s is nil or the call's own. -/
theorem WL.append {t e es be : Nat} {de : TypeDesc} {ze : Value} {sz by_ : Nat} {z : Value} {v : Value} {m : Nat} {xs : List Value} {ad : Addr} {mm c : Nat} {news : List Value} [hT : HasT P t (.slice e) sz by_ z] [hE : HasT P e de es be ze]
    (hzs : ze.cells.size = es) (hsz : 0 < es) (hx : opnd s x = some v) (hy : opnd s y = some (.slice (some ad) mm c)) (hown : w.ownsRow 0 e es v m xs) (hl : news.length = mm * es) (hnews : ∀ j u, news[j]? = some u → w.cell? (ad.add j) = some u) (h1 : ∀ u ∈ news, u.oneCell' = true)
    (h63 : m + mm ≤ maxLen) (hbytes : (m + mm) * be ≤ 140737488355328) (hd : Nat.blt d n = true)
    (k : ∀ v' w', w'.ownsRow 0 e es v' (m + mm) (xs ++ news) → Chg v.ownBlock.toList w w' → (v'.ownBlock = v.ownBlock ∨ v'.ownBlock = some w.heap.size) → WL P ops K rest n D ((d, v') :: s) w') :
    WL P ops K (⟨some d, .call ⟨.builtin .append, [x, y].toArray, #[t, t]⟩, ty, pos, af, none⟩ :: rest) n D s w := by
  obtain ⟨i, hi, hi1, hi2, hi3⟩ := hE.inf
  obtain ⟨v', w', hr, ho, hg, _, hloc⟩ := run_append_own_at (P := P) w 0 t ty e i ze es be hT.und hi hi3 hi1 hi2 hzs hsz v m xs hown ad mm c news hl hnews h1 h63 hbytes (Nat.zero_le _)
  refine WL.ev (v := v') (w' := w') (fun ρ d' pos af g hρ => ?_) hd (k _ _ ho ⟨hg.os, hg.tape, hg.output, hg.size, fun j hj hn => hg.block j hj fun he => hn ?_⟩ hloc)
  · have e1 := hρ x _ hx
    have e2 := hρ y _ hy
    simp [execOp, resolve, invoke, builtin, e1, e2, hr]
  · rw [← he]; simp
/-- append(s, nothing). -/
theorem Ev.append0 {t e es be : Nat} {de : TypeDesc} {ze : Value} {sz by_ : Nat} {z : Value} {v : Value} {m : Nat} {xs : List Value} [hT : HasT P t (.slice e) sz by_ z] [hE : HasT P e de es be ze]
    (hx : opnd s x = some v) (hy : opnd s y = some (.slice none 0 0)) (hown : w.ownsRow 0 e es v m xs) :
    Ev P s (.call ⟨.builtin .append, [x, y].toArray, #[t, t]⟩) ty w v w := fun ρ d' pos af g hρ => by
  obtain ⟨i, hi, hi1, hi2, hi3⟩ := hE.inf
  have e1 := hρ x _ hx
  have e2 := hρ y _ hy
  have := run_append_owned_none (P := P) w 0 t ty e i es hT.und hi v m xs hown
  simp [execOp, resolve, invoke, builtin, e1, e2, this]
/-- append(s, news..), whatever is added: nothing, or a part of a slice. -/
theorem WL.appendAny {t e es be : Nat} {de : TypeDesc} {ze : Value} {sz by_ : Nat} {z : Value} {v : Value} {m : Nat} {xs : List Value} {a : Option Addr} {mm c : Nat} {news : List Value} [hT : HasT P t (.slice e) sz by_ z] [hE : HasT P e de es be ze]
    (hzs : ze.cells.size = es) (hsz : 0 < es) (hx : opnd s x = some v) (hy : opnd s y = some (.slice a mm c)) (hown : w.ownsRow 0 e es v m xs) (hl : news.length = mm * es) (hnil : a = none → mm = 0 ∧ c = 0) (hnews : ∀ ad, a = some ad → ∀ j u, news[j]? = some u → w.cell? (ad.add j) = some u) (h1 : ∀ u ∈ news, u.oneCell' = true)
    (h63 : m + mm ≤ maxLen) (hbytes : (m + mm) * be ≤ 140737488355328) (hd : Nat.blt d n = true)
    (k : ∀ v' w', w'.ownsRow 0 e es v' (m + mm) (xs ++ news) → Chg v.ownBlock.toList w w' → (v'.ownBlock = v.ownBlock ∨ v'.ownBlock = some w.heap.size) → WL P ops K rest n D ((d, v') :: s) w') :
    WL P ops K (⟨some d, .call ⟨.builtin .append, [x, y].toArray, #[t, t]⟩, ty, pos, af, none⟩ :: rest) n D s w := by
  cases a with
  | some ad => exact WL.append hzs hsz hx hy hown hl (hnews ad rfl) h1 h63 hbytes hd k
  | none =>
    obtain ⟨rfl, rfl⟩ := hnil rfl
    have hn : news = [] := List.length_eq_zero_iff.1 (by omega)
    subst hn
    refine WL.ev (Ev.append0 hx hy hown) hd (k v w ?_ (Chg.refl _ _) (.inl rfl))
    rw [List.append_nil, Nat.add_zero]
    exact hown
/-- Storing a struct, as a step of a region in any order. -/
theorem evS_storeAgg {t : TypeId} {ds : TypeDesc} {sz by_ : Nat} {z : Value} {b i : Nat} {l vs : List Value} {T : TypeId} [hT : HasT P t ds sz by_ z] (hx : opnd s x = some (.pointer (some ⟨b, i, none⟩))) (hy : opnd s y = some (.agg vs.toArray)) (hs : vs.length = sz) (h1 : ∀ v ∈ vs, v.oneCell' = true)
    (hb : w.heap[b]? = some (.cells l.toArray T (0, 0))) (hi : i + vs.length ≤ l.length) : ∃ w', EvS P s (.store t x y) ty w w' ∧ Upd w b (.cells (splice l i vs).toArray T (0, 0)) w' := by
  obtain ⟨w', hr, hu⟩ := run_storeCells (P := P) b T vs l i 0 w h1 hb (by simpa using hi)
  refine ⟨w', fun ρ d' pos af g hρ => ?_, by simpa using hu⟩
  have e1 := hρ x _ hx
  have e2 := hρ y _ hy
  have e3 : (Value.agg vs.toArray).cells = vs.toArray := rfl
  simp [execOp, e1, e2, Instr.storeAt, Instr.sureAddr, storeVar, hT.sizeOf, e3, hs, hr]
theorem own_cases {w : World} {e sz : Nat} {v : Value} {m : Nat} {xs : List Value} (h : w.ownsRow 0 e sz v m xs) : (v = .slice none 0 0 ∧ m = 0 ∧ xs = []) ∨ ∃ g cap, v = .slice (some ⟨g, 0, none⟩) m cap ∧ m ≤ cap ∧ g < w.heap.size ∧ ∀ j x, xs[j]? = some x → w.cell? ⟨g, j, none⟩ = some x := by
  have hf := @own_cell w e sz
  obtain ⟨h1, h2⟩ := h
  rcases h2 with ⟨rfl, rfl⟩ | ⟨g, cp, cur, rfl, a1, a2, a3, a4, a5⟩
  · exact .inl ⟨rfl, rfl, List.length_eq_zero_iff.1 (by omega)⟩
  · refine .inr ⟨g, cp, rfl, a3, lt_of_heap a2, fun j x hj => ?_⟩
    by_cases hp : 0 < xs.length
    · obtain ⟨g', hg, hc⟩ := own_cell (a := some ⟨g, 0, none⟩) (cap := cp) ⟨h1, .inr ⟨g, cp, cur, rfl, a1, a2, a3, a4, a5⟩⟩ hp
      injection hg with hg; injection hg with hg; subst hg
      exact hc j x hj
    · rw [List.getElem?_eq_none (by omega)] at hj; cases hj
/-- append, as a step of a region in any order. -/
theorem ev_append {t e es be : Nat} {de : TypeDesc} {ze : Value} {sz by_ : Nat} {z : Value} {v : Value} {m : Nat} {xs : List Value} {ad : Addr} {mm c : Nat} {news : List Value} [hT : HasT P t (.slice e) sz by_ z] [hE : HasT P e de es be ze]
    (hzs : ze.cells.size = es) (hsz : 0 < es) (hx : opnd s x = some v) (hy : opnd s y = some (.slice (some ad) mm c)) (hown : w.ownsRow 0 e es v m xs) (hl : news.length = mm * es) (hnews : ∀ j u, news[j]? = some u → w.cell? (ad.add j) = some u) (h1 : ∀ u ∈ news, u.oneCell' = true)
    (h63 : m + mm ≤ maxLen) (hbytes : (m + mm) * be ≤ 140737488355328) :
    ∃ v' w', Ev P s (.call ⟨.builtin .append, [x, y].toArray, #[t, t]⟩) ty w v' w' ∧ w'.ownsRow 0 e es v' (m + mm) (xs ++ news) ∧ Chg v.ownBlock.toList w w' ∧ (v'.ownBlock = v.ownBlock ∨ v'.ownBlock = some w.heap.size) := by
  obtain ⟨i, hi, hi1, hi2, hi3⟩ := hE.inf
  obtain ⟨v', w', hr, ho, hg, _, hloc⟩ := run_append_own_at (P := P) w 0 t ty e i ze es be hT.und hi hi3 hi1 hi2 hzs hsz v m xs hown ad mm c news hl hnews h1 h63 hbytes (Nat.zero_le _)
  refine ⟨v', w', fun ρ d' pos af g hρ => ?_, ho, ⟨hg.os, hg.tape, hg.output, hg.size, fun j hj hn => hg.block j hj fun he => hn ?_⟩, hloc⟩
  · have e1 := hρ x _ hx
    have e2 := hρ y _ hy
    simp [execOp, resolve, invoke, builtin, e1, e2, hr]
  · rw [← he]; simp
theorem ev_buildSlice {t e : TypeId} {de : TypeDesc} {sz by_ es be : Nat} {z ze : Value} {ps : List (Nat × Operand)} {vs : List (Nat × Value)} {cs : List Value} {m : Nat} [hT : HasT P t (.slice e) sz by_ z] [hE : HasT P e de es be ze]
    (hm : m * es ≤ 2 ^ 24) (hp : 0 < m * es) (hx : opndP s ps = some vs) (hf : Instr.fill (fun i => some (i * es, es)) ((Array.range (m * es)).map (ze.cells[· % ze.cells.size]!)) vs = some cs.toArray) :
    ∃ b w', Ev P s (.buildSlice t m ps.toArray) ty w (.slice (some ⟨b, 0, none⟩) m m) w' ∧ New w b (.cells cs.toArray e) w' :=
  ⟨w.heap.size, w.alloc (.cells cs.toArray e), fun ρ d' pos af g hρ => by
    have h1 := opndP_map hρ ps vs hx
    have h3 : ¬ (16777216 < m * es) := by have : (2 : Nat) ^ 24 = 16777216 := rfl; omega
    have h4 : ¬ (m * es = 0) := by omega
    have h5 : ¬ (m = 0 ∨ es = 0) := by
      intro h; rcases h with h | h <;> simp [h] at hp
    simp [execOp, Instr.buildSlice, hT.underlying, hE.sizeOf, hE.zero, h1, h3, h5, hf, newRow]
    intro h; exact absurd h h4, new_alloc _ _⟩
/-- The address of an element, whatever the slice's own address is. -/
theorem Ev.indexAddrG {t : TypeId} {ad : Addr} {m c e : Nat} {es be : Nat} {k : IntKind} {i : Int} {de : TypeDesc} {ze : Value} {sz by_ : Nat} {z : Value} [hT : HasT P t (.slice e) sz by_ z] [hE : HasT P e de es be ze] (hx : opnd s x = some (.slice (some ad) m c)) (hy : opnd s y = some (.int k i)) (h0 : 0 ≤ i) (h1 : i < m) :
    Ev P s (.indexAddr t x y) ty w (.pointer (some (ad.add (i.toNat * es)))) w := fun ρ d' pos af g hρ => by
  have e1 := hρ x _ hx
  have e2 := hρ y _ hy
  simp [execOp, e1, e2, Instr.indexAt, asIntOf, hT.underlying, h0, h1, hE.sizeOf]
theorem Ev.eql_bool {t t' : TypeId} {sz by_ : Nat} {z : Value} {a b : Bool} [hT : HasT P t .bool sz by_ z] (hx : opnd s x = some (.bool a)) (hy : opnd s y = some (.bool b)) : Ev P s (.binOp .eql t x y t') ty w (.bool (a == b)) w :=
  run_bin hx hy (fun _ _ => eqGuard_bool _ _ _ _ _ _) (by
    have := run_eqIn (P := P) (w := w) (t := t) (u := .bool a) (v := .bool b) (r := a == b) fun d => by simp [Op.equalIn, hT.underlying]
    simp only [binOp]
    simp [this])
/-- A store into one cell, as a step of a region in any order. -/
theorem evS_store {t : TypeId} {ds : TypeDesc} {by_ : Nat} {z : Value} {b i : Nat} {l : List Value} {T : TypeId} {v : Value} [hT : HasT P t ds 1 by_ z] (hx : opnd s x = some (.pointer (some ⟨b, i, none⟩))) (hy : opnd s y = some v) (h1 : v.oneCell' = true)
    (hb : w.heap[b]? = some (.cells l.toArray T (0, 0))) (hi : i < l.length) : EvS P s (.store t x y) ty w (w.setCell ⟨b, i, none⟩ v) ∧ Upd w b (.cells (l.set i v).toArray T (0, 0)) (w.setCell ⟨b, i, none⟩ v) :=
  ⟨fun ρ d' pos af g hρ => by
    have e1 := hρ x _ hx
    have e2 := hρ y _ hy
    have e3 : v.cells = #[v] := by cases v <;> first | rfl | cases h1
    have e4 : w.cell? ⟨b, i, none⟩ = some l[i] := by rw [cell_at hb]; simp [hi]
    have e5 : w.frozen? ⟨b, i, none⟩ = false := frozen_no hb
    simp [execOp, e1, e2, Instr.storeAt, Instr.sureAddr, storeVar, hT.sizeOf, e3, storeCells, Addr.add, run_store _ _ _ _ _ h1, e4, e5], upd_setCell w b i l T v hb⟩
end
end Go.Proofs.Ytjlmenmlpmfokaa.Sx
