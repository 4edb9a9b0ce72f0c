/- Part 1 of what the proof rests on. No condition. -/
import Derived.WalkKit
import Derived.Deep.Quiet
import Derived.StillTail
import Derived.Maps.AppendAt
import Derived.Laws.IdiomCopy
import Derived.Laws.CopyOwn
import Derived.OrdersHeld
import Derived.Laws.CopyRow
import Derived.Laws.Tables
import Derived.ArgAppend
import Derived.KernelRfl
import Derived.Test.YtnbipejaidbihaaGreatDoorProg
import Derived.Defers
set_option linter.unusedVariables false
set_option linter.unusedSimpArgs false
set_option maxRecDepth 100000
set_option maxHeartbeats 4000000
namespace Go.Proofs.YtnbipejaidbihaaGreatDoor
/- A small engine for walks: a frame is a list of known slots; each form of code and each operation has one lemma, applied by name. No condition. -/
namespace Sx
open Go

abbrev Sl := List (Nat × Value)
def look : Sl → Nat → Option Value
  | [], _ => none
  | (k, v) :: s, t => bif Nat.beq k t then some v else look s t

theorem look_cons (k : Nat) (v : Value) (s : Sl) (t : Nat) : look ((k, v) :: s) t = if k = t then some v else look s t := by
  simp only [look]
  by_cases h : k = t
  · subst h; simp
  · have : Nat.beq k t = false := Bool.eq_false_iff.2 fun e => h (Nat.eq_of_beq_eq_true e)
    rw [this]; simp [h]

structure Fr (n : Nat) (D : List Deferred) (s : Sl) (a : Act) : Prop where
  size : a.tmps.size = n
  defers : a.defers = D
  cell : ∀ t v, look s t = some v → a.tmps[t]? = some v

def opnd (s : Sl) : Operand → Option Value
  | .tmp t => look s t
  | .const v => some v
  | .global g => some (.pointer (some ⟨g, 0, none⟩))
  | .func f => some (.func (.func f) #[] #[])

theorem Fr.eval {n : Nat} {D : List Deferred} {s : Sl} {a : Act} (h : Fr n D s a) {x : Operand} {v : Value} (hx : opnd s x = some v) : a.eval x = v := by
  cases x with
  | tmp t =>
    have := h.cell t v hx
    simp only [Act.eval, Array.getD_eq_getD_getElem?, this]; rfl
  | const c => exact Option.some.inj hx
  | global g => exact Option.some.inj hx
  | func f => exact Option.some.inj hx

theorem Fr.put {n : Nat} {D : List Deferred} {s : Sl} {a : Act} (h : Fr n D s a) {d : Nat} (hd : Nat.blt d n = true) (v : Value) : Fr n D ((d, v) :: s) (a.put (some d) v) := by
  have hd' : d < n := by simpa [Nat.blt_eq] using hd
  refine ⟨by simp [Act.put, h.size], by simp [Act.put, h.defers], fun t u ht => ?_⟩
  rw [look_cons] at ht
  simp only [Act.put, Array.getElem?_setIfInBounds]
  by_cases e : d = t
  · subst e
    rw [if_pos rfl] at ht
    simp [h.size, hd', ht]
  · rw [if_neg e] at ht
    simp [e, h.cell t u ht]

/-- Fewer known slots. -/
def Subs (s' s : Sl) : Prop := ∀ t v, look s' t = some v → look s t = some v
theorem Subs.nil {s : Sl} : Subs [] s := fun _ _ h => by cases h
theorem Subs.cons {s s' : Sl} {t : Nat} {v : Value} (h : look s t = some v) (hs : Subs s' s) : Subs ((t, v) :: s') s := fun u x hx => by
  rw [look_cons] at hx
  by_cases e : t = u
  · subst e; rw [if_pos rfl] at hx; rw [h, hx]
  · rw [if_neg e] at hx; exact hs u x hx
theorem Subs.refl {s : Sl} : Subs s s := fun _ _ h => h
theorem Fr.sub {n : Nat} {D : List Deferred} {s s' : Sl} {a : Act} (h : Fr n D s a) (hs : Subs s' s) : Fr n D s' a := ⟨h.size, h.defers, fun t v ht => h.cell t v (hs t v ht)⟩

/-! ### Code -/
abbrev KK := List Deferred → Sl → World → Prop
abbrev AQ := Exit → List Deferred → Sl → World → Prop
def liftA (n : Nat) (A : AQ) : Exit → Act → World → Prop := fun e a w => ∃ D s, Fr n D s a ∧ A e D s w
def CW (P : Program) (c : Code) (A : AQ) (n : Nat) (D : List Deferred) (s : Sl) (w : World) : Prop := ∀ a, Fr n D s a → c.wp P (liftA n A) a w
def thenK (K : KK) (A : AQ) : AQ
  | .normal => K
  | e => A e
def inBlk (id : Nat) (A : AQ) : AQ
  | .exit id' => if id' = id then A .normal else A (.exit id')
  | e => A e

section
variable {P : Program} {A : AQ} {n : Nat} {D : List Deferred} {s : Sl} {w : World}

theorem liftA_then (K : KK) (e : Exit) (a : Act) (w : World) (h : liftA n (thenK K A) e a w) : Exit.then (fun a w => ∃ D s, Fr n D s a ∧ K D s w) (liftA n A) e a w := by
  cases e <;> exact h

theorem CW.mono {c : Code} {A' : AQ} (h : CW P c A n D s w) (hA : ∀ e D s w, A e D s w → A' e D s w) : CW P c A' n D s w := fun a ha =>
  wp_mono (h a ha) fun e a w ⟨D, s, hf, hq⟩ => ⟨D, s, hf, hA _ _ _ _ hq⟩
theorem CW.sub {c : Code} {s' : Sl} (hs : Subs s' s) (h : CW P c A n D s' w) : CW P c A n D s w := fun a ha => h a (ha.sub hs)

theorem CW.seq {x y : Code} (h : ∀ K : KK, (∀ D s w, CW P y A n D s w → K D s w) → CW P x (thenK K A) n D s w) : CW P (.seq x y) A n D s w := fun a ha => by
  refine wp_seq (wp_mono (h (fun D s w => CW P y A n D s w) (fun _ _ _ h => h) a ha) fun e a w hq => ?_)
  have := liftA_then _ _ _ _ hq
  cases e with
  | normal => obtain ⟨D, s, hf, hk⟩ := this; exact hk a hf
  | _ => exact this

theorem CW.seqJ {x y : Code} (J : KK) (hx : CW P x (thenK J A) n D s w) (hy : ∀ D s w, J D s w → CW P y A n D s w) : CW P (.seq x y) A n D s w :=
  CW.seq fun K hK => hx.mono fun e D s w h => by
    cases e with
    | normal => exact hK _ _ _ (hy _ _ _ h)
    | _ => exact h
theorem CW.skip (h : A .normal D s w) : CW P .skip A n D s w := fun a ha => wp_skip ⟨D, s, ha, h⟩
theorem CW.ret (h : A .ret D s w) : CW P .ret A n D s w := fun a ha => wp_ret ⟨D, s, ha, h⟩
theorem CW.exit {id : Nat} (h : A (.exit id) D s w) : CW P (.exit id) A n D s w := fun a ha => wp_exit ⟨D, s, ha, h⟩
theorem CW.block {id : Nat} {c : Code} (h : CW P c (inBlk id A) n D s w) : CW P (.block id c) A n D s w := fun a ha =>
  wp_block (wp_mono (h a ha) fun e a w hq => by
    cases e with
    | exit id' =>
      obtain ⟨D, s, hf, hk⟩ := hq
      simp only [inBlk] at hk
      simp only [Exit.inBlock]
      split at hk
      · rename_i h; rw [if_pos h]; exact ⟨D, s, hf, hk⟩
      · rename_i h; rw [if_neg h]; exact ⟨D, s, hf, hk⟩
    | _ => exact hq)
theorem CW.cond {c : Operand} {x y : Code} {b : Bool} (hc : opnd s c = some (.bool b)) (ht : b = true → CW P x A n D s w) (hf : b = false → CW P y A n D s w) : CW P (.cond c x y) A n D s w := fun a ha =>
  wp_cond_split (ha.eval hc) (fun h => ht h a ha) (fun h => hf h a ha)
theorem CW.condT {c : Operand} {x y : Code} (hc : opnd s c = some (.bool true)) (ht : CW P x A n D s w) : CW P (.cond c x y) A n D s w := CW.cond hc (fun _ => ht) (fun h => by cases h)
theorem CW.condF {c : Operand} {x y : Code} (hc : opnd s c = some (.bool false)) (ht : CW P y A n D s w) : CW P (.cond c x y) A n D s w := CW.cond hc (fun h => by cases h) (fun _ => ht)

/-- A loop: the ghost g tells the slots; 'Inv g w' holds at each round's head. -/
theorem CW.loop {G : Type} {c : Code} (S : G → Sl) (Inv : G → World → Prop) (mu : G → Nat) (g0 : G) (h0 : Inv g0 w) (hs : Subs (S g0) s)
    (round : ∀ g w, Inv g w → CW P c (thenK (fun D' s' w' => D' = D ∧ ∃ g', Subs (S g') s' ∧ Inv g' w' ∧ mu g' < mu g) A) n D (S g) w) : CW P (.loop c) A n D s w := fun a ha => by
  have key : ∀ m, ∀ g w a, mu g = m → Inv g w → Fr n D (S g) a → (Code.loop c).wp P (liftA n A) a w := by
    intro m g w a hm hi hf
    refine wp_loop (fun a w => ∃ g, Inv g w ∧ Fr n D (S g) a) (fun a w => Classical.epsilon fun k => ∃ g, Inv g w ∧ Fr n D (S g) a ∧ mu g = k ∧ ∀ g', Inv g' w → Fr n D (S g') a → k ≤ mu g') ⟨g, hi, hf⟩ ?_
    intro a w hI
    have least : ∀ (a : Act) (w : World), (∃ g, Inv g w ∧ Fr n D (S g) a) → ∃ k, ∃ g, Inv g w ∧ Fr n D (S g) a ∧ mu g = k ∧ ∀ g', Inv g' w → Fr n D (S g') a → k ≤ mu g' := by
      intro a w ⟨g, hg⟩
      have : ∀ k, ∀ g, mu g = k → Inv g w → Fr n D (S g) a → ∃ k, ∃ g, Inv g w ∧ Fr n D (S g) a ∧ mu g = k ∧ ∀ g', Inv g' w → Fr n D (S g') a → k ≤ mu g' := by
        intro k
        induction k using Nat.strongRecOn with
        | _ k ih =>
          intro g hk hi hf
          by_cases hmin : ∀ g', Inv g' w → Fr n D (S g') a → k ≤ mu g'
          · exact ⟨k, g, hi, hf, hk, hmin⟩
          · have : ∃ g', Inv g' w ∧ Fr n D (S g') a ∧ mu g' < k := by
              apply Classical.byContradiction
              intro hno
              apply hmin
              intro g' hi' hf'
              apply Nat.le_of_not_lt
              intro hlt
              exact hno ⟨g', hi', hf', hlt⟩
            obtain ⟨g', hi', hf', hlt⟩ := this
            exact ih _ hlt g' rfl hi' hf'
      exact this _ g rfl hg.1 hg.2
    obtain ⟨g1, hi1, hf1, hmu, hmin⟩ := Classical.epsilon_spec (least a w hI)
    refine wp_mono (round g1 w hi1 a hf1) fun e a' w' hq => ?_
    have hq' := liftA_then _ _ _ _ hq
    cases e with
    | normal =>
      obtain ⟨D', s', hf', rfl, g', hsub, hinv, hlt⟩ := hq'
      have hf2 := hf'.sub hsub
      refine ⟨⟨g', hinv, hf2⟩, ?_⟩
      obtain ⟨_, _, _, _, hmin'⟩ := Classical.epsilon_spec (least a' w' ⟨g', hinv, hf2⟩)
      have := hmin' g' hinv hf2
      rw [← hmu]
      exact Nat.lt_of_le_of_lt this hlt
    | _ => exact hq'
  exact key _ g0 w a rfl h0 (ha.sub hs)

/-! ### A function -/
def Ret (P : Program) (f : FuncId) (args : List Value) (w : World) (R : Value → World → Prop) : Prop :=
  Calls P f args.toArray w fun e w' => ∃ v, e = .returned v ∧ R v w'
theorem Ret.mono {f : FuncId} {args : List Value} {R R' : Value → World → Prop} (h : Ret P f args w R) (hr : ∀ v w', R v w' → R' v w') : Ret P f args w R' :=
  Calls.mono h fun _ _ ⟨v, he, hR⟩ => ⟨v, he, hr _ _ hR⟩

/-- What the results' variables hold. -/
def ResS (P : Program) (fn : Func) (n : Nat) (D : List Deferred) (s : Sl) (w : World) (v : Value) : Prop := ∀ a, Fr n D s a → (results fn a.tmps).run P w = .ok v w
def bodyA (P : Program) (fn : Func) (n : Nat) (R : Value → World → Prop) : AQ
  | .normal, D, s, w | .ret, D, s, w => D = [] ∧ ∃ v, ResS P fn n D s w v ∧ R v w
  | _, _, _, _ => False

def args0 : Nat → List Value → Sl
  | _, [] => []
  | i, v :: r => (i, v) :: args0 (i + 1) r
theorem look_args0 (l : List Value) : ∀ i t, look (args0 i l) t = if i ≤ t then l[t - i]? else none := by
  induction l with
  | nil => intro i t; simp [args0, look]
  | cons v r ih =>
    intro i t
    rw [args0, look_cons, ih]
    by_cases h : i = t
    · subst h; simp
    · by_cases h2 : i ≤ t
      · have h3 : i + 1 ≤ t := by omega
        have h4 : t - i = (t - (i + 1)) + 1 := by omega
        simp [h, h2, h3, h4]
      · have h3 : ¬ i + 1 ≤ t := by omega
        simp [h, h2, h3]

theorem Ret.enter {f : FuncId} {fn : Func} {c : Code} {args : List Value} {R : Value → World → Prop} (hf : P.funcs[f]? = some fn) (hb : fn.body = some c) (hn : Nat.ble args.length fn.ntmps = true)
    (h : CW P c (bodyA P fn fn.ntmps R) fn.ntmps [] (args0 0 args) w) : Ret P f args w R := by
  have hn' : args.length ≤ fn.ntmps := by simpa [Nat.ble_eq] using hn
  refine calls_of_wp hf hb (wp_mono (h _ ⟨by simp; omega, rfl, fun t v ht => ?_⟩) fun e a w hq => ?_)
  · rw [look_args0] at ht
    simp only [Nat.zero_le, if_true, Nat.sub_zero] at ht
    have hlt : t < args.length := by
      by_cases hl : t < args.length
      · exact hl
      · rw [List.getElem?_eq_none (by omega)] at ht; cases ht
    rw [Array.getElem?_append_left (by simpa using hlt)]
    simpa using ht
  · obtain ⟨D, s, hfr, hk⟩ := hq
    cases e with
    | normal => obtain ⟨hd, v, hres, hR⟩ := hk; exact ⟨by rw [hfr.defers, hd], v, hres a hfr, v, rfl, hR⟩
    | ret => obtain ⟨hd, v, hres, hR⟩ := hk; exact ⟨by rw [hfr.defers, hd], v, hres a hfr, v, rfl, hR⟩
    | _ => exact hk.elim

theorem Fr.getD {a : Act} (h : Fr n D s a) {t : Nat} {v : Value} (ht : look s t = some v) : a.tmps.getD t undef = v := by
  simp only [Array.getD_eq_getD_getElem?, h.cell t v ht]; rfl

theorem bodyA.mk {fn : Func} {R : Value → World → Prop} {e : Exit} (he : e = .ret ∨ e = .normal) {v : Value} (h : ResS P fn n [] s w v) (hR : R v w) : bodyA P fn n R e [] s w := by
  rcases he with rfl | rfl <;> exact ⟨rfl, v, h, hR⟩
attribute [irreducible] bodyA
theorem bodyA.ret0 {fn : Func} {R : Value → World → Prop} (hr : fn.results = #[]) (h : R (.tuple #[]) w) : bodyA P fn n R .ret [] s w :=
  bodyA.mk (.inl rfl) (fun a ha => results_none hr _ _ _) h
theorem bodyA.norm0 {fn : Func} {R : Value → World → Prop} (hr : fn.results = #[]) (h : R (.tuple #[]) w) : bodyA P fn n R .normal [] s w :=
  bodyA.mk (.inr rfl) (fun a ha => results_none hr _ _ _) h
theorem bodyA.ret1 {fn : Func} {R : Value → World → Prop} {t : Nat} {v : Value} (hr : fn.results = #[.tmp t]) (ht : look s t = some v) (h : R v w) : bodyA P fn n R .ret [] s w :=
  bodyA.mk (.inl rfl) (fun a ha => by rw [results_tmp hr, ha.getD ht]) h
theorem bodyA.ret2 {fn : Func} {R : Value → World → Prop} {t u : Nat} {v x : Value} (hr : fn.results = #[.tmp t, .tmp u]) (ht : look s t = some v) (hu : look s u = some x) (h : R (.tuple #[v, x]) w) : bodyA P fn n R .ret [] s w :=
  bodyA.mk (.inl rfl) (fun a ha => by rw [results_tmp2 hr, ha.getD ht, ha.getD hu]) h

/-! ### Regions in the order of the text -/
def post (n : Nat) (K : KK) : Exit → Act → World → Prop
  | .normal, a, w => ∃ D s, Fr n D s a ∧ K D s w
  | _, _, _ => False
def WL (P : Program) (ops : Array Oper) (K : KK) (l : List Oper) (n : Nat) (D : List Deferred) (s : Sl) (w : World) : Prop := ∀ a, Fr n D s a → wpList P ops (post n K) l a w

theorem post_lift {K : KK} (hK : ∀ D s w, K D s w → A .normal D s w) (e : Exit) (a : Act) (w : World) (h : post n K e a w) : liftA n A e a w := by
  cases e with
  | normal => obtain ⟨D, s, hf, hk⟩ := h; exact ⟨D, s, hf, hK _ _ _ hk⟩
  | _ => exact h.elim

theorem upon_mono {o : Oper} {a : Act} {next next' : Act → World → Prop} {Q Q' : Exit → Act → World → Prop} (hn : ∀ a w, next a w → next' a w) (hq : ∀ e a w, Q e a w → Q' e a w) (r : Result Next) (h : o.upon P a next Q r) : o.upon P a next' Q' r := by
  have ho : LetsOut Q → LetsOut Q' := fun ⟨a, w, h⟩ => ⟨a, w, hq _ _ _ h⟩
  cases r with
  | ok x w =>
    cases x with
    | value v => exact hn _ _ h
    | skip => exact hn _ _ h
    | defer d => exact hn _ _ h
    | enter f args => exact Calls.mono h fun e w' he => by cases e <;> first | exact hn _ _ he | exact hq _ _ _ he | exact ho he
    | row r args => exact Rows.mono h fun v w' hv => hn _ _ hv
    | _ => exact h.elim
  | halt x w =>
    cases x with
    | panic v => exact hq _ _ _ h
    | _ => exact h.elim
theorem wpList_mono {ops : Array Oper} {Q Q' : Exit → Act → World → Prop} (hq : ∀ e a w, Q e a w → Q' e a w) : ∀ (l : List Oper) (a : Act) (w : World), wpList P ops Q l a w → wpList P ops Q' l a w
  | [], a, w, h => hq _ _ _ h
  | o :: r, a, w, h => by
    unfold wpList at h ⊢
    split
    · rename_i hw
      rw [if_pos hw] at h
      rcases h with h | ⟨h, h'⟩
      · exact .inl (upon_mono (wpList_mono hq r) hq _ h)
      · exact .inr ⟨h, let ⟨a, w, hh⟩ := h'; ⟨a, w, hq _ _ _ hh⟩⟩
    · rename_i hw
      rw [if_neg hw] at h
      exact wpList_mono hq r _ _ h

theorem CW.region {id : Nat} {l : List Oper} (h : ∀ K : KK, (∀ D s w, A .normal D s w → K D s w) → WL P l.toArray K l n D s w) : CW P (.region id l.toArray false) A n D s w := fun a ha =>
  wp_mono (wp_region_lit (h (fun D s w => A .normal D s w) (fun _ _ _ h => h) a ha)) (post_lift fun _ _ _ h => h)

variable {ops : Array Oper} {K : KK} {rest : List Oper}
theorem WL.nil (h : K D s w) : WL P ops K [] n D s w := fun a ha => wpList_nil ⟨D, s, ha, h⟩

/-- What an operation yields, read off the known slots. -/
def Ev (P : Program) (s : Sl) (op : Op) (ty : TypeId) (w : World) (v : Value) (w' : World) : Prop :=
  ∀ (ρ : Operand → Value) (d : Option Tmp) (pos : String) (af : Array Edge) (g : Option (Nat × Bool)), (∀ x u, opnd s x = some u → ρ x = u) → (execOp ρ ⟨d, op, ty, pos, af, g⟩).run P w = .ok (.value v) w'
def EvS (P : Program) (s : Sl) (op : Op) (ty : TypeId) (w : World) (w' : World) : Prop :=
  ∀ (ρ : Operand → Value) (d : Option Tmp) (pos : String) (af : Array Edge) (g : Option (Nat × Bool)), (∀ x u, opnd s x = some u → ρ x = u) → (execOp ρ ⟨d, op, ty, pos, af, g⟩).run P w = .ok .skip w'

section
variable {op : Op} {ty : TypeId} {pos : String} {af : Array Edge} {d : Nat} {v : Value} {w' : World}
theorem WL.ev (he : Ev P s op ty w v w') (hd : Nat.blt d n = true) (k : WL P ops K rest n D ((d, v) :: s) w') : WL P ops K (⟨some d, op, ty, pos, af, none⟩ :: rest) n D s w := fun a ha =>
  wpList_plain rfl fun K' hK => by
    unfold Oper.wp
    rw [he a.eval (some d) pos af none fun x u hx => ha.eval hx]
    exact hK _ _ (k _ (ha.put hd v))
theorem WL.evs (he : EvS P s op ty w w') (k : WL P ops K rest n D s w') : WL P ops K (⟨none, op, ty, pos, af, none⟩ :: rest) n D s w := fun a ha =>
  wpList_plain rfl fun K' hK => by
    unfold Oper.wp
    rw [he a.eval none pos af none fun x u hx => ha.eval hx]
    exact hK _ _ (k _ ha)
end

def opnds (s : Sl) : List Operand → Option (List Value)
  | [] => some []
  | x :: r => match opnd s x, opnds s r with
    | some v, some vs => some (v :: vs)
    | _, _ => none
theorem opnds_map {ρ : Operand → Value} (h : ∀ x u, opnd s x = some u → ρ x = u) : ∀ (l : List Operand) vs, opnds s l = some vs → l.map ρ = vs
  | [], vs, he => by simp only [opnds] at he; cases he; rfl
  | x :: r, vs, he => by
    simp only [opnds] at he
    split at he
    · rename_i v vs' h1 h2
      cases he
      simp [h x v h1, opnds_map h r vs' h2]
    · cases he

/-- Function f of the program has a body. -/
def HasF (P : Program) (f : FuncId) : Prop := ∃ fn c, P.funcs[f]? = some fn ∧ fn.body = some c ∧ (fn.name == "runtime.NumGoroutine") = false
theorem HasF.run {f : FuncId} (h : HasF P f) (args : Array Value) : (callFunc f args).run P w = .ok (.enter f args) w := by
  obtain ⟨fn, c, h1, h2, h3⟩ := h
  have h4 : ¬ fn.name = "runtime.NumGoroutine" := by simpa using h3
  simp [callFunc, h1, h2, h4]

section
variable {ty : TypeId} {pos : String} {af : Array Edge} {d : Nat}
theorem exec_call {f : FuncId} {xs : List Operand} {at_ : Array TypeId} {vs : List Value} {ρ : Operand → Value} {o : Oper} (hF : HasF P f) (ho : o.op = .call ⟨.value (.func f), xs.toArray, at_⟩) (hx : opnds s xs = some vs)
    (h : ∀ x u, opnd s x = some u → ρ x = u) : (execOp ρ o).run P w = .ok (.enter f vs.toArray) w := by
  have e1 : ρ (.func f) = .func (.func f) #[] #[] := h _ _ rfl
  have e2 := opnds_map h xs vs hx
  unfold execOp
  simp [ho, resolve, e1, Deferred.ofValue, invoke, e2, HasF.run hF]
theorem WL.call {f : FuncId} {xs : List Operand} {at_ : Array TypeId} {vs : List Value} {R : Value → World → Prop} (hF : HasF P f) (hx : opnds s xs = some vs) (hd : Nat.blt d n = true) (h : Ret P f vs w R)
    (k : ∀ v w', R v w' → WL P ops K rest n D ((d, v) :: s) w') : WL P ops K (⟨some d, .call ⟨.value (.func f), xs.toArray, at_⟩, ty, pos, af, none⟩ :: rest) n D s w := fun a ha =>
  wpList_plain rfl fun K' hK => by
    unfold Oper.wp
    rw [exec_call hF rfl hx fun x u hx => ha.eval hx]
    exact Calls.mono h fun e w' ⟨v, he, hR⟩ => by subst he; exact hK _ _ (k v w' hR _ (ha.put hd v))
end

/-! ### Guards -/
section
variable {op : Op} {ty : TypeId} {pos : String} {af : Array Edge} {dst : Option Tmp} {d j : Nat} {b : Bool}
theorem yieldedAt {a : Act} (ha : Fr n D s a) {g : Oper} {x : Bool} {t : Nat} (hg : ops[j]? = some g) (ht : g.dst = some t) (hx : look s t = some (.bool x)) : Region.wanted ⟨dst, op, ty, pos, af, some (j, b)⟩ (yielded ops a.tmps) = (x == b) := by
  simp [Region.wanted, yielded, hg, ht, ha.cell t _ hx]

theorem wpList_guard {Q : Exit → Act → World → Prop} {a : Act} {gd : Option (Nat × Bool)} (hw : Region.wanted ⟨dst, op, ty, pos, af, gd⟩ (yielded ops a.tmps) = true) (h : wpList P ops Q (⟨dst, op, ty, pos, af, none⟩ :: rest) a w) : wpList P ops Q (⟨dst, op, ty, pos, af, gd⟩ :: rest) a w := by
  unfold wpList at h ⊢
  rw [if_pos hw]
  rw [if_pos (by simp [Region.wanted])] at h
  exact h
theorem WL.want {g : Oper} {x : Bool} {t : Nat} (hg : ops[j]? = some g) (ht : g.dst = some t) (hx : look s t = some (.bool x)) (hb : (x == b) = true) (k : WL P ops K (⟨dst, op, ty, pos, af, none⟩ :: rest) n D s w) :
    WL P ops K (⟨dst, op, ty, pos, af, some (j, b)⟩ :: rest) n D s w := fun a ha => wpList_guard (by rw [yieldedAt ha hg ht hx]; exact hb) (k a ha)
theorem WL.pass {g : Oper} {x : Bool} {t : Nat} (hg : ops[j]? = some g) (ht : g.dst = some t) (hx : look s t = some (.bool x)) (hb : (x == b) = false) (hd : Nat.blt d n = true) (k : WL P ops K rest n D ((d, undef) :: s) w) :
    WL P ops K (⟨some d, op, ty, pos, af, some (j, b)⟩ :: rest) n D s w := fun a ha => by
  unfold wpList
  rw [if_neg (by rw [yieldedAt ha hg ht hx, hb]; simp)]
  exact k _ (ha.put hd undef)
theorem yieldedU {a : Act} (ha : Fr n D s a) {g : Oper} {t : Nat} (hg : ops[j]? = some g) (ht : g.dst = some t) (hx : look s t = some undef) : Region.wanted ⟨dst, op, ty, pos, af, some (j, b)⟩ (yielded ops a.tmps) = false := by
  simp [Region.wanted, yielded, hg, ht, ha.cell t _ hx, undef]
/-- Behind an operation that was passed over. -/
theorem WL.passU {g : Oper} {t : Nat} (hg : ops[j]? = some g) (ht : g.dst = some t) (hx : look s t = some undef) (hd : Nat.blt d n = true) (k : WL P ops K rest n D ((d, undef) :: s) w) :
    WL P ops K (⟨some d, op, ty, pos, af, some (j, b)⟩ :: rest) n D s w := fun a ha => by
  unfold wpList
  rw [if_neg (by rw [yieldedU ha hg ht hx]; simp)]
  exact k _ (ha.put hd undef)
end
end
end Sx

/- What each operation yields, read off the known slots: one lemma an operation. No condition. -/
namespace Sx
open Go

/-! ### How the world goes on -/
/-- Nothing that was there has turned, but for the blocks of T. -/
structure Chg (T : List Nat) (w w' : World) : Prop where
  os : w'.os = w.os
  tape : w'.tape = w.tape
  output : w'.output = w.output
  size : w.heap.size ≤ w'.heap.size
  block : ∀ k, k < w.heap.size → k ∉ T → w'.heap[k]? = w.heap[k]?
theorem Chg.refl (T : List Nat) (w : World) : Chg T w w := ⟨rfl, rfl, rfl, Nat.le_refl _, fun _ _ _ => rfl⟩
theorem Chg.trans {T : List Nat} {a b c : World} (h : Chg T a b) (k : Chg T b c) : Chg T a c :=
  ⟨k.os.trans h.os, k.tape.trans h.tape, k.output.trans h.output, Nat.le_trans h.size k.size, fun i hi hn => (k.block i (Nat.lt_of_lt_of_le hi h.size) hn).trans (h.block i hi hn)⟩
theorem Chg.mono {T T' : List Nat} {a b : World} (h : Chg T a b) (hT : ∀ x, x ∈ T → x ∈ T') : Chg T' a b :=
  ⟨h.os, h.tape, h.output, h.size, fun i hi hn => h.block i hi fun hm => hn (hT _ hm)⟩
theorem Chg.any {T : List Nat} {a b : World} (h : Chg [] a b) : Chg T a b := h.mono fun x hx => by cases hx
theorem Chg.below {a b : World} (h : Chg [] a b) : RowKit.Below a.heap.size a b := ⟨h.os, h.tape, h.output, h.size, fun k hk => h.block k hk (by simp)⟩
theorem Chg.heap {T : List Nat} {a b : World} (h : Chg T a b) {k : Nat} {o : Obj} (hk : a.heap[k]? = some o) (hn : k ∉ T) : b.heap[k]? = some o := by
  rw [h.block k ?_ hn]; exact hk
  by_cases hlt : k < a.heap.size
  · exact hlt
  · rw [Array.getElem?_eq_none (by omega)] at hk; cases hk
theorem lt_of_heap {w : World} {k : Nat} {o : Obj} (hk : w.heap[k]? = some o) : k < w.heap.size := by
  by_cases hlt : k < w.heap.size
  · exact hlt
  · rw [Array.getElem?_eq_none (by omega)] at hk; cases hk
theorem Chg.drew (T : List Nat) (w : World) : Chg T w w.drew := ⟨rfl, rfl, rfl, Nat.le_refl _, fun _ _ _ => rfl⟩

/-- A new block. -/
structure New (w : World) (b : Nat) (o : Obj) (w' : World) : Prop where
  chg : Chg [] w w'
  at_ : w'.heap[b]? = some o
  is : b = w.heap.size
  size : w'.heap.size = w.heap.size + 1
theorem new_alloc (w : World) (o : Obj) : New w w.heap.size o (w.alloc o) :=
  ⟨⟨rfl, rfl, rfl, by simp, fun k hk _ => RowKit.Below.heap_alloc _ _ _ hk⟩, heap_alloc_new w o, rfl, by simp⟩
/-- One block turned. -/
structure Upd (w : World) (b : Nat) (o : Obj) (w' : World) : Prop where
  chg : Chg [b] w w'
  at_ : w'.heap[b]? = some o
  size : w'.heap.size = w.heap.size

/-! ### Types -/
class HasT (P : Program) (t : TypeId) (d : outParam TypeDesc) (sz by_ : outParam Nat) (z : outParam Value) : Prop where
  und : P.underlying t = some d
  all : (P.info? t).map (fun i => (i.size, i.bytes, i.zero)) = some (sz, by_, some z)
theorem HasT.inf {P : Program} {t : TypeId} {d : TypeDesc} {sz by_ : Nat} {z : Value} (h : HasT P t d sz by_ z) : ∃ i, P.info? t = some i ∧ i.size = sz ∧ i.bytes = by_ ∧ i.zero = some z := by
  have := h.all
  cases hi : P.info? t with
  | none => rw [hi] at this; cases this
  | some i => rw [hi] at this; simp at this; exact ⟨i, rfl, this.1, this.2.1, this.2.2⟩
def aggD : TypeDesc → Bool
  | .struct _ | .array _ _ => true
  | _ => false

section
variable {P : Program} {t : TypeId} {d : TypeDesc} {sz by_ : Nat} {z : Value} {w : World}
theorem HasT.sizeOf (h : HasT P t d sz by_ z) : (sizeOf t).run P w = .ok sz w := by
  obtain ⟨i, h1, h2, _, _⟩ := h.inf
  simp [Go.sizeOf, typeInfo, h1, h2]
theorem HasT.zero (h : HasT P t d sz by_ z) : (zeroValue t).run P w = .ok z w := by
  obtain ⟨i, h1, _, _, h2⟩ := h.inf
  simp [zeroValue, typeInfo, h1, h2]
theorem HasT.underlying (h : HasT P t d sz by_ z) : (underlying t).run P w = .ok d w := by
  simp [Go.underlying, h.und]
theorem HasT.isAgg (h : HasT P t d sz by_ z) : (isAgg t).run P w = .ok (aggD d) w := by
  have := h.underlying (w := w)
  simp only [Go.isAgg, Sem.run_bind, this, Result.andThen]
  cases d <;> rfl
end

section
variable {P : Program} {s : Sl} {w : World} {ty : TypeId} {x y : Operand}
theorem Ev.move {v : Value} (h : opnd s x = some v) : Ev P s (.move x) ty w v w := fun ρ d pos af g hρ => by
  have := hρ x v h
  simp [execOp, this]
theorem Ev.assign {v : Value} (h : opnd s x = some v) : Ev P s (.assign x) ty w v w := fun ρ d pos af g hρ => by
  have := hρ x v h
  simp [execOp, this]
theorem Ev.pickT {c a b : Operand} {t : Bool} {v : Value} (hc : opnd s c = some (.bool t)) (ht : t = true) (ha : opnd s a = some v) : Ev P s (.pick c a b) ty w v w := fun ρ d pos af g hρ => by
  have h1 := hρ c _ hc
  have h2 := hρ a _ ha
  simp [execOp, h1, h2, asBool, ht]
theorem Ev.pickF {c a b : Operand} {t : Bool} {v : Value} (hc : opnd s c = some (.bool t)) (ht : t = false) (hb : opnd s b = some v) : Ev P s (.pick c a b) ty w v w := fun ρ d pos af g hρ => by
  have h1 := hρ c _ hc
  have h2 := hρ b _ hb
  simp [execOp, h1, h2, asBool, ht]
theorem Ev.extract {l : List Value} {i : Nat} {v : Value} (h : opnd s x = some (.tuple l.toArray)) (hv : l[i]? = some v) : Ev P s (.extract x i) ty w v w := fun ρ d pos af g hρ => by
  have h1 := hρ x _ h
  simp [execOp, h1, Instr.extract, hv]
theorem Ev.nilPtr {a : Addr} (h : opnd s x = some (.pointer (some a))) : Ev P s (.nilCheck x) ty w (.pointer (some a)) w := fun ρ d pos af g hρ => by
  have h1 := hρ x _ h
  simp [execOp, h1]

/-! ### Whole numbers -/
theorem run_bin {op : BinOp} {t t' : TypeId} {u v r : Value} (hx : opnd s x = some u) (hy : opnd s y = some v) (hg : ∀ x y, (eqGuard op t x y u v).run P w = .ok () w) (h : (binOp op t u v).run P w = .ok r w) :
    Ev P s (.binOp op t x y t') ty w r w := fun ρ d pos af g hρ => by
  have h1 := hρ x _ hx
  have h2 := hρ y _ hy
  simp [execOp, h1, h2, hg, h]
theorem eqGuard_int (op : BinOp) (t : TypeId) (x y : Operand) (k k' : IntKind) (a b : Int) : (eqGuard op t x y (.int k a) (.int k' b)).run P w = .ok () w := by
  unfold eqGuard; split <;> simp
theorem eqGuard_float (op : BinOp) (t : TypeId) (x y : Operand) (k k' : FloatKind) (a b : Nat) : (eqGuard op t x y (.float k a) (.float k' b)).run P w = .ok () w := by
  unfold eqGuard; split <;> simp
theorem eqGuard_bool (op : BinOp) (t : TypeId) (x y : Operand) (a b : Bool) : (eqGuard op t x y (.bool a) (.bool b)).run P w = .ok () w := by
  unfold eqGuard; split <;> simp
theorem eqGuard_ptr (op : BinOp) (t : TypeId) (x y : Operand) (a b : Option Addr) : (eqGuard op t x y (.pointer a) (.pointer b)).run P w = .ok () w := by
  unfold eqGuard; split <;> simp

section
variable {t t' : TypeId} {k : IntKind} {a b : Int}
theorem Ev.add (hx : opnd s x = some (.int k a)) (hy : opnd s y = some (.int k b)) : Ev P s (.binOp .add t x y t') ty w (.int k (k.wrap (a + b))) w :=
  run_bin hx hy (fun _ _ => eqGuard_int _ _ _ _ _ _ _ _) (by simp [binOp, Op.intArith])
theorem Ev.sub (hx : opnd s x = some (.int k a)) (hy : opnd s y = some (.int k b)) : Ev P s (.binOp .sub t x y t') ty w (.int k (k.wrap (a - b))) w :=
  run_bin hx hy (fun _ _ => eqGuard_int _ _ _ _ _ _ _ _) (by simp [binOp, Op.intArith])
theorem wrap_in {k : IntKind} {n : Int} (h : k.min ≤ n ∧ n ≤ k.max) : k.wrap n = n := by
  obtain ⟨h1, h2⟩ := h
  cases k <;> simp [IntKind.min, IntKind.max, IntKind.signed, IntKind.bits] at h1 h2 <;> simp [IntKind.wrap, IntKind.signed, IntKind.bits] <;> omega
theorem wrap_i64 {n : Int} (h : -9223372036854775808 ≤ n ∧ n ≤ 9223372036854775807) : IntKind.i64.wrap n = n := IntWalk.i64_in n h
theorem Ev.addIn {a b : Int} (hx : opnd s x = some (.int .i64 a)) (hy : opnd s y = some (.int .i64 b)) (h : -9223372036854775808 ≤ a + b ∧ a + b ≤ 9223372036854775807) : Ev P s (.binOp .add t x y t') ty w (.int .i64 (a + b)) w := by
  have := Ev.add (P := P) (w := w) (ty := ty) (t := t) (t' := t') hx hy
  rwa [wrap_i64 h] at this
theorem Ev.subIn {a b : Int} (hx : opnd s x = some (.int .i64 a)) (hy : opnd s y = some (.int .i64 b)) (h : -9223372036854775808 ≤ a - b ∧ a - b ≤ 9223372036854775807) : Ev P s (.binOp .sub t x y t') ty w (.int .i64 (a - b)) w := by
  have := Ev.sub (P := P) (w := w) (ty := ty) (t := t) (t' := t') hx hy
  rwa [wrap_i64 h] at this
theorem Ev.mul (hx : opnd s x = some (.int k a)) (hy : opnd s y = some (.int k b)) : Ev P s (.binOp .mul t x y t') ty w (.int k (k.wrap (a * b))) w :=
  run_bin hx hy (fun _ _ => eqGuard_int _ _ _ _ _ _ _ _) (by simp [binOp, Op.intArith])
theorem Ev.quo (hx : opnd s x = some (.int k a)) (hy : opnd s y = some (.int k b)) (h : b ≠ 0) : Ev P s (.binOp .quo t x y t') ty w (.int k (k.wrap (a.tdiv b))) w :=
  run_bin hx hy (fun _ _ => eqGuard_int _ _ _ _ _ _ _ _) (by simp [binOp, Op.intDiv, h])
theorem Ev.rem (hx : opnd s x = some (.int k a)) (hy : opnd s y = some (.int k b)) (h : b ≠ 0) : Ev P s (.binOp .rem t x y t') ty w (.int k (a.tmod b)) w :=
  run_bin hx hy (fun _ _ => eqGuard_int _ _ _ _ _ _ _ _) (by simp [binOp, Op.intDiv, h])
theorem Ev.remIn (hx : opnd s x = some (.int k a)) (hy : opnd s y = some (.int k b)) (h0 : 0 ≤ a) (h : 0 < b) : Ev P s (.binOp .rem t x y t') ty w (.int k (a % b)) w := by
  have := Ev.rem (P := P) (w := w) (ty := ty) (t := t) (t' := t') hx hy (by omega)
  rwa [Int.tmod_eq_emod_of_nonneg h0] at this
theorem Ev.quoIn (hx : opnd s x = some (.int k a)) (hy : opnd s y = some (.int k b)) (h0 : 0 ≤ a) (h1 : a ≤ k.max) (h : 0 < b) : Ev P s (.binOp .quo t x y t') ty w (.int k (a / b)) w := by
  have := Ev.quo (P := P) (w := w) (ty := ty) (t := t) (t' := t') hx hy (by omega)
  have h2 := Int.ediv_le_self b h0
  have h3 := Int.ediv_nonneg h0 (by omega : 0 ≤ b)
  have h4 : k.min ≤ 0 := by cases k <;> decide
  rwa [Int.tdiv_eq_ediv_of_nonneg h0, wrap_in ⟨by omega, by omega⟩] at this
theorem Ev.lss (hx : opnd s x = some (.int k a)) (hy : opnd s y = some (.int k b)) : Ev P s (.binOp .lss t x y t') ty w (.bool (decide (a < b))) w :=
  run_bin hx hy (fun _ _ => eqGuard_int _ _ _ _ _ _ _ _) (by simp [binOp, Op.intCmp])
theorem Ev.leq (hx : opnd s x = some (.int k a)) (hy : opnd s y = some (.int k b)) : Ev P s (.binOp .leq t x y t') ty w (.bool (decide (a ≤ b))) w :=
  run_bin hx hy (fun _ _ => eqGuard_int _ _ _ _ _ _ _ _) (by simp [binOp, Op.intCmp])
theorem Ev.gtr (hx : opnd s x = some (.int k a)) (hy : opnd s y = some (.int k b)) : Ev P s (.binOp .gtr t x y t') ty w (.bool (decide (b < a))) w :=
  run_bin hx hy (fun _ _ => eqGuard_int _ _ _ _ _ _ _ _) (by simp [binOp, Op.intCmp])
theorem Ev.geq (hx : opnd s x = some (.int k a)) (hy : opnd s y = some (.int k b)) : Ev P s (.binOp .geq t x y t') ty w (.bool (decide (b ≤ a))) w :=
  run_bin hx hy (fun _ _ => eqGuard_int _ _ _ _ _ _ _ _) (by simp [binOp, Op.intCmp])
theorem Ev.eql (hx : opnd s x = some (.int k a)) (hy : opnd s y = some (.int k b)) : Ev P s (.binOp .eql t x y t') ty w (.bool (decide (a = b))) w :=
  run_bin hx hy (fun _ _ => eqGuard_int _ _ _ _ _ _ _ _) (by simp [binOp, Op.intCmp]; rw [Bool.eq_iff_iff]; simp)
theorem Ev.neq (hx : opnd s x = some (.int k a)) (hy : opnd s y = some (.int k b)) : Ev P s (.binOp .neq t x y t') ty w (.bool (decide (a ≠ b))) w :=
  run_bin hx hy (fun _ _ => eqGuard_int _ _ _ _ _ _ _ _) (by simp [binOp, Op.intCmp]; rw [Bool.eq_iff_iff]; simp)
/-- & | ^ &^ as they stand. -/
def bits2 (op : BinOp) (k : IntKind) (a b : Int) : Int :=
  let u := BitVec.ofInt k.bits a
  let v := BitVec.ofInt k.bits b
  match op with
  | .and => k.wrap (u &&& v).toNat
  | .or => k.wrap (u ||| v).toNat
  | .xor => k.wrap (u ^^^ v).toNat
  | .andNot => k.wrap (u &&& ~~~v).toNat
  | _ => 0
theorem Ev.bits {op : BinOp} (hop : (op = .and ∨ op = .or) ∨ (op = .xor ∨ op = .andNot)) (hx : opnd s x = some (.int k a)) (hy : opnd s y = some (.int k b)) : Ev P s (.binOp op t x y t') ty w (.int k (bits2 op k a b)) w :=
  run_bin hx hy (fun _ _ => eqGuard_int _ _ _ _ _ _ _ _) (by rcases hop with (rfl | rfl) | (rfl | rfl) <;> simp [binOp, Op.intBits, bits2])
theorem Ev.and (hx : opnd s x = some (.int k a)) (hy : opnd s y = some (.int k b)) : Ev P s (.binOp .and t x y t') ty w (.int k (bits2 .and k a b)) w := Ev.bits (.inl (.inl rfl)) hx hy
theorem Ev.or (hx : opnd s x = some (.int k a)) (hy : opnd s y = some (.int k b)) : Ev P s (.binOp .or t x y t') ty w (.int k (bits2 .or k a b)) w := Ev.bits (.inl (.inr rfl)) hx hy
theorem Ev.xor (hx : opnd s x = some (.int k a)) (hy : opnd s y = some (.int k b)) : Ev P s (.binOp .xor t x y t') ty w (.int k (bits2 .xor k a b)) w := Ev.bits (.inr (.inl rfl)) hx hy
theorem Ev.andNot (hx : opnd s x = some (.int k a)) (hy : opnd s y = some (.int k b)) : Ev P s (.binOp .andNot t x y t') ty w (.int k (bits2 .andNot k a b)) w := Ev.bits (.inr (.inr rfl)) hx hy
theorem Ev.shl {k' : IntKind} (hx : opnd s x = some (.int k a)) (hy : opnd s y = some (.int k' b)) (h : 0 ≤ b) : Ev P s (.binOp .shl t x y t') ty w (.int k (k.wrap (a * 2 ^ (min b.toNat k.bits)))) w :=
  run_bin hx hy (fun _ _ => eqGuard_int _ _ _ _ _ _ _ _) (by simp [binOp, Op.shift, Int.not_lt.2 h])
theorem Ev.shr {k' : IntKind} (hx : opnd s x = some (.int k a)) (hy : opnd s y = some (.int k' b)) (h : 0 ≤ b) : Ev P s (.binOp .shr t x y t') ty w (.int k (a.fdiv (2 ^ (min b.toNat k.bits)))) w :=
  run_bin hx hy (fun _ _ => eqGuard_int _ _ _ _ _ _ _ _) (by simp [binOp, Op.shift, Int.not_lt.2 h])
theorem Ev.conv {src dst : TypeId} {d d' : TypeDesc} {sz by_ sz' by' : Nat} {z z' : Value} {k' : IntKind} [hs : HasT P src d sz by_ z] [hd : HasT P dst d' sz' by' z'] (hk : d' = .int k') (hx : opnd s x = some (.int k a)) :
    Ev P s (.convert src dst x) ty w (.int k' (k'.wrap a)) w := fun ρ d pos af g hρ => by
  have h1 := hρ x _ hx
  subst hk
  simp [execOp, h1, convert, hs.underlying, hd.underlying, Conv.intToInt]
theorem Ev.neg (hx : opnd s x = some (.int k a)) : Ev P s (.unOp .neg t x) ty w (.int k (k.wrap (0 - a))) w := fun ρ d pos af g hρ => by
  have h1 := hρ x _ hx
  simp [execOp, h1, Op.unary, Op.intArith]
theorem Ev.compl (hx : opnd s x = some (.int k a)) : Ev P s (.unOp .xor t x) ty w (.int k (bits2 .xor k (if k.signed then -1 else k.max) a)) w := fun ρ d pos af g hρ => by
  have h1 := hρ x _ hx
  simp [execOp, h1, Op.unary, Op.intBits, bits2]
end
theorem Ev.not {t : TypeId} {b : Bool} (hx : opnd s x = some (.bool b)) : Ev P s (.unOp .not t x) ty w (.bool !b) w := fun ρ d pos af g hρ => by
  have h1 := hρ x _ hx
  simp [execOp, h1, Op.unary]

/-! ### Floats -/
section
variable {t t' : TypeId} {k : FloatKind} {a b : Nat}
theorem Ev.feql (hx : opnd s x = some (.float k a)) (hy : opnd s y = some (.float k b)) : Ev P s (.binOp .eql t x y t') ty w (.bool (k.format.order a b == some .eq)) w :=
  run_bin hx hy (fun _ _ => eqGuard_float _ _ _ _ _ _ _ _) (by simp [binOp, Op.floatCmp])
theorem Ev.fneq (hx : opnd s x = some (.float k a)) (hy : opnd s y = some (.float k b)) : Ev P s (.binOp .neq t x y t') ty w (.bool (k.format.order a b != some .eq)) w :=
  run_bin hx hy (fun _ _ => eqGuard_float _ _ _ _ _ _ _ _) (by simp [binOp, Op.floatCmp])
theorem Ev.fgtr (hx : opnd s x = some (.float k a)) (hy : opnd s y = some (.float k b)) : Ev P s (.binOp .gtr t x y t') ty w (.bool (k.format.order a b == some .gt)) w :=
  run_bin hx hy (fun _ _ => eqGuard_float _ _ _ _ _ _ _ _) (by simp [binOp, Op.floatCmp])
theorem Ev.fneg (hx : opnd s x = some (.float k a)) : Ev P s (.unOp .neg t x) ty w (.float k (Op.negFloat k a)) w := fun ρ d pos af g hρ => by
  have h1 := hρ x _ hx
  simp [execOp, h1, Op.unary]
end

/-- A function without a body. -/
theorem Ev.ext {f : FuncId} {xs : List Operand} {at_ : Array TypeId} {vs : List Value} {v : Value} (hx : opnds s xs = some vs) (h : (callFunc f vs.toArray).run P w = .ok (.value v) w) : Ev P s (.call ⟨.value (.func f), xs.toArray, at_⟩) ty w v w := fun ρ d pos af g hρ => by
  have e1 : ρ (.func f) = .func (.func f) #[] #[] := hρ _ _ rfl
  have e2 := opnds_map hρ xs vs hx
  simp [execOp, resolve, e1, Deferred.ofValue, invoke, e2, h]

/-! ### Memory -/
section
variable {t : TypeId} {d : TypeDesc} {sz by_ : Nat} {z : Value} {a : Addr}
theorem Ev.load {v : Value} [hT : HasT P t d sz by_ z] (hd : aggD d = false) (hx : opnd s x = some (.pointer (some a))) (hc : w.cell? a = some v) : Ev P s (.load t x) ty w v w := fun ρ d' pos af g hρ => by
  have h1 := hρ x _ hx
  simp [execOp, h1, Instr.loadAt, Instr.sureAddr, loadVar, hT.isAgg, hd, hc]
theorem Ev.loadAgg {cs : List Value} [hT : HasT P t d sz by_ z] (hd : aggD d = true) (hl : cs.length = sz) (hx : opnd s x = some (.pointer (some a))) (hc : ∀ j v, cs[j]? = some v → w.cell? (a.add j) = some v) : Ev P s (.load t x) ty w (.agg cs.toArray) w := fun ρ d' pos af g hρ => by
  have h1 := hρ x _ hx
  have h2 := run_loadCells_list (P := P) w a cs hc
  rw [hl] at h2
  simp [execOp, h1, Instr.loadAt, Instr.sureAddr, loadVar, hT.isAgg, hd, hT.sizeOf, h2]
/-- Field i of the struct type t lies off cells behind its head. -/
class HasFld (P : Program) (t : TypeId) (i : Nat) (off : outParam Nat) : Prop where
  run : ∀ (a : Addr) (w : World), (Instr.fieldAt t (.pointer (some a)) i).run P w = .ok (.pointer (some (a.add off))) w
theorem add_addr (b o off : Nat) : Addr.add ⟨b, o, none⟩ off = ⟨b, o + off, none⟩ := by
  unfold Addr.add; split
  · rename_i h; subst h; rfl
  · rfl
theorem Ev.fieldAddr {i b o off : Nat} [hF : HasFld P t i off] (hx : opnd s x = some (.pointer (some ⟨b, o, none⟩))) :
    Ev P s (.fieldAddr t x i) ty w (.pointer (some ⟨b, o + off, none⟩)) w := fun ρ d' pos af g hρ => by
  have h1 := hρ x _ hx
  have h2 := hF.run ⟨b, o, none⟩ w
  rw [add_addr] at h2
  simp [execOp, h1, h2]
end
end
end Sx

/- Memory in the engine: new blocks, stores, slices, make, append, copy. No condition. -/
namespace Sx
open Go

theorem New.ge {w w' : World} {b : Nat} {o : Obj} (h : New w b o w') : w.heap.size ≤ b := by have := h.is; omega
theorem cell_at {w : World} {b i : Nat} {l : List Value} {t : TypeId} {fr : Nat × Nat} (h : w.heap[b]? = some (.cells l.toArray t fr)) : w.cell? ⟨b, i, none⟩ = l[i]? := by
  rw [cell_of_row w b i _ t fr h]; simp
theorem cell_at' {w : World} {b i : Nat} {l : Array Value} {t : TypeId} {fr : Nat × Nat} (h : w.heap[b]? = some (.cells l t fr)) : w.cell? ⟨b, i, none⟩ = l[i]? := cell_of_row w b i _ t fr h
theorem Chg.cell {T : List Nat} {w w' : World} (h : Chg T w w') {p : Addr} {v : Value} (hv : w.cell? p = some v) (hn : p.block ∉ T) : w'.cell? p = some v := by
  rw [World.cell?_of_block (w := w) (h.block _ (block_lt_of_cell hv) hn)]; exact hv

theorem upd_setCell (w : World) (b i : Nat) (l : List Value) (t : TypeId) (v : Value) (h : w.heap[b]? = some (.cells l.toArray t (0, 0))) : Upd w b (.cells (l.set i v).toArray t (0, 0)) (w.setCell ⟨b, i, none⟩ v) := by
  refine ⟨⟨rfl, rfl, rfl, by simp, fun k hk hn => ?_⟩, ?_, by simp⟩
  · exact RowKit.Below.heap_setCell _ _ _ _ (by simpa using hn)
  · rw [heap_setCell_same w b i _ t v h]; simp

section
variable {P : Program} {n : Nat} {D : List Deferred} {s : Sl} {w : World} {ty : TypeId} {x y : Operand} {ops : Array Oper} {K : KK} {rest : List Oper} {pos : String} {af : Array Edge} {d : Nat}

theorem WL.box {t : TypeId} {v : Value} {l : List Value} (hx : opnd s x = some v) (hl : v.cells = l.toArray) (hd : Nat.blt d n = true)
    (k : ∀ b w', New w b (.cells l.toArray t) w' → WL P ops K rest n D ((d, .pointer (some ⟨b, 0, none⟩)) :: s) w') : WL P ops K (⟨some d, .box t x, ty, pos, af, none⟩ :: rest) n D s w :=
  WL.ev (v := .pointer (some ⟨w.heap.size, 0, none⟩)) (w' := w.alloc (.cells l.toArray t)) (fun ρ d' pos af g hρ => by
    have h1 := hρ x _ hx
    simp [execOp, h1, Instr.box, newVar, newRow, hl]) hd (k _ _ (new_alloc _ _))
theorem WL.alloc {t : TypeId} {ds : TypeDesc} {sz by_ : Nat} {z : Value} {l : List Value} [hT : HasT P t ds sz by_ z] (hl : z.cells = l.toArray) (hd : Nat.blt d n = true)
    (k : ∀ b w', New w b (.cells l.toArray t) w' → WL P ops K rest n D ((d, .pointer (some ⟨b, 0, none⟩)) :: s) w') : WL P ops K (⟨some d, .alloc t, ty, pos, af, none⟩ :: rest) n D s w :=
  WL.ev (v := .pointer (some ⟨w.heap.size, 0, none⟩)) (w' := w.alloc (.cells l.toArray t)) (fun ρ d' pos af g hρ => by
    simp [execOp, Instr.alloc, hT.zero, newVar, newRow, hl]) hd (k _ _ (new_alloc _ _))

theorem frozen_no {w : World} {b i : Nat} {l : Array Value} {t : TypeId} (h : w.heap[b]? = some (.cells l t (0, 0))) : w.frozen? ⟨b, i, none⟩ = false := by
  simp [World.frozen?, h]

/-- A store into one cell of a known block. -/
theorem WL.store {t : TypeId} {ds : TypeDesc} {by_ : Nat} {z : Value} {b i : Nat} {l : List Value} {T : TypeId} {v : Value} [hT : HasT P t ds 1 by_ z] (hx : opnd s x = some (.pointer (some ⟨b, i, none⟩))) (hy : opnd s y = some v) (h1 : v.oneCell' = true)
    (hb : w.heap[b]? = some (.cells l.toArray T (0, 0))) (hi : i < l.length) (k : ∀ w', Upd w b (.cells (l.set i v).toArray T (0, 0)) w' → WL P ops K rest n D s w') : WL P ops K (⟨none, .store t x y, ty, pos, af, none⟩ :: rest) n D s w :=
  WL.evs (w' := w.setCell ⟨b, i, none⟩ v) (fun ρ d' pos af g hρ => by
    have e1 := hρ x _ hx
    have e2 := hρ y _ hy
    have e3 : v.cells = #[v] := by cases v <;> first | rfl | cases h1
    have e4 : w.cell? ⟨b, i, none⟩ = some l[i] := by rw [cell_at hb]; simp [hi]
    have e5 : w.frozen? ⟨b, i, none⟩ = false := frozen_no hb
    simp [execOp, e1, e2, Instr.storeAt, Instr.sureAddr, storeVar, hT.sizeOf, e3, storeCells, Addr.add, run_store _ _ _ _ _ h1, e4, e5]) (k _ (upd_setCell w b i l T v hb))

/-- Cells i .. of a row are written, one behind the other. -/
def splice (l : List Value) (i : Nat) : List Value → List Value
  | [] => l
  | v :: r => splice (l.set i v) (i + 1) r
theorem run_storeCells (b : Nat) (T : TypeId) : ∀ (vs : List Value) (l : List Value) (o j : Nat) (w : World), (∀ v ∈ vs, v.oneCell' = true) → w.heap[b]? = some (.cells l.toArray T (0, 0)) → o + j + vs.length ≤ l.length →
    ∃ w', (storeCells ⟨b, o, none⟩ vs j).run P w = .ok () w' ∧ Upd w b (.cells (splice l (o + j) vs).toArray T (0, 0)) w' := by
  intro vs
  induction vs with
  | nil => intro l o j w _ hb _; exact ⟨w, by simp [storeCells], ⟨Chg.refl _ _, hb, rfl⟩⟩
  | cons v r ih =>
    intro l o j w h1 hb hl
    simp only [List.length_cons] at hl
    have ha : (Addr.add ⟨b, o, none⟩ j) = ⟨b, o + j, none⟩ := by
      unfold Addr.add; split
      · rename_i h; subst h; rfl
      · rfl
    have e4 : w.cell? ⟨b, o + j, none⟩ = some l[o + j] := by rw [cell_at hb]; simp
    have e5 : w.frozen? ⟨b, o + j, none⟩ = false := frozen_no hb
    have hu := upd_setCell w b (o + j) l T v hb
    obtain ⟨w', hr, hu'⟩ := ih (l.set (o + j) v) o (j + 1) (w.setCell ⟨b, o + j, none⟩ v) (fun x hx => h1 x (by simp [hx])) hu.at_ (by simp; omega)
    refine ⟨w', ?_, ⟨hu.chg.trans hu'.chg, hu'.at_, by rw [hu'.size, hu.size]⟩⟩
    simp only [storeCells, Sem.run_bind, ha, run_store _ _ _ _ _ (h1 v (by simp)), e4, e5]
    simpa using hr
/-- A store of a struct into a known block. -/
theorem WL.storeAgg {t : TypeId} {ds : TypeDesc} {sz by_ : Nat} {z : Value} {b i : Nat} {l vs : List Value} {T : TypeId} [hT : HasT P t ds sz by_ z] (hx : opnd s x = some (.pointer (some ⟨b, i, none⟩))) (hy : opnd s y = some (.agg vs.toArray)) (hs : vs.length = sz) (h1 : ∀ v ∈ vs, v.oneCell' = true)
    (hb : w.heap[b]? = some (.cells l.toArray T (0, 0))) (hi : i + vs.length ≤ l.length) (k : ∀ w', Upd w b (.cells (splice l i vs).toArray T (0, 0)) w' → WL P ops K rest n D s w') : WL P ops K (⟨none, .store t x y, ty, pos, af, none⟩ :: rest) n D s w := by
  obtain ⟨w', hr, hu⟩ := run_storeCells (P := P) b T vs l i 0 w h1 hb (by simpa using hi)
  refine WL.evs (w' := w') (fun ρ d' pos af g hρ => ?_) (k _ (by simpa using hu))
  have e1 := hρ x _ hx
  have e2 := hρ y _ hy
  have e3 : (Value.agg vs.toArray).cells = vs.toArray := rfl
  simp [execOp, e1, e2, Instr.storeAt, Instr.sureAddr, storeVar, hT.sizeOf, e3, hs, hr]

/-! ### Pointers held against each other -/
theorem run_eqIn {w : World} {t : TypeId} {u v : Value} {r : Bool} (h : ∀ d, (Op.equalIn (d + 1) t u v).run P w = .ok r w) : (Op.equal t u v).run P w = .ok r w := h 9999
theorem run_neq_ptr {w : World} {t : TypeId} {a b : Option Addr} {r : Bool} (h : ∀ d, (Op.equalIn (d + 1) t (.pointer a) (.pointer b)).run P w = .ok r w) : (binOp .neq t (.pointer a) (.pointer b)).run P w = .ok (.bool (!r)) w := by
  have := run_eqIn h
  simp only [binOp]
  simp [this]
theorem Ev.neqPtrNil {t t' e : TypeId} {sz by_ : Nat} {z : Value} {a : Option Addr} [hT : HasT P t (.pointer e) sz by_ z] (hx : opnd s x = some (.pointer a)) (hy : opnd s y = some (.pointer none)) : Ev P s (.binOp .neq t x y t') ty w (.bool (!a.isNone)) w :=
  run_bin hx hy (fun _ _ => eqGuard_ptr _ _ _ _ _ _) (run_neq_ptr fun d => by
    cases a <;> simp [Op.equalIn, hT.underlying])

/-! ### Results that lie in memory -/
def rdR (tmps : Array Value) : ResultVar → Sem Value
  | .tmp t => pure (tmps.getD t undef)
  | .cell a t => do loadVar t (← asAddr (tmps.getD a undef))
def RVal (P : Program) (n : Nat) (D : List Deferred) (s : Sl) (w : World) (r : ResultVar) (v : Value) : Prop := ∀ a, Fr n D s a → (rdR a.tmps r).run P w = .ok v w
theorem loadVar_one {t : TypeId} {ds : TypeDesc} {sz by_ : Nat} {z v : Value} {a : Addr} [hT : HasT P t ds sz by_ z] (hd : aggD ds = false) (hc : w.cell? a = some v) : (loadVar t a).run P w = .ok v w := by
  simp [loadVar, hT.isAgg, hd, hc]
theorem loadVar_agg {t : TypeId} {ds : TypeDesc} {sz by_ : Nat} {z : Value} {a : Addr} {cs : List Value} [hT : HasT P t ds sz by_ z] (hd : aggD ds = true) (hl : cs.length = sz) (hc : ∀ j v, cs[j]? = some v → w.cell? (a.add j) = some v) : (loadVar t a).run P w = .ok (.agg cs.toArray) w := by
  have h2 := run_loadCells_list (P := P) w a cs hc
  rw [hl] at h2
  simp [loadVar, hT.isAgg, hd, hT.sizeOf, h2]
theorem RVal.tmp {t : Nat} {v : Value} (h : look s t = some v) : RVal P n D s w (.tmp t) v := fun a ha => by
  simp only [rdR, ha.getD h]; rfl
theorem RVal.cell {t a : Nat} {ad : Addr} {v : Value} (h : look s a = some (.pointer (some ad))) (hl : (loadVar t ad).run P w = .ok v w) : RVal P n D s w (.cell a t) v := fun b hb => by
  simp [rdR, hb.getD h, asAddr, hl]
theorem results_rdR (fn : Func) (tmps : Array Value) : results fn tmps = (do let vs ← fn.results.mapM (rdR tmps); pure (if h : vs.size = 1 then vs[0] else .tuple vs)) := rfl
theorem bodyA.retR1 {fn : Func} {R : Value → World → Prop} {r : ResultVar} {v : Value} (hr : fn.results = #[r]) (h : RVal P n [] s w r v) (hR : R v w) : bodyA P fn n R .ret [] s w :=
  bodyA.mk (.inl rfl) (fun a ha => by rw [results_rdR, hr]; simp [h a ha]) hR
theorem bodyA.retR2 {fn : Func} {R : Value → World → Prop} {r q : ResultVar} {v u : Value} (hr : fn.results = #[r, q]) (h : RVal P n [] s w r v) (h2 : RVal P n [] s w q u) (hR : R (.tuple [v, u].toArray) w) : bodyA P fn n R .ret [] s w :=
  bodyA.mk (.inl rfl) (fun a ha => by rw [results_rdR, hr]; simp [h a ha, h2 a ha]) hR
theorem bodyA.retR3 {fn : Func} {R : Value → World → Prop} {r q p : ResultVar} {v u x : Value} (hr : fn.results = #[r, q, p]) (h : RVal P n [] s w r v) (h2 : RVal P n [] s w q u) (h3 : RVal P n [] s w p x) (hR : R (.tuple [v, u, x].toArray) w) : bodyA P fn n R .ret [] s w :=
  bodyA.mk (.inl rfl) (fun a ha => by rw [results_rdR, hr]; simp [h a ha, h2 a ha, h3 a ha]) hR

/-! ### Structs -/
theorem und_inj {P : Program} {t : TypeId} {fs gs : Array Field} (h : P.underlying t = some (.struct fs)) (g : P.underlying t = some (.struct gs)) : gs = fs := by
  rw [h] at g; injection g with g; injection g with g; exact g.symm
/-- Where a struct's fields lie. -/
class HasB (P : Program) (t : TypeId) (pl : outParam (Array (Nat × Nat))) : Prop where
  run : ∀ (w : World) (fs : Array Field), P.underlying t = some (.struct fs) → (fs.mapM fun f : Field => (do pure (f.offset, ← sizeOf f.type) : Sem (Nat × Nat))).run P w = .ok pl w
/-- A struct made of its parts: 'fill' reckoned by the kernel. -/
def opndP (s : Sl) : List (Nat × Operand) → Option (List (Nat × Value))
  | [] => some []
  | (i, x) :: r => match opnd s x, opndP s r with
    | some v, some vs => some ((i, v) :: vs)
    | _, _ => none
theorem opndP_map {s : Sl} {ρ : Operand → Value} (h : ∀ x u, opnd s x = some u → ρ x = u) : ∀ (l : List (Nat × Operand)) vs, opndP s l = some vs → l.map (fun p => (p.1, ρ p.2)) = vs
  | [], vs, he => by simp only [opndP] at he; cases he; rfl
  | (i, x) :: r, vs, he => by
    simp only [opndP] at he
    split at he
    · rename_i v vs' h1 h2
      cases he
      simp [h x v h1, opndP_map h r vs' h2]
    · cases he
theorem Ev.build {t : TypeId} {fs : Array Field} {sz by_ : Nat} {z : Value} {ps : List (Nat × Operand)} {vs : List (Nat × Value)} {pl : Array (Nat × Nat)} {cs : List Value} [hT : HasT P t (.struct fs) sz by_ z] [hB : HasB P t pl]
    (hx : opndP s ps = some vs) (hf : Instr.fill (pl[·]?) z.cells vs = some cs.toArray) : Ev P s (.build t ps.toArray) ty w (.agg cs.toArray) w := fun ρ d' pos af g hρ => by
  have h1 := opndP_map hρ ps vs hx
  have h2 := hB.run w fs hT.und
  simp only [bind_pure_comp] at h2
  simp [execOp, Instr.build, hT.zero, hT.underlying, h1, h2, hf]
/-- []T{x}: a new row of one element that is a struct. -/
theorem WL.buildSlice {t e : TypeId} {de : TypeDesc} {sz by_ es be : Nat} {z ze : Value} {ps : List (Nat × Operand)} {vs : List (Nat × Value)} {cs : List Value} {m : Nat} {ops : Array Oper} {K : KK} {rest : List Oper} {pos : String} {af : Array Edge} {d : Nat} [hT : HasT P t (.slice e) sz by_ z] [hE : HasT P e de es be ze]
    (hm : m * es ≤ 2 ^ 24) (hp : 0 < m * es) (hx : opndP s ps = some vs) (hf : Instr.fill (fun i => some (i * es, es)) ((Array.range (m * es)).map (ze.cells[· % ze.cells.size]!)) vs = some cs.toArray) (hd : Nat.blt d n = true)
    (k : ∀ b w', New w b (.cells cs.toArray e) w' → WL P ops K rest n D ((d, .slice (some ⟨b, 0, none⟩) m m) :: s) w') : WL P ops K (⟨some d, .buildSlice t m ps.toArray, ty, pos, af, none⟩ :: rest) n D s w :=
  WL.ev (v := .slice (some ⟨w.heap.size, 0, none⟩) m m) (w' := w.alloc (.cells cs.toArray e)) (fun ρ d' pos af g hρ => by
    have h1 := opndP_map hρ ps vs hx
    have h3 : ¬ (16777216 < m * es) := by have : (2 : Nat) ^ 24 = 16777216 := rfl; omega
    have h4 : ¬ (m * es = 0) := by omega
    have h5 : ¬ (m = 0 ∨ es = 0) := by
      intro h; rcases h with h | h <;> simp [h] at hp
    simp [execOp, Instr.buildSlice, hT.underlying, hE.sizeOf, hE.zero, h1, h3, h5, hf, newRow]
    intro h; exact absurd h h4) hd (k _ _ (new_alloc _ _))

/-! ### Slices -/
theorem Ev.len {t : TypeId} {a : Option Addr} {m c e : Nat} {sz by_ : Nat} {z : Value} [hT : HasT P t (.slice e) sz by_ z] (hx : opnd s x = some (.slice a m c)) : Ev P s (.call ⟨.builtin .len, [x].toArray, #[t]⟩) ty w (.int .i64 (m : Int)) w := fun ρ d' pos af g hρ => by
  have e1 := hρ x _ hx
  simp [execOp, resolve, invoke, builtin, e1, Builtin.len_, hT.underlying, goInt]
/-- The address of an element. -/
theorem Ev.indexAddr {t : TypeId} {b o m c e : Nat} {es be : Nat} {k : IntKind} {i : Int} {de : TypeDesc} {ze : Value} {sz by_ : Nat} {z : Value} [hT : HasT P t (.slice e) sz by_ z] [hE : HasT P e de es be ze] (hx : opnd s x = some (.slice (some ⟨b, o, none⟩) m c)) (hy : opnd s y = some (.int k i)) (h0 : 0 ≤ i) (h1 : i < m) :
    Ev P s (.indexAddr t x y) ty w (.pointer (some ⟨b, o + i.toNat * es, none⟩)) w := fun ρ d' pos af g hρ => by
  have e1 := hρ x _ hx
  have e2 := hρ y _ hy
  have ha : (Addr.add ⟨b, o, none⟩ (i.toNat * es)) = ⟨b, o + i.toNat * es, none⟩ := by
    unfold Addr.add; split
    · rename_i h; rw [h]; rfl
    · rfl
  simp [execOp, e1, e2, Instr.indexAt, asIntOf, hT.underlying, h0, h1, hE.sizeOf, ha]
theorem Ev.indexAddrArr {t : TypeId} {b o m e : Nat} {es be : Nat} {k : IntKind} {i : Int} {de : TypeDesc} {ze : Value} {sz by_ : Nat} {z : Value} [hT : HasT P t (.array m e) sz by_ z] [hE : HasT P e de es be ze] (hx : opnd s x = some (.pointer (some ⟨b, o, none⟩))) (hy : opnd s y = some (.int k i)) (h0 : 0 ≤ i) (h1 : i < m) :
    Ev P s (.indexAddr t x y) ty w (.pointer (some ⟨b, o + i.toNat * es, none⟩)) w := fun ρ d' pos af g hρ => by
  have e1 := hρ x _ hx
  have e2 := hρ y _ hy
  have ha : (Addr.add ⟨b, o, none⟩ (i.toNat * es)) = ⟨b, o + i.toNat * es, none⟩ := by
    unfold Addr.add; split
    · rename_i h; rw [h]; rfl
    · rfl
  simp [execOp, e1, e2, Instr.indexAt, Instr.sureAddr, asIntOf, hT.underlying, h0, h1, hE.sizeOf, ha]

/-- A part of a slice. -/
def cutAt (a : Option Addr) (l m es : Nat) : Option Addr := if m = l then a else a.map (·.add (l * es))
theorem Ev.sliceL {t : TypeId} {a : Option Addr} {m c e : Nat} {es be : Nat} {k : IntKind} {lo : Int} {de : TypeDesc} {ze : Value} {sz by_ : Nat} {z : Value} {p : Operand} [hT : HasT P t (.slice e) sz by_ z] [hE : HasT P e de es be ze]
    (hx : opnd s x = some (.slice a m c)) (hp : opnd s p = some (.int k lo)) (h0 : 0 ≤ lo) (h1 : lo ≤ m) :
    Ev P s (.slice t x (some p) none none) ty w (.slice (cutAt a lo.toNat c es) (m - lo.toNat) (c - lo.toNat)) w := fun ρ d' pos af g hρ => by
  have e1 := hρ x _ hx
  have e2 := hρ p _ hp
  simp [execOp, e1, e2, Instr.sliceAt, Instr.slice, hT.underlying, Instr.sliceBounds, Instr.sliceBound, asIntOf, h0, h1, hE.sizeOf, cutAt]
theorem Ev.sliceH {t : TypeId} {a : Option Addr} {m c e : Nat} {es be : Nat} {k' : IntKind} {hi : Int} {de : TypeDesc} {ze : Value} {sz by_ : Nat} {z : Value} {q : Operand} [hT : HasT P t (.slice e) sz by_ z] [hE : HasT P e de es be ze]
    (hx : opnd s x = some (.slice a m c)) (hq : opnd s q = some (.int k' hi)) (h1 : 0 ≤ hi) (h2 : hi ≤ c) :
    Ev P s (.slice t x none (some q) none) ty w (.slice a hi.toNat c) w := fun ρ d' pos af g hρ => by
  have e1 := hρ x _ hx
  have e3 := hρ q _ hq
  simp [execOp, e1, e3, Instr.sliceAt, Instr.slice, hT.underlying, Instr.sliceBounds, Instr.sliceBound, asIntOf, h1, h2, hE.sizeOf]
  intro _; cases a <;> simp [Addr.add]

/-- make([]T, len, cap). -/
theorem WL.make {t : TypeId} {e es be : Nat} {kl kc : IntKind} {l c : Int} {de : TypeDesc} {ze : Value} {sz by_ : Nat} {z : Value} [hT : HasT P t (.slice e) sz by_ z] [hE : HasT P e de es be ze] (hx : opnd s x = some (.int kl l)) (hy : opnd s y = some (.int kc c))
    (h0 : 0 ≤ l) (hlc : l ≤ c) (hb : (be : Int) * c ≤ 281474976710656) (h63 : c ≤ 9223372036854775807) (hd : Nat.blt d n = true)
    (k : ∀ b w', New w b (.cells (madeCells ze.cells (c.toNat * es)) e) w' → WL P ops K rest n D ((d, .slice (some ⟨b, 0, none⟩) l.toNat c.toNat) :: s) w') : WL P ops K (⟨some d, .makeSlice t x y, ty, pos, af, none⟩ :: rest) n D s w := by
  obtain ⟨i, hi, hi1, hi2, hi3⟩ := hE.inf
  refine WL.ev (v := .slice (some ⟨w.heap.size, 0, none⟩) l.toNat c.toNat) (w' := w.alloc (.cells (madeCells ze.cells (c.toNat * es)) e)) (fun ρ d' pos af g hρ => ?_) hd (k _ _ (new_alloc _ _))
  have e1 := hρ x _ hx
  have e2 := hρ y _ hy
  have := run_make (P := P) w t e i ze hT.und hi hi3 kl kc l c h0 hlc (by rw [hi2]; exact hb) h63
  rw [hi1] at this
  simp [execOp, e1, e2, this]

theorem own_keep {w w' : World} {T : List Nat} {e sz : Nat} {v : Value} {m : Nat} {xs : List Value} (h : w.ownsRow 0 e sz v m xs) (hc : Chg T w w') (hn : ∀ b, v.ownBlock = some b → b ∉ T) : w'.ownsRow 0 e sz v m xs := by
  obtain ⟨h1, h2⟩ := h
  refine ⟨h1, ?_⟩
  rcases h2 with h2 | ⟨g, cap, cur, rfl, a1, a2, a3⟩
  · exact .inl h2
  · exact .inr ⟨g, cap, cur, rfl, a1, hc.heap a2 (hn g rfl), a3⟩
theorem own_form {w : World} {e sz : Nat} {v : Value} {m : Nat} {xs : List Value} (h : w.ownsRow 0 e sz v m xs) : ∃ a cap, v = .slice a m cap := by
  rcases h.2 with ⟨rfl, rfl⟩ | ⟨g, cap, cur, rfl, _⟩
  · exact ⟨_, _, rfl⟩
  · exact ⟨_, _, rfl⟩
theorem own_cell {w : World} {e sz : Nat} {a : Option Addr} {m n cap : Nat} {xs : List Value} (h : w.ownsRow 0 e sz (.slice a n cap) m xs) (hp : 0 < xs.length) : ∃ g, a = some ⟨g, 0, none⟩ ∧ ∀ j x, xs[j]? = some x → w.cell? ⟨g, j, none⟩ = some x := by
  obtain ⟨h1, h2⟩ := h
  rcases h2 with ⟨_, rfl⟩ | ⟨g, cp, cur, hv, _, hh, _, _, hcs, ht⟩
  · simp at h1; rw [h1] at hp; simp at hp
  · injection hv with hv1 hv2 hv3
    refine ⟨g, hv1, fun j x hj => ?_⟩
    rw [cell_at' hh]
    have hjl : j < m * sz := by
      rw [← h1]
      by_cases hlt : j < xs.length
      · exact hlt
      · rw [List.getElem?_eq_none (by omega)] at hj; cases hj
    rw [← ht, List.getElem?_take, if_pos hjl] at hj
    simpa using hj
theorem own_lt {w : World} {e sz : Nat} {v : Value} {m : Nat} {xs : List Value} (h : w.ownsRow 0 e sz v m xs) {b : Nat} (hb : v.ownBlock = some b) : b < w.heap.size := by
  rcases h.2 with ⟨rfl, _⟩ | ⟨g, cap, cur, rfl, _, a2, _⟩
  · cases hb
  · cases hb; exact lt_of_heap a2

/-- append(s, news..): s is nil or the call's own. -/
theorem WL.append {t e es be : Nat} {de : TypeDesc} {ze : Value} {sz by_ : Nat} {z : Value} {v : Value} {m : Nat} {xs : List Value} {ad : Addr} {mm c : Nat} {news : List Value} [hT : HasT P t (.slice e) sz by_ z] [hE : HasT P e de es be ze]
    (hzs : ze.cells.size = es) (hsz : 0 < es) (hx : opnd s x = some v) (hy : opnd s y = some (.slice (some ad) mm c)) (hown : w.ownsRow 0 e es v m xs) (hl : news.length = mm * es) (hnews : ∀ j u, news[j]? = some u → w.cell? (ad.add j) = some u) (h1 : ∀ u ∈ news, u.oneCell' = true)
    (h63 : m + mm ≤ maxLen) (hbytes : (m + mm) * be ≤ 140737488355328) (hd : Nat.blt d n = true)
    (k : ∀ v' w', w'.ownsRow 0 e es v' (m + mm) (xs ++ news) → Chg v.ownBlock.toList w w' → (v'.ownBlock = v.ownBlock ∨ v'.ownBlock = some w.heap.size) → WL P ops K rest n D ((d, v') :: s) w') :
    WL P ops K (⟨some d, .call ⟨.builtin .append, [x, y].toArray, #[t, t]⟩, ty, pos, af, none⟩ :: rest) n D s w := by
  obtain ⟨i, hi, hi1, hi2, hi3⟩ := hE.inf
  obtain ⟨v', w', hr, ho, hg, _, hloc⟩ := run_append_own_at (P := P) w 0 t ty e i ze es be hT.und hi hi3 hi1 hi2 hzs hsz v m xs hown ad mm c news hl hnews h1 h63 hbytes (Nat.zero_le _)
  refine WL.ev (v := v') (w' := w') (fun ρ d' pos af g hρ => ?_) hd (k _ _ ho ⟨hg.os, hg.tape, hg.output, hg.size, fun j hj hn => hg.block j hj fun he => hn ?_⟩ hloc)
  · have e1 := hρ x _ hx
    have e2 := hρ y _ hy
    simp [execOp, resolve, invoke, builtin, e1, e2, hr]
  · rw [← he]; simp
/-- Storing a struct, as a step of a region in any order. -/
theorem evS_storeAgg {t : TypeId} {ds : TypeDesc} {sz by_ : Nat} {z : Value} {b i : Nat} {l vs : List Value} {T : TypeId} [hT : HasT P t ds sz by_ z] (hx : opnd s x = some (.pointer (some ⟨b, i, none⟩))) (hy : opnd s y = some (.agg vs.toArray)) (hs : vs.length = sz) (h1 : ∀ v ∈ vs, v.oneCell' = true)
    (hb : w.heap[b]? = some (.cells l.toArray T (0, 0))) (hi : i + vs.length ≤ l.length) : ∃ w', EvS P s (.store t x y) ty w w' ∧ Upd w b (.cells (splice l i vs).toArray T (0, 0)) w' := by
  obtain ⟨w', hr, hu⟩ := run_storeCells (P := P) b T vs l i 0 w h1 hb (by simpa using hi)
  refine ⟨w', fun ρ d' pos af g hρ => ?_, by simpa using hu⟩
  have e1 := hρ x _ hx
  have e2 := hρ y _ hy
  have e3 : (Value.agg vs.toArray).cells = vs.toArray := rfl
  simp [execOp, e1, e2, Instr.storeAt, Instr.sureAddr, storeVar, hT.sizeOf, e3, hs, hr]
theorem own_cases {w : World} {e sz : Nat} {v : Value} {m : Nat} {xs : List Value} (h : w.ownsRow 0 e sz v m xs) : (v = .slice none 0 0 ∧ m = 0 ∧ xs = []) ∨ ∃ g cap, v = .slice (some ⟨g, 0, none⟩) m cap ∧ m ≤ cap ∧ g < w.heap.size ∧ ∀ j x, xs[j]? = some x → w.cell? ⟨g, j, none⟩ = some x := by
  have hf := @own_cell w e sz
  obtain ⟨h1, h2⟩ := h
  rcases h2 with ⟨rfl, rfl⟩ | ⟨g, cp, cur, rfl, a1, a2, a3, a4, a5⟩
  · exact .inl ⟨rfl, rfl, List.length_eq_zero_iff.1 (by omega)⟩
  · refine .inr ⟨g, cp, rfl, a3, lt_of_heap a2, fun j x hj => ?_⟩
    by_cases hp : 0 < xs.length
    · obtain ⟨g', hg, hc⟩ := own_cell (a := some ⟨g, 0, none⟩) (cap := cp) ⟨h1, .inr ⟨g, cp, cur, rfl, a1, a2, a3, a4, a5⟩⟩ hp
      injection hg with hg; injection hg with hg; subst hg
      exact hc j x hj
    · rw [List.getElem?_eq_none (by omega)] at hj; cases hj
/-- The address of an element, whatever the slice's own address is. -/
theorem Ev.indexAddrG {t : TypeId} {ad : Addr} {m c e : Nat} {es be : Nat} {k : IntKind} {i : Int} {de : TypeDesc} {ze : Value} {sz by_ : Nat} {z : Value} [hT : HasT P t (.slice e) sz by_ z] [hE : HasT P e de es be ze] (hx : opnd s x = some (.slice (some ad) m c)) (hy : opnd s y = some (.int k i)) (h0 : 0 ≤ i) (h1 : i < m) :
    Ev P s (.indexAddr t x y) ty w (.pointer (some (ad.add (i.toNat * es)))) w := fun ρ d' pos af g hρ => by
  have e1 := hρ x _ hx
  have e2 := hρ y _ hy
  simp [execOp, e1, e2, Instr.indexAt, asIntOf, hT.underlying, h0, h1, hE.sizeOf]
theorem Ev.eql_bool {t t' : TypeId} {sz by_ : Nat} {z : Value} {a b : Bool} [hT : HasT P t .bool sz by_ z] (hx : opnd s x = some (.bool a)) (hy : opnd s y = some (.bool b)) : Ev P s (.binOp .eql t x y t') ty w (.bool (a == b)) w :=
  run_bin hx hy (fun _ _ => eqGuard_bool _ _ _ _ _ _) (by
    have := run_eqIn (P := P) (w := w) (t := t) (u := .bool a) (v := .bool b) (r := a == b) fun d => by simp [Op.equalIn, hT.underlying]
    simp only [binOp]
    simp [this])
/-- A store into one cell, as a step of a region in any order. -/
theorem evS_store {t : TypeId} {ds : TypeDesc} {by_ : Nat} {z : Value} {b i : Nat} {l : List Value} {T : TypeId} {v : Value} [hT : HasT P t ds 1 by_ z] (hx : opnd s x = some (.pointer (some ⟨b, i, none⟩))) (hy : opnd s y = some v) (h1 : v.oneCell' = true)
    (hb : w.heap[b]? = some (.cells l.toArray T (0, 0))) (hi : i < l.length) : EvS P s (.store t x y) ty w (w.setCell ⟨b, i, none⟩ v) ∧ Upd w b (.cells (l.set i v).toArray T (0, 0)) (w.setCell ⟨b, i, none⟩ v) :=
  ⟨fun ρ d' pos af g hρ => by
    have e1 := hρ x _ hx
    have e2 := hρ y _ hy
    have e3 : v.cells = #[v] := by cases v <;> first | rfl | cases h1
    have e4 : w.cell? ⟨b, i, none⟩ = some l[i] := by rw [cell_at hb]; simp [hi]
    have e5 : w.frozen? ⟨b, i, none⟩ = false := frozen_no hb
    simp [execOp, e1, e2, Instr.storeAt, Instr.sureAddr, storeVar, hT.sizeOf, e3, storeCells, Addr.add, run_store _ _ _ _ _ h1, e4, e5], upd_setCell w b i l T v hb⟩
end
end Sx

/- Statements whose order Go leaves open, in the engine. No condition. -/
namespace Sx
open Go

def postS (n : Nat) (K : List Deferred → Sl → Prop) : Act → Prop := fun a => ∃ D s, Fr n D s a ∧ K D s
def WS (P : Program) (ops : Array Oper) (K : List Deferred → Sl → Prop) (l : List Oper) (n : Nat) (D : List Deferred) (s : Sl) (w : World) : Prop := ∀ a, Fr n D s a → wpStill P ops w (postS n K) l a

section
variable {P : Program} {A : AQ} {n : Nat} {D : List Deferred} {s : Sl} {w : World} {ops : Array Oper} {K : List Deferred → Sl → Prop} {rest : List Oper}
variable {op : Op} {ty : TypeId} {pos : String} {af : Array Edge} {dst : Option Tmp} {d j : Nat} {b : Bool} {v : Value}
theorem WS.nil (h : K D s) : WS P ops K [] n D s w := fun a ha => wpStill_nil ⟨D, s, ha, h⟩
theorem still_want {o : Oper} {a : Act} {Q : Act → Prop} (hw : Region.wanted o (yielded ops a.tmps) = true) (h : ∀ K' : Act → Prop, (∀ a, wpStill P ops w Q rest a → K' a) → o.still P a w K') : wpStill P ops w Q (o :: rest) a :=
  wpStill_step fun K' hK => by rw [if_pos hw]; exact h K' hK
theorem WS.ev (he : Ev P s op ty w v w) (hd : Nat.blt d n = true) (k : WS P ops K rest n D ((d, v) :: s) w) : WS P ops K (⟨some d, op, ty, pos, af, none⟩ :: rest) n D s w := fun a ha =>
  still_want (by simp [Region.wanted]) fun K' hK => by
    unfold Oper.still
    rw [he a.eval (some d) pos af none fun x u hx => ha.eval hx, Oper.stillUpon_value]
    exact hK _ (k _ (ha.put hd v))
theorem WS.call {f : FuncId} {xs : List Operand} {at_ : Array TypeId} {vs : List Value} (hF : HasF P f) (hx : opnds s xs = some vs) (hd : Nat.blt d n = true) (h : Ret P f vs w fun u w' => u = v ∧ w = w')
    (k : WS P ops K rest n D ((d, v) :: s) w) : WS P ops K (⟨some d, .call ⟨.value (.func f), xs.toArray, at_⟩, ty, pos, af, none⟩ :: rest) n D s w := fun a ha =>
  still_want (by simp [Region.wanted]) fun K' hK => by
    unfold Oper.still
    rw [exec_call hF rfl hx fun x u hx => ha.eval hx]
    exact ⟨rfl, v, Calls.mono h fun e w' ⟨u, he, hu, hw⟩ => ⟨by rw [he, hu], hw.symm⟩, hK _ (k _ (ha.put hd v))⟩
theorem WS.want {g : Oper} {x : Bool} {t : Nat} (hg : ops[j]? = some g) (ht : g.dst = some t) (hx : look s t = some (.bool x)) (hb : (x == b) = true) (k : WS P ops K (⟨dst, op, ty, pos, af, none⟩ :: rest) n D s w) :
    WS P ops K (⟨dst, op, ty, pos, af, some (j, b)⟩ :: rest) n D s w := fun a ha => by
  have h := k a ha
  unfold wpStill at h ⊢
  rw [if_pos (by rw [yieldedAt ha hg ht hx]; exact hb)]
  rw [if_pos (by simp [Region.wanted])] at h
  exact h
theorem WS.pass {g : Oper} {x : Bool} {t : Nat} (hg : ops[j]? = some g) (ht : g.dst = some t) (hx : look s t = some (.bool x)) (hb : (x == b) = false) (hd : Nat.blt d n = true) (k : WS P ops K rest n D ((d, undef) :: s) w) :
    WS P ops K (⟨some d, op, ty, pos, af, some (j, b)⟩ :: rest) n D s w := fun a ha => by
  unfold wpStill
  rw [if_neg (by rw [yieldedAt ha hg ht hx, hb]; simp)]
  exact k _ (ha.put hd undef)

theorem still_mono {Q Q' : Act → Prop} (h : ∀ a, Q a → Q' a) : ∀ (l : List Oper) (a : Act), wpStill P ops w Q l a → wpStill P ops w Q' l a
  | [], a, hh => h a hh
  | o :: r, a, hh => by
    unfold wpStill at hh ⊢
    split
    · rename_i hw; rw [if_pos hw] at hh; exact Oper.still_mono (still_mono h r) hh
    · rename_i hw; rw [if_neg hw] at hh; exact still_mono h r _ hh

/-- A region that only reads. -/
theorem CW.regionS {id : Nat} {l : List Oper} (hm : P.follows .mixedOrders = true) (hB : Region.lexB .any l.toArray = true)
    (h : ∀ K : List Deferred → Sl → Prop, (∀ D s, A .normal D s w.drew → K D s) → WS P l.toArray K l n D s w.drew) : CW P (.region id l.toArray true) A n D s w := fun a ha =>
  wp_region_still_lit hm hB (still_mono (fun a ⟨D, s, hf, hk⟩ => ⟨D, s, hf, hk⟩) l a (h (fun D s => A .normal D s w.drew) (fun _ _ h => h) a ha))

/-- A region that reads and then, from operation m on, does the rest in the order of the text. -/
theorem CW.regionT {id : Nat} {l : List Oper} (m : Nat) (hm : P.follows .mixedOrders = true) (hB : Region.lexTailB .any l.toArray m = true)
    (h : ∀ R : KK, (∀ D s w, A .normal D s w → R D s w) → WS P l.toArray (fun D s => WL P l.toArray R (l.drop m) n D s w.drew) (l.take m) n D s w.drew) : CW P (.region id l.toArray true) A n D s w := fun a ha => by
  refine wp_region_still_tail m hm hB (still_mono (fun a ⟨D, s, hf, hk⟩ => ?_) _ a (h (fun D s w => A .normal D s w) (fun _ _ _ h => h) a ha))
  have := hk a hf
  exact wpList_mono (fun e a w hq => post_lift (fun _ _ _ h => h) e a w hq) (l.drop m) a w.drew this
end

/-! ### Whatever order: loads first where nobody writes their cells (a condition S on the world), then one by one -/
def WH (P : Program) (ops : Array Oper) (K : KK) (S : World → Prop) (fuel : Nat) (listed : Array Bool) (n : Nat) (D : List Deferred) (s : Sl) (w : World) : Prop := ∀ a, Fr n D s a → wpAnyH P .any ops (post n K) S fuel listed a w
section
variable {P : Program} {A : AQ} {n : Nat} {D : List Deferred} {s : Sl} {w : World} {ops : Array Oper} {K : KK} {S : World → Prop} {fuel : Nat} {listed : Array Bool}
variable {op : Op} {ty : TypeId} {pos : String} {af : Array Edge} {d : Nat} {v : Value}
theorem CW.regionH {id : Nat} {l : List Oper} (S : World → Prop) (m : Nat) (hz : l.length = m) (hm : P.follows .mixedOrders = true)
    (h : ∀ R : KK, (∀ D s w, A .normal D s w → R D s w) → WH P l.toArray R S m (Array.replicate m false) n D s w.drew) : CW P (.region id l.toArray true) A n D s w := fun a ha => by
  refine wp_mono (wp_region_held (S := S) hm ?_) (post_lift (K := fun D s w => A .normal D s w) fun _ _ _ h => h)
  have := h (fun D s w => A .normal D s w) (fun _ _ _ h => h) a ha
  subst hz
  simpa using this
theorem WH.take (i : Nat) (hi : ops[i]? = some ⟨some d, op, ty, pos, af, none⟩) (hs : Region.noSelect ops = true) (hf : Region.free .any ops listed i = true) (hr : (Region.ready .any ops listed).contains i = true)
    (hS : S w) (he : ∀ w, S w → Ev P s op ty w v w) (hd : Nat.blt d n = true) (k : WH P ops K S fuel (listed.setIfInBounds i true) n D ((d, v) :: s) w) : WH P ops K S (fuel + 1) listed n D s w := fun a ha =>
  wpAnyH_take hi hs hf hr (fun c a w h => h.elim) (.inl ⟨by simp [Region.wanted], fun w' hw' => he w' hw' a.eval (some d) pos af none fun x u hx => ha.eval hx⟩) hS (k _ (ha.put hd v))
theorem WH.oneS (i : Nat) {w' : World} (hi : ops[i]? = some ⟨none, op, ty, pos, af, none⟩) (hr : Region.ready .any ops listed = [i]) (he : EvS P s op ty w w') (hS : S w')
    (k : WH P ops K S fuel (listed.setIfInBounds i true) n D s w') : WH P ops K S (fuel + 1) listed n D s w := fun a ha =>
  wpAnyH_all hr (by simp) fun j hj => by
    obtain rfl : j = i := by simpa using hj
    unfold wpOp
    simp only [hi]
    rw [if_pos (by simp [Region.wanted])]
    refine .inl ?_
    unfold Oper.wp
    rw [he a.eval none pos af none fun x u hx => ha.eval hx]
    exact ⟨hS, k _ ha⟩
theorem WH.oneCall (i : Nat) {f : FuncId} {xs : List Operand} {at_ : Array TypeId} {vs : List Value} {R : Value → World → Prop} (hi : ops[i]? = some ⟨some d, .call ⟨.value (.func f), xs.toArray, at_⟩, ty, pos, af, none⟩) (hr : Region.ready .any ops listed = [i]) (hF : HasF P f) (hx : opnds s xs = some vs) (hd : Nat.blt d n = true) (h : Ret P f vs w R)
    (k : ∀ v w', R v w' → S w' ∧ WH P ops K S fuel (listed.setIfInBounds i true) n D ((d, v) :: s) w') : WH P ops K S (fuel + 1) listed n D s w := fun a ha =>
  wpAnyH_all hr (by simp) fun j hj => by
    obtain rfl : j = i := by simpa using hj
    unfold wpOp
    simp only [hi]
    rw [if_pos (by simp [Region.wanted])]
    refine .inl ?_
    unfold Oper.wp
    rw [exec_call hF rfl hx fun x u hx => ha.eval hx]
    exact Calls.mono h fun e w' ⟨v, he, hR⟩ => by subst he; exact ⟨(k v w' hR).1, (k v w' hR).2 _ (ha.put hd v)⟩
theorem WH.takeG (i : Nat) {j : Nat} {b : Bool} {g : Oper} {x : Bool} {t : Nat} (hi : ops[i]? = some ⟨some d, op, ty, pos, af, some (j, b)⟩) (hs : Region.noSelect ops = true) (hf : Region.free .any ops listed i = true) (hr : (Region.ready .any ops listed).contains i = true)
    (hg : ops[j]? = some g) (ht : g.dst = some t) (hx : look s t = some (.bool x)) (hb : (x == b) = true)
    (hS : S w) (he : ∀ w, S w → Ev P s op ty w v w) (hd : Nat.blt d n = true) (k : WH P ops K S fuel (listed.setIfInBounds i true) n D ((d, v) :: s) w) : WH P ops K S (fuel + 1) listed n D s w := fun a ha =>
  wpAnyH_take hi hs hf hr (fun c a w h => h.elim) (.inl ⟨by rw [yieldedAt ha hg ht hx]; exact hb, fun w' hw' => he w' hw' a.eval (some d) pos af _ fun x u hx => ha.eval hx⟩) hS (k _ (ha.put hd v))
theorem WH.done (hr : Region.ready .any ops listed = []) (h : K D s w) : WH P ops K S fuel listed n D s w := fun a ha => wpAnyH_done hr ⟨D, s, ha, h⟩ fuel
end
end Sx

/- append on an own row: in place, or into a new block where the old one stays. No condition. -/
namespace Sx
open Go

section
variable {P : Program} {n : Nat} {D : List Deferred} {s : Sl} {w : World} {ops : Array Oper} {K : KK} {rest : List Oper} {ty : TypeId} {pos : String} {af : Array Edge} {d : Nat} {x y : Operand}
end
end Sx

/- Whatever order, where the last operation z turns what others have read: the condition S is asked up to z alone. No condition. -/
namespace Sx
open Go

def anyK (P : Program) (ops : Array Oper) (Q : Exit → Act → World → Prop) (S : World → Prop) (z : Nat) : Nat → Array Bool → Act → World → Prop
  | 0, listed, a, w => Region.ready .any ops listed = [] ∧ Q .normal a w
  | fuel + 1, listed, a, w => (Region.ready .any ops listed = [] → Q .normal a w) ∧
    ∀ i ∈ Region.ready .any ops listed, wpOp P ops Q i (fun a' w' => ((listed.setIfInBounds i true).getD z false = false → S w') ∧ anyK P ops Q S z fuel (listed.setIfInBounds i true) a' w') a w
section
variable {P : Program} {ops : Array Oper} {Q : Exit → Act → World → Prop} {S : World → Prop} {z : Nat}
theorem any_of_K : ∀ (fuel : Nat) (listed : Array Bool) (a : Act) (w : World), anyK P ops Q S z fuel listed a w → wpAny P .any ops Q fuel listed a w
  | 0, _, _, _, h => h
  | fuel + 1, _, _, _, h => ⟨h.1, fun i hi => wpOp_mono (fun a' w' k => any_of_K fuel _ a' w' k.2) (h.2 i hi)⟩
theorem anyK_first {i : Nat} {oi : Oper} {v : Value} (hi : ops[i]? = some oi) (hsel : Region.noSelect ops = true) (hQ : ∀ c a w, Q (.panic c) (a.put oi.dst v) w → Q (.panic c) a w) (hz : Region.waitsFor .any ops z i = true) (hzi : z ≠ i) :
    ∀ (fuel : Nat) (listed : Array Bool) (a : Act) (w : World), (∀ j oj, ops[j]? = some oj → j ≠ i → listed.getD j true = false → (∀ e ∈ oj.after, Region.binds .any e = true → e.on ≠ i) → oi.apart ops oj = true) →
      i ∈ Region.ready .any ops listed → listed.getD z false = false → YieldsIf P ops S oi v a → S w → anyK P ops Q S z fuel (listed.setIfInBounds i true) (a.put oi.dst v) w → anyK P ops Q S z (fuel + 1) listed a w := by
  obtain ⟨oz, hoz, ez, hez, hezb, hezi⟩ := Region.waitsFor_spec hz
  have noz : ∀ (listed : Array Bool) j, i ∈ Region.ready .any ops listed → j ∈ Region.ready .any ops listed → j ≠ z := fun listed j hr hj e => by
    subst e
    obtain ⟨_, o, ho, hall⟩ := mem_ready.1 hj
    rw [hoz] at ho; cases ho
    have h1 := hall ez hez hezb
    rw [hezi] at h1
    have h0 := (mem_ready.1 hr).1
    rcases Nat.lt_or_ge i listed.size with q | q
    · simp [q] at h0 h1; rw [h0] at h1; cases h1
    · simp [Array.getElem?_eq_none q] at h1
  intro fuel
  induction fuel with
  | zero =>
    intro listed a w _ hr hl hy hS H
    refine ⟨fun h => (by rw [h] at hr; cases hr), fun j hj => ?_⟩
    by_cases e : j = i
    · subst e; exact hy.wpOp hi hS ⟨fun _ => hS, H⟩
    · have := ready_mono hj e
      rw [H.1] at this; cases this
  | succ fuel ih =>
    intro listed a w hfree hr hl hy hS H
    refine ⟨fun h => (by rw [h] at hr; cases hr), fun j hj => ?_⟩
    by_cases e : j = i
    · subst e; exact hy.wpOp hi hS ⟨fun _ => hS, H⟩
    · have h1 := H.2 j (ready_mono hj e)
      have hjz := noz listed j hr hj
      obtain ⟨hjun, oj, hoj, hall⟩ := mem_ready.1 hj
      have hnot : ∀ e ∈ oj.after, Region.binds .any e = true → e.on ≠ i := fun e he hb heq => by
        have h1 := hall e he hb
        have h0 := (mem_ready.1 hr).1
        rw [heq] at h1
        rcases Nat.lt_or_ge i listed.size with q | q
        · simp [q] at h0 h1; rw [h0] at h1; cases h1
        · simp [Array.getElem?_eq_none q] at h1
      have h2 := wpOp_putIf hoj (hfree j oj hoj e hjun hnot) (fun cs b => Region.noSelect_spec hsel i oi cs b hi) (fun cs b => Region.noSelect_spec hsel j oj cs b hoj) hQ hy h1
      have lz : (listed.setIfInBounds j true).getD z false = false := by rw [getD_set_ne false hjz]; exact hl
      have lz2 : ((listed.setIfInBounds i true).setIfInBounds j true).getD z false = false := by rw [getD_set_ne false hjz, getD_set_ne false (Ne.symm hzi)]; exact hl
      refine wpOp_mono (fun a' w' h3 => ⟨fun _ => h3.2.1 lz2, ih (listed.setIfInBounds j true) a' w' (fun k ok hk hki hun hno => hfree k ok hk hki ?_ hno) (ready_mono hr (Ne.symm e)) lz h3.1 (h3.2.1 lz2) ?_⟩) h2
      · by_cases hjk : j = k
        · subst hjk; exact hjun
        · rw [getD_set_ne true hjk] at hun; exact hun
      · rw [Array.setIfInBounds_comm _ _ e]
        exact h3.2.2
end
def WK (P : Program) (ops : Array Oper) (K : KK) (S : World → Prop) (z : Nat) (fuel : Nat) (listed : Array Bool) (n : Nat) (D : List Deferred) (s : Sl) (w : World) : Prop := ∀ a, Fr n D s a → anyK P ops (post n K) S z fuel listed a w
section
variable {P : Program} {A : AQ} {n : Nat} {D : List Deferred} {s : Sl} {w : World} {ops : Array Oper} {K : KK} {S : World → Prop} {z : Nat} {fuel : Nat} {listed : Array Bool}
variable {op : Op} {ty : TypeId} {pos : String} {af : Array Edge} {d : Nat} {v : Value}
theorem CW.regionK {id : Nat} {l : List Oper} (S : World → Prop) (z m : Nat) (hz : l.length = m) (hm : P.follows .mixedOrders = true)
    (h : ∀ R : KK, (∀ D s w, A .normal D s w → R D s w) → WK P l.toArray R S z m (Array.replicate m false) n D s w.drew) : CW P (.region id l.toArray true) A n D s w := fun a ha => by
  refine wp_mono (wp_region_any hm (any_of_K _ _ _ _ (S := S) (z := z) ?_)) (post_lift (K := fun D s w => A .normal D s w) fun _ _ _ h => h)
  have := h (fun D s w => A .normal D s w) (fun _ _ _ h => h) a ha
  subst hz
  simpa using this
theorem WK.take (i : Nat) (hi : ops[i]? = some ⟨some d, op, ty, pos, af, none⟩) (hs : Region.noSelect ops = true) (hf : Region.free .any ops listed i = true) (hr : (Region.ready .any ops listed).contains i = true) (hw : Region.waitsFor .any ops z i = true) (hzi : Nat.beq z i = false) (hlz : listed.getD z false = false)
    (hS : S w) (he : ∀ w, S w → Ev P s op ty w v w) (hd : Nat.blt d n = true) (k : WK P ops K S z fuel (listed.setIfInBounds i true) n D ((d, v) :: s) w) : WK P ops K S z (fuel + 1) listed n D s w := fun a ha =>
  anyK_first hi hs (fun c a w h => h.elim) hw (fun e => by rw [e] at hzi; simp at hzi) fuel listed a w (Region.free_spec hi hf) (by simpa using hr) hlz (.inl ⟨by simp [Region.wanted], fun w' hw' => he w' hw' a.eval (some d) pos af none fun x u hx => ha.eval hx⟩) hS (k _ (ha.put hd v))
theorem WK.one (i : Nat) {w' : World} (hi : ops[i]? = some ⟨some d, op, ty, pos, af, none⟩) (hr : Region.ready .any ops listed = [i]) (he : Ev P s op ty w v w') (hS : (listed.setIfInBounds i true).getD z false = false → S w') (hd : Nat.blt d n = true)
    (k : WK P ops K S z fuel (listed.setIfInBounds i true) n D ((d, v) :: s) w') : WK P ops K S z (fuel + 1) listed n D s w := fun a ha => by
  refine ⟨fun h => (by rw [hr] at h; cases h), fun j hj => ?_⟩
  rw [hr] at hj
  obtain rfl : j = i := by simpa using hj
  unfold wpOp
  simp only [hi]
  rw [if_pos (by simp [Region.wanted])]
  refine .inl ?_
  unfold Oper.wp
  rw [he a.eval (some d) pos af none fun x u hx => ha.eval hx]
  exact ⟨hS, k _ (ha.put hd v)⟩
theorem WK.oneS (i : Nat) {w' : World} (hi : ops[i]? = some ⟨none, op, ty, pos, af, none⟩) (hr : Region.ready .any ops listed = [i]) (he : EvS P s op ty w w') (hS : (listed.setIfInBounds i true).getD z false = false → S w')
    (k : WK P ops K S z fuel (listed.setIfInBounds i true) n D s w') : WK P ops K S z (fuel + 1) listed n D s w := fun a ha => by
  refine ⟨fun h => (by rw [hr] at h; cases h), fun j hj => ?_⟩
  rw [hr] at hj
  obtain rfl : j = i := by simpa using hj
  unfold wpOp
  simp only [hi]
  rw [if_pos (by simp [Region.wanted])]
  refine .inl ?_
  unfold Oper.wp
  rw [he a.eval none pos af none fun x u hx => ha.eval hx]
  exact ⟨hS, k _ ha⟩
theorem WK.oneCall (i : Nat) {f : FuncId} {xs : List Operand} {at_ : Array TypeId} {vs : List Value} {R : Value → World → Prop} (hi : ops[i]? = some ⟨some d, .call ⟨.value (.func f), xs.toArray, at_⟩, ty, pos, af, none⟩) (hr : Region.ready .any ops listed = [i]) (hF : HasF P f) (hx : opnds s xs = some vs) (hd : Nat.blt d n = true) (h : Ret P f vs w R)
    (k : ∀ v w', R v w' → S w' ∧ WK P ops K S z fuel (listed.setIfInBounds i true) n D ((d, v) :: s) w') : WK P ops K S z (fuel + 1) listed n D s w := fun a ha => by
  refine ⟨fun h => (by rw [hr] at h; cases h), fun j hj => ?_⟩
  rw [hr] at hj
  obtain rfl : j = i := by simpa using hj
  unfold wpOp
  simp only [hi]
  rw [if_pos (by simp [Region.wanted])]
  refine .inl ?_
  unfold Oper.wp
  rw [exec_call hF rfl hx fun x u hx => ha.eval hx]
  exact Calls.mono h fun e w' ⟨v, he, hR⟩ => by subst he; exact ⟨fun _ => (k v w' hR).1, (k v w' hR).2 _ (ha.put hd v)⟩
/-- The last one: a store into one cell. -/
theorem WK.storeLast (i : Nat) {t : TypeId} {ds : TypeDesc} {by_ : Nat} {z0 : Value} {b o : Nat} {l : List Value} {T : TypeId} {u : Value} {x y : Operand} [hT : HasT P t ds 1 by_ z0] (hi : ops[i]? = some ⟨none, .store t x y, ty, pos, af, none⟩) (hr : Region.ready .any ops listed = [i]) (hlast : (listed.setIfInBounds i true).getD z false = true)
    (hx : opnd s x = some (.pointer (some ⟨b, o, none⟩))) (hy : opnd s y = some u) (h1 : u.oneCell' = true)
    (hb : w.heap[b]? = some (.cells l.toArray T (0, 0))) (ho : o < l.length) (k : ∀ w', Upd w b (.cells (l.set o u).toArray T (0, 0)) w' → WK P ops K S z fuel (listed.setIfInBounds i true) n D s w') : WK P ops K S z (fuel + 1) listed n D s w :=
  have h := evS_store (P := P) (ty := ty) (t := t) (hT := hT) hx hy h1 hb ho
  WK.oneS i hi hr h.1 (fun e => by rw [hlast] at e; cases e) (k _ h.2)
theorem WK.done (hr : Region.ready .any ops listed = []) (h : K D s w) : WK P ops K S z fuel listed n D s w := fun a ha => by
  cases fuel with
  | zero => exact ⟨hr, D, s, ha, h⟩
  | succ f => exact ⟨fun _ => ⟨D, s, ha, h⟩, fun j hj => by rw [hr] at hj; cases hj⟩
end
end Sx

/- The engine at whole numbers without a sign, and at slices that are read. No condition. -/
namespace Sx
open Go

/-! ### Numbers of 64, 32 and 8 bits without a sign, as plain numbers -/
theorem in_i64 {i : Int} (h : -9223372036854775808 ≤ i ∧ i ≤ 9223372036854775807) : IntKind.i64.min ≤ i ∧ i ≤ IntKind.i64.max := by simp only [IntKind.min, IntKind.max, IntKind.signed, IntKind.bits]; simp; omega
theorem in_u64 {i : Int} (h : 0 ≤ i ∧ i ≤ 18446744073709551615) : IntKind.u64.min ≤ i ∧ i ≤ IntKind.u64.max := by simp only [IntKind.min, IntKind.max, IntKind.signed, IntKind.bits]; simp; omega
theorem wrap_u64 (n : Nat) : IntKind.u64.wrap (n : Int) = ((n % 18446744073709551616 : Nat) : Int) := by
  simp [IntKind.wrap, IntKind.signed, IntKind.bits]
theorem wrap_u32 (n : Nat) : IntKind.u32.wrap (n : Int) = ((n % 4294967296 : Nat) : Int) := by
  simp [IntKind.wrap, IntKind.signed, IntKind.bits]
theorem wrap_u8 (n : Nat) : IntKind.u8.wrap (n : Int) = ((n % 256 : Nat) : Int) := by
  simp [IntKind.wrap, IntKind.signed, IntKind.bits]
theorem wrap_u64i (n : Int) : IntKind.u64.wrap n = n % 18446744073709551616 := by
  simp [IntKind.wrap, IntKind.signed, IntKind.bits]
theorem wrap_u32i (n : Int) : IntKind.u32.wrap n = n % 4294967296 := by
  simp [IntKind.wrap, IntKind.signed, IntKind.bits]
section
variable {P : Program} {n : Nat} {D : List Deferred} {s : Sl} {w : World} {ty : TypeId} {x y : Operand} {ops : Array Oper} {K : KK} {rest : List Oper} {pos : String} {af : Array Edge} {d : Nat}
section
variable {t t' : TypeId} {a b : Nat}
theorem Ev.add64 (hx : opnd s x = some (.int .u64 (a : Int))) (hy : opnd s y = some (.int .u64 (b : Int))) : Ev P s (.binOp .add t x y t') ty w (.int .u64 (((a + b) % 18446744073709551616 : Nat) : Int)) w := by
  have := Ev.add (P := P) (w := w) (ty := ty) (t := t) (t' := t') hx hy
  rwa [← Int.natCast_add, wrap_u64] at this
theorem Ev.add64In (hx : opnd s x = some (.int .u64 (a : Int))) (hy : opnd s y = some (.int .u64 (b : Int))) (h : a + b < 18446744073709551616) : Ev P s (.binOp .add t x y t') ty w (.int .u64 ((a + b : Nat) : Int)) w := by
  have := Ev.add64 (P := P) (w := w) (ty := ty) (t := t) (t' := t') hx hy
  rwa [Nat.mod_eq_of_lt h] at this
theorem Ev.sub64 (hx : opnd s x = some (.int .u64 (a : Int))) (hy : opnd s y = some (.int .u64 (b : Int))) (hb : b ≤ 18446744073709551616) : Ev P s (.binOp .sub t x y t') ty w (.int .u64 (((a + (18446744073709551616 - b)) % 18446744073709551616 : Nat) : Int)) w := by
  have := Ev.sub (P := P) (w := w) (ty := ty) (t := t) (t' := t') hx hy
  rw [wrap_u64i] at this
  rwa [show ((a : Int) - (b : Int)) % 18446744073709551616 = (((a + (18446744073709551616 - b)) % 18446744073709551616 : Nat) : Int) by omega] at this
theorem Ev.sub64In (hx : opnd s x = some (.int .u64 (a : Int))) (hy : opnd s y = some (.int .u64 (b : Int))) (h : b ≤ a) (ha : a < 18446744073709551616) : Ev P s (.binOp .sub t x y t') ty w (.int .u64 ((a - b : Nat) : Int)) w := by
  have := Ev.sub (P := P) (w := w) (ty := ty) (t := t) (t' := t') hx hy
  rw [wrap_u64i] at this
  rwa [show ((a : Int) - (b : Int)) % 18446744073709551616 = ((a - b : Nat) : Int) by omega] at this
theorem Ev.mul64 (hx : opnd s x = some (.int .u64 (a : Int))) (hy : opnd s y = some (.int .u64 (b : Int))) : Ev P s (.binOp .mul t x y t') ty w (.int .u64 (((a * b) % 18446744073709551616 : Nat) : Int)) w := by
  have := Ev.mul (P := P) (w := w) (ty := ty) (t := t) (t' := t') hx hy
  rwa [← Int.natCast_mul, wrap_u64] at this
theorem Ev.mul64In (hx : opnd s x = some (.int .u64 (a : Int))) (hy : opnd s y = some (.int .u64 (b : Int))) (h : a * b < 18446744073709551616) : Ev P s (.binOp .mul t x y t') ty w (.int .u64 ((a * b : Nat) : Int)) w := by
  have := Ev.mul64 (P := P) (w := w) (ty := ty) (t := t) (t' := t') hx hy
  rwa [Nat.mod_eq_of_lt h] at this
theorem Ev.sub32 (hx : opnd s x = some (.int .u32 (a : Int))) (hy : opnd s y = some (.int .u32 (b : Int))) (hb : b ≤ 4294967296) : Ev P s (.binOp .sub t x y t') ty w (.int .u32 (((a + (4294967296 - b)) % 4294967296 : Nat) : Int)) w := by
  have := Ev.sub (P := P) (w := w) (ty := ty) (t := t) (t' := t') hx hy
  rw [wrap_u32i] at this
  rwa [show ((a : Int) - (b : Int)) % 4294967296 = (((a + (4294967296 - b)) % 4294967296 : Nat) : Int) by omega] at this
theorem Ev.mul32 (hx : opnd s x = some (.int .u32 (a : Int))) (hy : opnd s y = some (.int .u32 (b : Int))) : Ev P s (.binOp .mul t x y t') ty w (.int .u32 (((a * b) % 4294967296 : Nat) : Int)) w := by
  have := Ev.mul (P := P) (w := w) (ty := ty) (t := t) (t' := t') hx hy
  rwa [← Int.natCast_mul, wrap_u32] at this
/-- Division, at whatever kind. -/
theorem Ev.quoU {k : IntKind} (hx : opnd s x = some (.int k (a : Int))) (hy : opnd s y = some (.int k (b : Int))) (h : b ≠ 0) (ha : (a : Int) ≤ k.max) : Ev P s (.binOp .quo t x y t') ty w (.int k ((a / b : Nat) : Int)) w := by
  have := Ev.quoIn (P := P) (w := w) (ty := ty) (t := t) (t' := t') hx hy (by omega) ha (by omega)
  simpa using this
theorem Ev.remU {k : IntKind} (hx : opnd s x = some (.int k (a : Int))) (hy : opnd s y = some (.int k (b : Int))) (h : b ≠ 0) : Ev P s (.binOp .rem t x y t') ty w (.int k ((a % b : Nat) : Int)) w := by
  have := Ev.remIn (P := P) (w := w) (ty := ty) (t := t) (t' := t') hx hy (by omega) (by omega)
  simpa using this
theorem ofInt_nat (k a : Nat) : BitVec.ofInt k (a : Int) = BitVec.ofNat k a := BitVec.ofInt_natCast k a
theorem bits_u (k : IntKind) (hs : k.signed = false) (a : Nat) (h : a < 2 ^ k.bits) : k.wrap (a : Int) = (a : Int) := by
  cases k <;> first | (simp [IntKind.signed] at hs; done) | (simp [IntKind.bits] at h; simp [IntKind.wrap, IntKind.signed, IntKind.bits]; omega)
theorem Ev.andU {k : IntKind} (hs : k.signed = false) (hx : opnd s x = some (.int k (a : Int))) (hy : opnd s y = some (.int k (b : Int))) (ha : a < 2 ^ k.bits) (hb : b < 2 ^ k.bits) : Ev P s (.binOp .and t x y t') ty w (.int k ((a &&& b : Nat) : Int)) w := by
  have := Ev.and (P := P) (w := w) (ty := ty) (t := t) (t' := t') hx hy
  have e : bits2 .and k (a : Int) (b : Int) = ((a &&& b : Nat) : Int) := by
    simp only [bits2, ofInt_nat, BitVec.toNat_and, BitVec.toNat_ofNat, Nat.mod_eq_of_lt ha, Nat.mod_eq_of_lt hb]
    exact bits_u k hs _ (Nat.and_lt_two_pow _ hb)
  rwa [e] at this
theorem Ev.orU {k : IntKind} (hs : k.signed = false) (hx : opnd s x = some (.int k (a : Int))) (hy : opnd s y = some (.int k (b : Int))) (ha : a < 2 ^ k.bits) (hb : b < 2 ^ k.bits) : Ev P s (.binOp .or t x y t') ty w (.int k ((a ||| b : Nat) : Int)) w := by
  have := Ev.or (P := P) (w := w) (ty := ty) (t := t) (t' := t') hx hy
  have e : bits2 .or k (a : Int) (b : Int) = ((a ||| b : Nat) : Int) := by
    simp only [bits2, ofInt_nat, BitVec.toNat_or, BitVec.toNat_ofNat, Nat.mod_eq_of_lt ha, Nat.mod_eq_of_lt hb]
    exact bits_u k hs _ (Nat.or_lt_two_pow ha hb)
  rwa [e] at this
theorem Ev.xorU {k : IntKind} (hs : k.signed = false) (hx : opnd s x = some (.int k (a : Int))) (hy : opnd s y = some (.int k (b : Int))) (ha : a < 2 ^ k.bits) (hb : b < 2 ^ k.bits) : Ev P s (.binOp .xor t x y t') ty w (.int k ((a ^^^ b : Nat) : Int)) w := by
  have := Ev.xor (P := P) (w := w) (ty := ty) (t := t) (t' := t') hx hy
  have e : bits2 .xor k (a : Int) (b : Int) = ((a ^^^ b : Nat) : Int) := by
    simp only [bits2, ofInt_nat, BitVec.toNat_xor, BitVec.toNat_ofNat, Nat.mod_eq_of_lt ha, Nat.mod_eq_of_lt hb]
    exact bits_u k hs _ (Nat.xor_lt_two_pow ha hb)
  rwa [e] at this
theorem Ev.andNotU {k : IntKind} (hs : k.signed = false) (hx : opnd s x = some (.int k (a : Int))) (hy : opnd s y = some (.int k (b : Int))) (ha : a < 2 ^ k.bits) (hb : b < 2 ^ k.bits) : Ev P s (.binOp .andNot t x y t') ty w (.int k ((a &&& (2 ^ k.bits - 1 - b) : Nat) : Int)) w := by
  have := Ev.andNot (P := P) (w := w) (ty := ty) (t := t) (t' := t') hx hy
  have e : bits2 .andNot k (a : Int) (b : Int) = ((a &&& (2 ^ k.bits - 1 - b) : Nat) : Int) := by
    simp only [bits2, ofInt_nat, BitVec.toNat_and, BitVec.toNat_not, BitVec.toNat_ofNat, Nat.mod_eq_of_lt ha, Nat.mod_eq_of_lt hb]
    exact bits_u k hs _ (Nat.and_lt_two_pow _ (by omega))
  rwa [e] at this
theorem Ev.complU {k : IntKind} (hs : k.signed = false) (hx : opnd s x = some (.int k (a : Int))) (ha : a < 2 ^ k.bits) : Ev P s (.unOp .xor t x) ty w (.int k ((2 ^ k.bits - 1 - a : Nat) : Int)) w := by
  have := Ev.compl (P := P) (w := w) (ty := ty) (t := t) hx
  have hp := Nat.two_pow_pos k.bits
  have hm : (if k.signed = true then (-1 : Int) else k.max) = ((2 ^ k.bits - 1 : Nat) : Int) := by
    rw [hs]; cases k <;> first | rfl | (simp [IntKind.signed] at hs)
  have e : bits2 .xor k (if k.signed = true then (-1 : Int) else k.max) (a : Int) = ((2 ^ k.bits - 1 - a : Nat) : Int) := by
    rw [hm]
    simp only [bits2, ofInt_nat, BitVec.toNat_xor, BitVec.toNat_ofNat, Nat.mod_eq_of_lt ha, Nat.mod_eq_of_lt (show 2 ^ k.bits - 1 < 2 ^ k.bits by omega)]
    have h2 : (2 ^ k.bits - 1) ^^^ a = 2 ^ k.bits - 1 - a := by
      have := BitVec.toNat_not (x := BitVec.ofNat k.bits a)
      rw [← BitVec.allOnes_xor, BitVec.toNat_xor, BitVec.toNat_allOnes, BitVec.toNat_ofNat, Nat.mod_eq_of_lt ha] at this
      exact this
    rw [h2]
    exact bits_u k hs _ (by omega)
  rwa [e] at this
theorem Ev.shlU64 {k' : IntKind} (hx : opnd s x = some (.int .u64 (a : Int))) (hy : opnd s y = some (.int k' (b : Int))) : Ev P s (.binOp .shl t x y t') ty w (.int .u64 ((a * 2 ^ b % 18446744073709551616 : Nat) : Int)) w := by
  have := Ev.shl (P := P) (w := w) (ty := ty) (t := t) (t' := t') hx hy (by omega)
  have e : IntKind.u64.wrap ((a : Int) * 2 ^ (min (b : Int).toNat IntKind.u64.bits)) = ((a * 2 ^ b % 18446744073709551616 : Nat) : Int) := by
    have hb : (b : Int).toNat = b := by omega
    rw [hb, show ((a : Int) * 2 ^ (min b IntKind.u64.bits)) = ((a * 2 ^ (min b IntKind.u64.bits) : Nat) : Int) by simp, wrap_u64]
    congr 1
    show a * 2 ^ (min b 64) % _ = _
    by_cases h : b ≤ 64
    · rw [Nat.min_eq_left h]
    · rw [Nat.min_eq_right (by omega)]
      obtain ⟨q, rfl⟩ : ∃ q, b = 64 + q := ⟨b - 64, by omega⟩
      rw [Nat.pow_add, ← Nat.mul_assoc]
      have e64 : (2 : Nat) ^ 64 = 18446744073709551616 := by decide
      rw [e64, Nat.mul_mod_left, Nat.mul_right_comm, Nat.mul_mod_left]
  rwa [e] at this
theorem Ev.shlU32 {k' : IntKind} (hx : opnd s x = some (.int .u32 (a : Int))) (hy : opnd s y = some (.int k' (b : Int))) : Ev P s (.binOp .shl t x y t') ty w (.int .u32 ((a * 2 ^ b % 4294967296 : Nat) : Int)) w := by
  have := Ev.shl (P := P) (w := w) (ty := ty) (t := t) (t' := t') hx hy (by omega)
  have e : IntKind.u32.wrap ((a : Int) * 2 ^ (min (b : Int).toNat IntKind.u32.bits)) = ((a * 2 ^ b % 4294967296 : Nat) : Int) := by
    have hb : (b : Int).toNat = b := by omega
    rw [hb, show ((a : Int) * 2 ^ (min b IntKind.u32.bits)) = ((a * 2 ^ (min b IntKind.u32.bits) : Nat) : Int) by simp, wrap_u32]
    congr 1
    show a * 2 ^ (min b 32) % _ = _
    by_cases h : b ≤ 32
    · rw [Nat.min_eq_left h]
    · rw [Nat.min_eq_right (by omega)]
      obtain ⟨q, rfl⟩ : ∃ q, b = 32 + q := ⟨b - 32, by omega⟩
      rw [Nat.pow_add, ← Nat.mul_assoc]
      have e64 : (2 : Nat) ^ 32 = 4294967296 := by decide
      rw [e64, Nat.mul_mod_left, Nat.mul_right_comm, Nat.mul_mod_left]
  rwa [e] at this
theorem div_pow_min {a b k : Nat} (h : a < 2 ^ k) : a / 2 ^ (min b k) = a / 2 ^ b := by
  by_cases hb : b ≤ k
  · rw [Nat.min_eq_left hb]
  · rw [Nat.min_eq_right (by omega), Nat.div_eq_of_lt h, Nat.div_eq_of_lt (Nat.lt_of_lt_of_le h (Nat.pow_le_pow_right (by decide) (by omega)))]
theorem Ev.shrU {k k' : IntKind} (hx : opnd s x = some (.int k (a : Int))) (hy : opnd s y = some (.int k' (b : Int))) (ha : a < 2 ^ k.bits) : Ev P s (.binOp .shr t x y t') ty w (.int k ((a / 2 ^ b : Nat) : Int)) w := by
  have := Ev.shr (P := P) (w := w) (ty := ty) (t := t) (t' := t') hx hy (by omega)
  have e : (a : Int).fdiv (2 ^ (min (b : Int).toNat k.bits)) = ((a / 2 ^ b : Nat) : Int) := by
    have hb : (b : Int).toNat = b := by omega
    rw [hb, show ((2 : Int) ^ (min b k.bits)) = ((2 ^ (min b k.bits) : Nat) : Int) by simp, Int.fdiv_eq_ediv_of_nonneg _ (Int.natCast_nonneg _), ← Int.natCast_ediv, div_pow_min ha]
  rwa [e] at this
/-- A conversion that changes nothing. -/
theorem Ev.convIn {src dst : TypeId} {d0 d' : TypeDesc} {sz by_ sz' by' : Nat} {z z' : Value} {k k' : IntKind} {i : Int} [hs : HasT P src d0 sz by_ z] [hd : HasT P dst d' sz' by' z'] (hk : d' = .int k') (hx : opnd s x = some (.int k i)) (h : k'.min ≤ i ∧ i ≤ k'.max) :
    Ev P s (.convert src dst x) ty w (.int k' i) w := by
  have := Ev.conv (P := P) (w := w) (ty := ty) (src := src) (dst := dst) hk hx
  rwa [wrap_in h] at this
theorem Ev.conv32 {src dst : TypeId} {d0 d' : TypeDesc} {sz by_ sz' by' : Nat} {z z' : Value} {k : IntKind} [hs : HasT P src d0 sz by_ z] [hd : HasT P dst d' sz' by' z'] (hk : d' = .int .u32) (hx : opnd s x = some (.int k (a : Int))) :
    Ev P s (.convert src dst x) ty w (.int .u32 ((a % 4294967296 : Nat) : Int)) w := by
  have := Ev.conv (P := P) (w := w) (ty := ty) (src := src) (dst := dst) hk hx
  rwa [wrap_u32] at this
theorem Ev.conv8 {src dst : TypeId} {d0 d' : TypeDesc} {sz by_ sz' by' : Nat} {z z' : Value} {k : IntKind} [hs : HasT P src d0 sz by_ z] [hd : HasT P dst d' sz' by' z'] (hk : d' = .int .u8) (hx : opnd s x = some (.int k (a : Int))) :
    Ev P s (.convert src dst x) ty w (.int .u8 ((a % 256 : Nat) : Int)) w := by
  have := Ev.conv (P := P) (w := w) (ty := ty) (src := src) (dst := dst) hk hx
  rwa [wrap_u8] at this
theorem Ev.mulIn {a b : Int} (hx : opnd s x = some (.int .i64 a)) (hy : opnd s y = some (.int .i64 b)) (h : -9223372036854775808 ≤ a * b ∧ a * b ≤ 9223372036854775807) : Ev P s (.binOp .mul t x y t') ty w (.int .i64 (a * b)) w := by
  have := Ev.mul (P := P) (w := w) (ty := ty) (t := t) (t' := t') hx hy
  rwa [wrap_i64 h] at this
theorem Ev.negIn {a : Int} (hx : opnd s x = some (.int .i64 a)) (h : -9223372036854775807 ≤ a ∧ a ≤ 9223372036854775807) : Ev P s (.unOp .neg t x) ty w (.int .i64 (-a)) w := by
  have := Ev.neg (P := P) (w := w) (ty := ty) (t := t) hx
  rwa [Int.zero_sub, wrap_i64 (by omega)] at this
end

/-! ### Rows that are read -/
/-- The cells from a on read so. -/
def RW (w : World) (a : Option Addr) (xs : List Value) : Prop := ∀ (i : Nat) (v : Value), xs[i]? = some v → ∃ ad, a = some ad ∧ w.cell? (ad.add i) = some v
theorem addr_add2 (a : Addr) (m n : Nat) : (a.add m).add n = a.add (m + n) := by
  cases a with
  | mk b o f => simp only [Addr.add]; split <;> split <;> simp_all <;> omega
def adr (a : Option Addr) (j : Nat) : Addr := (a.getD ⟨0, 0, none⟩).add j
theorem RW.at_ {a : Option Addr} {xs : List Value} {j : Nat} {v : Value} (h : RW w a xs) (hv : xs[j]? = some v) : w.cell? (adr a j) = some v := by
  obtain ⟨ad, rfl, hc⟩ := h j v hv
  exact hc
theorem RW.some_ {a : Option Addr} {xs : List Value} (h : RW w a xs) (hv : 0 < xs.length) : ∃ ad, a = some ad := by
  obtain ⟨ad, rfl, hc⟩ := h 0 _ (List.getElem?_eq_getElem hv)
  exact ⟨ad, rfl⟩
theorem RW.nil {a : Option Addr} : RW w a [] := fun i v h => by simp at h
theorem RW.keep {a : Option Addr} {xs : List Value} {T : List Nat} {w' : World} (h : RW w a xs) (hc : Chg T w w') (hT : ∀ b ∈ T, w.heap.size ≤ b) : RW w' a xs := fun i v hv => by
  obtain ⟨ad, rfl, h2⟩ := h i v hv
  refine ⟨ad, rfl, hc.cell h2 fun hm => ?_⟩
  have := hT _ hm
  have := block_lt_of_cell h2
  omega
theorem RW.keep0 {a : Option Addr} {xs : List Value} {w' : World} (h : RW w a xs) (hc : Chg [] w w') : RW w' a xs := h.keep hc (by simp)
theorem RW.take {a : Option Addr} {xs : List Value} (h : RW w a xs) (k : Nat) : RW w a (xs.take k) := fun i v hv => by
  rw [List.getElem?_take] at hv
  split at hv
  · exact h i v hv
  · cases hv
theorem RW.drop {a : Option Addr} {xs : List Value} (h : RW w a xs) (k : Nat) : RW w (a.map (·.add k)) (xs.drop k) := fun i v hv => by
  rw [List.getElem?_drop] at hv
  obtain ⟨ad, rfl, h2⟩ := h _ v hv
  exact ⟨ad.add k, rfl, by rw [addr_add2]; exact h2⟩
theorem RW.cut {a : Option Addr} {xs : List Value} (h : RW w a xs) (k c : Nat) (hk : k ≤ xs.length) (hc : xs.length ≤ c) : RW w (cutAt a k c 1) (xs.drop k) := by
  unfold cutAt
  split
  · rename_i e
    rw [List.drop_eq_nil_of_le (by omega)]
    exact RW.nil
  · rw [Nat.mul_one]; exact h.drop k
/-- A row of a known block. -/
theorem RW.of_heap {b : Nat} {xs : List Value} {E : TypeId} {fr : Nat × Nat} (h : w.heap[b]? = some (.cells xs.toArray E fr)) : RW w (some ⟨b, 0, none⟩) xs := fun i v hv => ⟨_, rfl, by rw [add_addr, Nat.zero_add, cell_at h]; exact hv⟩
theorem RW.of_own {e sz : Nat} {a : Option Addr} {m c : Nat} {xs : List Value} (h : w.ownsRow 0 e sz (.slice a m c) m xs) : RW w a xs := fun i v hv => by
  have hp : 0 < xs.length := by
    cases xs with
    | nil => simp at hv
    | cons x xs => simp
  obtain ⟨g, rfl, hc⟩ := own_cell h hp
  exact ⟨_, rfl, by rw [add_addr, Nat.zero_add]; exact hc _ _ hv⟩

/-- The address of element j of a row that is read. -/
theorem Ev.ixR (j : Nat) {t : TypeId} {a : Option Addr} {m c e be : Nat} {k : IntKind} {i : Int} {de : TypeDesc} {ze : Value} {sz by_ : Nat} {z : Value} {xs : List Value} [hT : HasT P t (.slice e) sz by_ z] [hE : HasT P e de 1 be ze] (hx : opnd s x = some (.slice a m c)) (hy : opnd s y = some (.int k i)) (hr : RW w a xs) (hij : i = (j : Int)) (hm : j < m) (hl : j < xs.length) :
    Ev P s (.indexAddr t x y) ty w (.pointer (some (adr a j))) w := by
  obtain ⟨ad, rfl⟩ := hr.some_ (by omega)
  subst hij
  have := Ev.indexAddrG (P := P) (s := s) (w := w) (ty := ty) (t := t) (hT := hT) (hE := hE) hx hy (by omega) (by omega)
  rwa [show ((j : Int)).toNat * 1 = j by omega] at this
theorem Ev.ixB (j : Nat) {t : TypeId} {b m c e be : Nat} {k : IntKind} {i : Int} {de : TypeDesc} {ze : Value} {sz by_ : Nat} {z : Value} [hT : HasT P t (.slice e) sz by_ z] [hE : HasT P e de 1 be ze] (hx : opnd s x = some (.slice (some ⟨b, 0, none⟩) m c)) (hy : opnd s y = some (.int k i)) (hij : i = (j : Int)) (hm : j < m) :
    Ev P s (.indexAddr t x y) ty w (.pointer (some ⟨b, j, none⟩)) w := by
  subst hij
  have := Ev.indexAddr (P := P) (s := s) (w := w) (ty := ty) (t := t) (hT := hT) (hE := hE) hx hy (by omega) (by omega)
  rwa [show 0 + ((j : Int)).toNat * 1 = j by omega] at this

/-! ### Parts of slices, by plain numbers -/
theorem Ev.sliceHn (j : Nat) {t : TypeId} {a : Option Addr} {m c e : Nat} {es be : Nat} {k' : IntKind} {hi : Int} {de : TypeDesc} {ze : Value} {sz by_ : Nat} {z : Value} {q : Operand} [hT : HasT P t (.slice e) sz by_ z] [hE : HasT P e de es be ze]
    (hx : opnd s x = some (.slice a m c)) (hq : opnd s q = some (.int k' hi)) (hj : hi = (j : Int)) (h2 : j ≤ c) : Ev P s (.slice t x none (some q) none) ty w (.slice a j c) w := by
  subst hj
  exact Ev.sliceH (hT := hT) (hE := hE) hx hq (by omega) (by omega)
theorem Ev.sliceLn (j : Nat) {t : TypeId} {a : Option Addr} {m c e : Nat} {es be : Nat} {k' : IntKind} {lo : Int} {de : TypeDesc} {ze : Value} {sz by_ : Nat} {z : Value} {q : Operand} [hT : HasT P t (.slice e) sz by_ z] [hE : HasT P e de es be ze]
    (hx : opnd s x = some (.slice a m c)) (hq : opnd s q = some (.int k' lo)) (hj : lo = (j : Int)) (h2 : j ≤ m) : Ev P s (.slice t x (some q) none none) ty w (.slice (cutAt a j c es) (m - j) (c - j)) w := by
  subst hj
  exact Ev.sliceL (hT := hT) (hE := hE) hx hq (by omega) (by omega)
/-- n[:j:i]. -/
theorem Ev.slice3n (j i : Nat) {t : TypeId} {a : Option Addr} {m c e : Nat} {es be : Nat} {k k' : IntKind} {hi mx : Int} {de : TypeDesc} {ze : Value} {sz by_ : Nat} {z : Value} {p q : Operand} [hT : HasT P t (.slice e) sz by_ z] [hE : HasT P e de es be ze]
    (hx : opnd s x = some (.slice a m c)) (hq : opnd s q = some (.int k' hi)) (hp : opnd s p = some (.int k mx)) (hj : hi = (j : Int)) (hi' : mx = (i : Int)) (h1 : j ≤ i) (h2 : i ≤ c) : Ev P s (.slice t x none (some q) (some p)) ty w (.slice a j i) w := fun ρ d' pos af g hρ => by
  subst hi'; subst hj
  have e1 := hρ x _ hx
  have e2 := hρ q _ hq
  have e3 := hρ p _ hp
  have e4 : (0 : Int) ≤ (j : Int) := by omega
  have e5 : (0 : Int) ≤ (i : Int) := by omega
  simp [execOp, e1, e2, e3, Instr.sliceAt, Instr.slice, hT.underlying, Instr.sliceBounds, Instr.sliceBound, asIntOf, h1, h2, hE.sizeOf]
  intro _; cases a <;> simp [Addr.add]

/-! ### Results -/
theorem bodyA.ret3 {fn : Func} {R : Value → World → Prop} {t u q : Nat} {v x z : Value} (hr : fn.results = #[.tmp t, .tmp u, .tmp q]) (ht : look s t = some v) (hu : look s u = some x) (hq : look s q = some z) (h : R (.tuple [v, x, z].toArray) w) : bodyA P fn n R .ret [] s w :=
  bodyA.retR3 hr (RVal.tmp ht) (RVal.tmp hu) (RVal.tmp hq) h
/-! ### Bools that part -/
theorem WL.boolCase {b : Bool} (ht : b = true → WL P ops K rest n D ((d, .bool true) :: s) w) (hf : b = false → WL P ops K rest n D ((d, .bool false) :: s) w) : WL P ops K rest n D ((d, .bool b) :: s) w := by
  cases b
  · exact hf rfl
  · exact ht rfl
theorem Subs.consB {s s' : Sl} {t : Nat} {b b' : Bool} (h : look s t = some (.bool b')) (hb : b' = b) (hs : Subs s' s) : Subs ((t, .bool b) :: s') s := by
  subst hb; exact Subs.cons h hs
theorem Subs.consI {s s' : Sl} {t : Nat} {k : IntKind} {i i' : Int} (h : look s t = some (.int k i')) (hi : i' = i) (hs : Subs s' s) : Subs ((t, .int k i) :: s') s := by
  subst hi; exact Subs.cons h hs
theorem Subs.drop1 {s s' : Sl} {k : Nat} {v : Value} (h : look s' k = none) (hs : Subs s' s) : Subs s' ((k, v) :: s) := fun t x hx => by
  rw [look_cons]
  by_cases e : k = t
  · subst e; rw [h] at hx; cases hx
  · rw [if_neg e]; exact hs t x hx
/-- A condition's region ends in one answer. -/
theorem CW.seqM {A : AQ} {x y : Code} (c : Nat) (b : Bool) (hx : CW P x (thenK (fun D' s' w' => D' = D ∧ w' = w ∧ Subs ((c, .bool b) :: s) s') A) n D s w) (hy : CW P y A n D ((c, .bool b) :: s) w) : CW P (.seq x y) A n D s w :=
  CW.seqJ _ hx fun D' s' w' ⟨h1, h2, h3⟩ => by subst h1; subst h2; exact hy.sub h3

/-! ### Lists as cells -/
section
variable {α : Type}
theorem map_at (f : α → Value) {l : List α} {i : Nat} (d0 : α) (h : i < l.length) : (l.map f)[i]? = some (f (l.getD i d0)) := by
  rw [List.getElem?_map, List.getD_eq_getElem?_getD, List.getElem?_eq_getElem h]; rfl
end
def u32v (n : Nat) : Value := .int .u32 (n : Int)
def u64v (n : Nat) : Value := .int .u64 (n : Int)
def u8v (n : Nat) : Value := .int .u8 (n : Int)
def f64v (n : Nat) : Value := .float .f64 n
theorem u32_one (l : List Nat) : ∀ v ∈ l.map u32v, v.oneCell' = true := fun v hv => by obtain ⟨x, _, rfl⟩ := List.mem_map.1 hv; rfl
theorem RW.u32 {a : Option Addr} {l : List Nat} {j : Nat} (h : RW w a (l.map u32v)) (hj : j < l.length) : w.cell? (adr a j) = some (.int .u32 ((l.getD j 0 : Nat) : Int)) := h.at_ (map_at u32v 0 hj)
theorem RW.f64 {a : Option Addr} {l : List Nat} {j : Nat} (h : RW w a (l.map f64v)) (hj : j < l.length) : w.cell? (adr a j) = some (.float .f64 (l.getD j 0)) := h.at_ (map_at f64v 0 hj)
/-- A block of words. -/
def OB (w : World) (b : Nat) (E : TypeId) (l : List Nat) : Prop := w.heap[b]? = some (.cells (l.map u32v).toArray E (0, 0))
theorem OB.u32 {b : Nat} {E : TypeId} {l : List Nat} {j : Nat} (h : OB w b E l) (hj : j < l.length) : w.cell? ⟨b, j, none⟩ = some (.int .u32 ((l.getD j 0 : Nat) : Int)) := by
  rw [cell_at h]; exact map_at u32v 0 hj
theorem OB.row {b : Nat} {E : TypeId} {l : List Nat} (h : OB w b E l) : RW w (some ⟨b, 0, none⟩) (l.map u32v) := RW.of_heap h
theorem OB.keep {b : Nat} {E : TypeId} {l : List Nat} {T : List Nat} {w' : World} (h : OB w b E l) (hc : Chg T w w') (hT : b ∉ T) : OB w' b E l := hc.heap h hT
theorem OB.keep0 {b : Nat} {E : TypeId} {l : List Nat} {w' : World} (h : OB w b E l) (hc : Chg [] w w') : OB w' b E l := hc.heap h (by simp)
theorem WL.storeU {t : TypeId} {ds : TypeDesc} {by_ : Nat} {z : Value} {b i v : Nat} {l : List Nat} {E : TypeId} [hT : HasT P t ds 1 by_ z] (hx : opnd s x = some (.pointer (some ⟨b, i, none⟩))) (hy : opnd s y = some (.int .u32 (v : Int)))
    (hb : OB w b E l) (hi : i < l.length) (k : ∀ w', OB w' b E (l.set i v) → Chg [b] w w' → WL P ops K rest n D s w') : WL P ops K (⟨none, .store t x y, ty, pos, af, none⟩ :: rest) n D s w :=
  WL.store (l := l.map u32v) (v := u32v v) hx hy rfl hb (by simpa using hi) fun w' hu => k w' (by have := hu.at_; rw [← List.map_set] at this; exact this) hu.chg
theorem Chg.step {T T' : List Nat} {a b c : World} (h : Chg T a b) (k : Chg T' b c) (hT : ∀ x, x ∈ T' → x ∈ T ∨ a.heap.size ≤ x) : Chg T a c :=
  ⟨k.os.trans h.os, k.tape.trans h.tape, k.output.trans h.output, Nat.le_trans h.size k.size, fun i hi hn => (k.block i (Nat.lt_of_lt_of_le hi h.size) fun hm => by
    rcases hT i hm with q | q
    · exact hn q
    · omega).trans (h.block i hi hn)⟩
theorem madeU {z : Value} (hz : z.cells = #[.int .u32 0]) (n : Nat) : madeCells z.cells (n * 1) = ((List.replicate n 0).map u32v).toArray := by
  rw [hz, Nat.mul_one]
  apply Array.ext'
  simp [madeCells, List.map_replicate, u32v, Nat.mod_one, List.map_const']
/-- make([]uint32, j, i). -/
theorem WL.makeU (j i : Nat) {t : TypeId} {e be : Nat} {kl kc : IntKind} {l c : Int} {sz by_ : Nat} {z : Value} [hT : HasT P t (.slice e) sz by_ z] [hE : HasT P e (.int .u32) 1 be (.int .u32 0)] (hx : opnd s x = some (.int kl l)) (hy : opnd s y = some (.int kc c))
    (hl : l = (j : Int)) (hc : c = (i : Int)) (hlc : j ≤ i) (hb : be * i ≤ 281474976710656) (h63 : i ≤ 281474976710656) (hd : Nat.blt d n = true)
    (k : ∀ b w', OB w' b e (List.replicate i 0) → Chg [] w w' → w.heap.size ≤ b → WL P ops K rest n D ((d, .slice (some ⟨b, 0, none⟩) j i) :: s) w') : WL P ops K (⟨some d, .makeSlice t x y, ty, pos, af, none⟩ :: rest) n D s w := by
  subst hl; subst hc
  refine WL.make (hT := hT) (hE := hE) hx hy (by omega) (by omega) (by rw [show (be : Int) * (i : Int) = ((be * i : Nat) : Int) by simp]; omega) (by omega) hd fun b w' hn => ?_
  have h1 := hn.at_
  rw [show (i : Int).toNat = i by omega, madeU (by rfl)] at h1
  exact k b w' h1 hn.chg hn.ge
/-- copy(own, a slice that is read). -/
theorem WL.copyU {t t' : TypeId} {e be : Nat} {b m c n' c2 : Nat} {a : Option Addr} {l xs : List Nat} {sz by_ : Nat} {z ze : Value} {de : TypeDesc} [hT : HasT P t (.slice e) sz by_ z] [hE : HasT P e de 1 be ze] (hx : opnd s x = some (.slice (some ⟨b, 0, none⟩) m c)) (hy : opnd s y = some (.slice a n' c2)) (hb : OB w b e l) (hr : RW w a (xs.map u32v)) (hn : n' ≤ xs.length) (hm : m ≤ l.length) (hd : Nat.blt d n = true)
    (k : ∀ w', OB w' b e (xs.take (min n' m) ++ l.drop (min n' m)) → Chg [b] w w' → WL P ops K rest n D ((d, .int .i64 ((min n' m : Nat) : Int)) :: s) w') : WL P ops K (⟨some d, .call ⟨.builtin .copy, [x, y].toArray, #[t, t']⟩, ty, pos, af, none⟩ :: rest) n D s w := by
  obtain ⟨i, hi, hi1, hi2, hi3⟩ := hE.inf
  have hsz : (P.info? e).map (·.size) = some 1 := by rw [hi]; simp [hi1]
  by_cases h0 : min n' m = 0
  · refine WL.ev (v := goInt 0) (w' := w) (fun ρ d' pos af g hρ => ?_) hd ?_
    · have e1 := hρ x _ hx
      have e2 := hρ y _ hy
      have := run_copy_none (P := P) w t t' ty e (some ⟨b, 0, none⟩) a m c n' c2 hT.und hsz h0
      simp [execOp, resolve, invoke, builtin, e1, e2, this]
    · have := k w (by rw [h0]; simpa using hb) (Chg.refl _ _)
      rw [h0] at this
      exact this
  · obtain ⟨ad, rfl⟩ := hr.some_ (by simp; omega)
    have hlen : ((xs.take (min n' m)).map u32v).length = Nat.min n' m := by
      show _ = min n' m
      simp; omega
    have hrun := run_copy_row (P := P) w t t' ty e b 0 m c ad n' c2 (l.map u32v).toArray e ((xs.take (min n' m)).map u32v) hT.und hsz hb hlen
      (fun j v hv => by
        obtain ⟨ad', e0, h2⟩ := (by rw [List.map_take]; exact hr.take (min n' m) : RW w (some ad) ((xs.take (min n' m)).map u32v)) j v hv
        cases e0; exact h2)
      (by simp; omega) (u32_one _)
    obtain ⟨Wn, hWn⟩ : ∃ Wn, Wn = w.setRow b ((l.map u32v).toArray.toList.take 0 ++ (xs.take (min n' m)).map u32v ++ (l.map u32v).toArray.toList.drop (0 + ((xs.take (min n' m)).map u32v).length)).toArray := ⟨_, rfl⟩
    rw [← hWn] at hrun
    refine WL.ev (v := goInt ((xs.take (min n' m)).map u32v).length) (w' := Wn) (fun ρ d' pos af g hρ => ?_) hd ?_
    · have e1 := hρ x _ hx
      have e2 := hρ y _ hy
      simp [execOp, resolve, invoke, builtin, e1, e2, hrun]
    · rw [hlen]
      refine k _ ?_ ?_
      · have := setRow_heap w b _ ((l.map u32v).toArray.toList.take 0 ++ (xs.take (min n' m)).map u32v ++ (l.map u32v).toArray.toList.drop (0 + ((xs.take (min n' m)).map u32v).length)).toArray e (0, 0) hb
        rw [← hWn] at this
        unfold OB
        rw [this, hlen]
        simp [List.map_drop]
      · subst hWn
        exact ⟨rfl, rfl, rfl, by simp [World.setRow], fun q hq hnq => setRow_other w b q _ (by simpa using hnq)⟩
theorem Ev.neq_bool {t t' : TypeId} {sz by_ : Nat} {z : Value} {a b : Bool} [hT : HasT P t .bool sz by_ z] (hx : opnd s x = some (.bool a)) (hy : opnd s y = some (.bool b)) : Ev P s (.binOp .neq t x y t') ty w (.bool (a != b)) w :=
  run_bin hx hy (fun _ _ => eqGuard_bool _ _ _ _ _ _) (by
    have := run_eqIn (P := P) (w := w) (t := t) (u := .bool a) (v := .bool b) (r := a == b) fun d => by simp [Op.equalIn, hT.underlying]
    simp only [binOp]
    simp [this, bne])
theorem Ev.maxI {a b : Int} {t1 t2 : TypeId} (hx : opnd s x = some (.int .i64 a)) (hy : opnd s y = some (.int .i64 b)) : Ev P s (.call ⟨.builtin .max, [x, y].toArray, #[t1, t2]⟩) ty w (.int .i64 (max a b)) w := fun ρ d' pos af g hρ => by
  have e1 := hρ x _ hx
  have e2 := hρ y _ hy
  simp [execOp, resolve, invoke, builtin, e1, e2, Builtin.max_, Builtin.max2]
  by_cases h : a ≤ b
  · rw [Int.max_eq_right h]; simp [h]; try omega
  · rw [Int.max_eq_left (by omega)]; simp [h]; try omega
theorem Ev.minI {a b : Int} {t1 t2 : TypeId} (hx : opnd s x = some (.int .i64 a)) (hy : opnd s y = some (.int .i64 b)) : Ev P s (.call ⟨.builtin .min, [x, y].toArray, #[t1, t2]⟩) ty w (.int .i64 (min a b)) w := fun ρ d' pos af g hρ => by
  have e1 := hρ x _ hx
  have e2 := hρ y _ hy
  simp [execOp, resolve, invoke, builtin, e1, e2, Builtin.min_, Builtin.min2]
  by_cases h : a ≤ b
  · rw [Int.min_eq_left h]; simp [h]; try omega
  · rw [Int.min_eq_right (by omega)]; simp [h]; try omega
/-! ### Blocks of known cells -/
def BK (w : World) (b : Nat) (T : TypeId) (l : List Value) : Prop := w.heap[b]? = some (.cells l.toArray T (0, 0))
theorem BK.keep {b : Nat} {T : TypeId} {l : List Value} {U : List Nat} {w' : World} (h : BK w b T l) (hc : Chg U w w') (hT : b ∉ U) : BK w' b T l := hc.heap h hT
theorem BK.keep0 {b : Nat} {T : TypeId} {l : List Value} {w' : World} (h : BK w b T l) (hc : Chg [] w w') : BK w' b T l := hc.heap h (by simp)
theorem BK.lt {b : Nat} {T : TypeId} {l : List Value} (h : BK w b T l) : b < w.heap.size := lt_of_heap h
theorem BK.at_ {b : Nat} {T : TypeId} {l : List Value} {i : Nat} {v : Value} (h : BK w b T l) (hv : l[i]? = some v) : w.cell? ⟨b, i, none⟩ = some v := by rw [cell_at h]; exact hv
theorem BK.sub {b : Nat} {T : TypeId} {l cs : List Value} {o m : Nat} (h : BK w b T l) (hc : (l.drop o).take m = cs) : ∀ j v, cs[j]? = some v → w.cell? (Addr.add ⟨b, o, none⟩ j) = some v := fun j v hj => by
  subst hc
  rw [add_addr]
  refine h.at_ ?_
  rw [List.getElem?_take] at hj
  split at hj
  · rwa [List.getElem?_drop] at hj
  · cases hj
theorem Ev.loadB {t : TypeId} {ds : TypeDesc} {sz by_ b o : Nat} {z : Value} {T : TypeId} {l cs : List Value} [hT : HasT P t ds sz by_ z] (hd : aggD ds = true) (hx : opnd s x = some (.pointer (some ⟨b, o, none⟩))) (hb : BK w b T l) (hc : (l.drop o).take sz = cs) (hl : cs.length = sz) : Ev P s (.load t x) ty w (.agg cs.toArray) w :=
  Ev.loadAgg hd hl hx (hb.sub hc)
theorem Ev.loadA {t : TypeId} {ds : TypeDesc} {sz by_ b : Nat} {z : Value} {T : TypeId} {l : List Value} [hT : HasT P t ds sz by_ z] (hd : aggD ds = true) (hx : opnd s x = some (.pointer (some ⟨b, 0, none⟩))) (hb : BK w b T l) (hl : l.length = sz) : Ev P s (.load t x) ty w (.agg l.toArray) w :=
  Ev.loadAgg hd hl hx (hb.sub (m := l.length) (by simp))
theorem BK.varA {t : TypeId} {ds : TypeDesc} {sz by_ b : Nat} {z : Value} {T : TypeId} {l : List Value} [hT : HasT P t ds sz by_ z] (hb : BK w b T l) (hd : aggD ds = true) (hl : l.length = sz) : (loadVar t ⟨b, 0, none⟩).run P w = .ok (.agg l.toArray) w :=
  loadVar_agg hd hl (hb.sub (m := l.length) (by simp))
theorem BK.var1 {t : TypeId} {ds : TypeDesc} {sz by_ b o : Nat} {z v : Value} {T : TypeId} {l : List Value} [hT : HasT P t ds sz by_ z] (hb : BK w b T l) (hd : aggD ds = false) (hc : l[o]? = some v) : (loadVar t ⟨b, o, none⟩).run P w = .ok v w :=
  loadVar_one hd (hb.at_ hc)
theorem WL.allocB {t : TypeId} {ds : TypeDesc} {sz by_ : Nat} {z : Value} {l : List Value} [hT : HasT P t ds sz by_ z] (hl : z.cells = l.toArray) (hd : Nat.blt d n = true)
    (k : ∀ b w', BK w' b t l → Chg [] w w' → w.heap.size ≤ b → WL P ops K rest n D ((d, .pointer (some ⟨b, 0, none⟩)) :: s) w') : WL P ops K (⟨some d, .alloc t, ty, pos, af, none⟩ :: rest) n D s w :=
  WL.alloc hl hd fun b w' hn => k b w' hn.at_ hn.chg hn.ge
theorem WL.boxB {t : TypeId} {v : Value} {l : List Value} (hx : opnd s x = some v) (hl : v.cells = l.toArray) (hd : Nat.blt d n = true)
    (k : ∀ b w', BK w' b t l → Chg [] w w' → w.heap.size ≤ b → WL P ops K rest n D ((d, .pointer (some ⟨b, 0, none⟩)) :: s) w') : WL P ops K (⟨some d, .box t x, ty, pos, af, none⟩ :: rest) n D s w :=
  WL.box hx hl hd fun b w' hn => k b w' hn.at_ hn.chg hn.ge
theorem WL.storeB {t : TypeId} {ds : TypeDesc} {sz by_ : Nat} {z : Value} {b i : Nat} {l l' vs : List Value} {T : TypeId} [hT : HasT P t ds sz by_ z] (hx : opnd s x = some (.pointer (some ⟨b, i, none⟩))) (hy : opnd s y = some (.agg vs.toArray)) (hs : vs.length = sz) (h1 : ∀ v ∈ vs, v.oneCell' = true)
    (hb : BK w b T l) (hi : i + vs.length ≤ l.length) (he : splice l i vs = l') (k : ∀ w', BK w' b T l' → Chg [b] w w' → WL P ops K rest n D s w') : WL P ops K (⟨none, .store t x y, ty, pos, af, none⟩ :: rest) n D s w := by
  subst he
  exact WL.storeAgg hx hy hs h1 hb hi fun w' hu => k w' hu.at_ hu.chg
theorem WL.storeC {t : TypeId} {ds : TypeDesc} {by_ : Nat} {z : Value} {b i : Nat} {l l' : List Value} {T : TypeId} {v : Value} [hT : HasT P t ds 1 by_ z] (hx : opnd s x = some (.pointer (some ⟨b, i, none⟩))) (hy : opnd s y = some v) (h1 : v.oneCell' = true)
    (hb : BK w b T l) (hi : i < l.length) (he : l.set i v = l') (k : ∀ w', BK w' b T l' → Chg [b] w w' → WL P ops K rest n D s w') : WL P ops K (⟨none, .store t x y, ty, pos, af, none⟩ :: rest) n D s w := by
  subst he
  exact WL.store hx hy h1 hb hi fun w' hu => k w' hu.at_ hu.chg
/-! ### Whatever order, where nothing old turns -/
theorem CW.regionHC {A : AQ} {id : Nat} {l : List Oper} (m : Nat) (hz : l.length = m) (hm : P.follows .mixedOrders = true)
    (h : ∀ R : KK, (∀ D s w, A .normal D s w → R D s w) → Chg [] w.drew w.drew → Chg [] w w.drew → WH P l.toArray R (Chg [] w.drew) m (Array.replicate m false) n D s w.drew) : CW P (.region id l.toArray true) A n D s w :=
  CW.regionH (Chg [] w.drew) m hz hm fun R hR => h R hR (Chg.refl _ _) (Chg.drew _ _)
theorem CW.regionSC {A : AQ} {id : Nat} {l : List Oper} (hm : P.follows .mixedOrders = true) (hB : Region.lexB .any l.toArray = true)
    (h : ∀ K : List Deferred → Sl → Prop, (∀ D s, A .normal D s w.drew → K D s) → Chg [] w w.drew → WS P l.toArray K l n D s w.drew) : CW P (.region id l.toArray true) A n D s w :=
  CW.regionS hm hB fun K hK => h K hK (Chg.drew _ _)
theorem CW.regionKC {A : AQ} {id : Nat} {l : List Oper} (z m : Nat) (hz : l.length = m) (hm : P.follows .mixedOrders = true)
    (h : ∀ R : KK, (∀ D s w, A .normal D s w → R D s w) → Chg [] w.drew w.drew → Chg [] w w.drew → WK P l.toArray R (Chg [] w.drew) z m (Array.replicate m false) n D s w.drew) : CW P (.region id l.toArray true) A n D s w :=
  CW.regionK (Chg [] w.drew) z m hz hm fun R hR => h R hR (Chg.refl _ _) (Chg.drew _ _)
/-! ### Two blocks that are stored as they are -/
theorem splice_same : ∀ (r l : List Value), splice (l ++ r) l.length r = l ++ r
  | [], l => by simp [splice]
  | x :: r, l => by
    have h := splice_same r (l ++ [x])
    simp only [splice]
    rw [show (l ++ x :: r).set l.length x = l ++ x :: r by simp]
    simpa using h
def S2 (b : Nat) (T : TypeId) (l : List Value) (b2 : Nat) (T2 : TypeId) (l2 : List Value) (w : World) : Prop := BK w b T l ∧ BK w b2 T2 l2
theorem CW.regionS2 {A : AQ} {id : Nat} {l : List Oper} (m : Nat) {b b2 : Nat} {T T2 : TypeId} {l1 l2 : List Value} (hb : BK w b T l1) (hb2 : BK w b2 T2 l2) (hz : l.length = m) (hm : P.follows .mixedOrders = true)
    (h : ∀ R : KK, (∀ D s w, A .normal D s w → R D s w) → S2 b T l1 b2 T2 l2 w.drew → Chg [] w w.drew → WH P l.toArray R (S2 b T l1 b2 T2 l2) m (Array.replicate m false) n D s w.drew) : CW P (.region id l.toArray true) A n D s w :=
  CW.regionH (S2 b T l1 b2 T2 l2) m hz hm fun R hR => h R hR ⟨hb.keep0 (Chg.drew _ _), hb2.keep0 (Chg.drew _ _)⟩ (Chg.drew _ _)
section
variable {fuel : Nat} {listed : Array Bool} {b b2 : Nat} {T T2 : TypeId} {l1 l2 : List Value}
theorem WH.same1 (i : Nat) {t : TypeId} {ds : TypeDesc} {sz by_ : Nat} {z0 : Value} {x y : Operand} [hT : HasT P t ds sz by_ z0] (hi : ops[i]? = some ⟨none, .store t x y, ty, pos, af, none⟩) (hr : Region.ready .any ops listed = [i])
    (hx : opnd s x = some (.pointer (some ⟨b, 0, none⟩))) (hy : opnd s y = some (.agg l1.toArray)) (hs : l1.length = sz) (h1 : ∀ v ∈ l1, v.oneCell' = true) (hne : b ≠ b2) (hS : S2 b T l1 b2 T2 l2 w)
    (k : ∀ w', S2 b T l1 b2 T2 l2 w' → Chg [b] w w' → WH P ops K (S2 b T l1 b2 T2 l2) fuel (listed.setIfInBounds i true) n D s w') : WH P ops K (S2 b T l1 b2 T2 l2) (fuel + 1) listed n D s w := by
  obtain ⟨w', he, hu⟩ := evS_storeAgg (P := P) (ty := ty) (t := t) (hT := hT) hx hy hs h1 hS.1 (by simp)
  have e := splice_same l1 []
  simp only [List.nil_append, List.length_nil] at e
  have h3 := hu.at_
  rw [e] at h3
  have h4 : S2 b T l1 b2 T2 l2 w' := ⟨h3, hS.2.keep hu.chg (by simpa using Ne.symm hne)⟩
  exact WH.oneS i hi hr he h4 (k w' h4 hu.chg)
theorem WH.same2 (i : Nat) {t : TypeId} {ds : TypeDesc} {sz by_ : Nat} {z0 : Value} {x y : Operand} [hT : HasT P t ds sz by_ z0] (hi : ops[i]? = some ⟨none, .store t x y, ty, pos, af, none⟩) (hr : Region.ready .any ops listed = [i])
    (hx : opnd s x = some (.pointer (some ⟨b2, 0, none⟩))) (hy : opnd s y = some (.agg l2.toArray)) (hs : l2.length = sz) (h1 : ∀ v ∈ l2, v.oneCell' = true) (hne : b ≠ b2) (hS : S2 b T l1 b2 T2 l2 w)
    (k : ∀ w', S2 b T l1 b2 T2 l2 w' → Chg [b2] w w' → WH P ops K (S2 b T l1 b2 T2 l2) fuel (listed.setIfInBounds i true) n D s w') : WH P ops K (S2 b T l1 b2 T2 l2) (fuel + 1) listed n D s w := by
  obtain ⟨w', he, hu⟩ := evS_storeAgg (P := P) (ty := ty) (t := t) (hT := hT) hx hy hs h1 hS.2 (by simp)
  have e := splice_same l2 []
  simp only [List.nil_append, List.length_nil] at e
  have h3 := hu.at_
  rw [e] at h3
  have h4 : S2 b T l1 b2 T2 l2 w' := ⟨hS.1.keep hu.chg (by simpa using hne), h3⟩
  exact WH.oneS i hi hr he h4 (k w' h4 hu.chg)
end
section
variable {A : AQ} {S : World → Prop} {z : Nat} {fuel : Nat} {listed : Array Bool} {op : Op}
theorem WK.storeB (i : Nat) {t : TypeId} {ds : TypeDesc} {sz by_ : Nat} {z0 : Value} {b o : Nat} {l l' vs : List Value} {T : TypeId} {x y : Operand} [hT : HasT P t ds sz by_ z0] (hi : ops[i]? = some ⟨none, .store t x y, ty, pos, af, none⟩) (hr : Region.ready .any ops listed = [i]) (hlast : (listed.setIfInBounds i true).getD z false = true)
    (hx : opnd s x = some (.pointer (some ⟨b, o, none⟩))) (hy : opnd s y = some (.agg vs.toArray)) (hs : vs.length = sz) (h1 : ∀ v ∈ vs, v.oneCell' = true)
    (hb : BK w b T l) (ho : o + vs.length ≤ l.length) (he : splice l o vs = l') (k : ∀ w', BK w' b T l' → Chg [b] w w' → WK P ops K S z fuel (listed.setIfInBounds i true) n D s w') : WK P ops K S z (fuel + 1) listed n D s w := by
  subst he
  obtain ⟨w', he, hu⟩ := evS_storeAgg (P := P) (ty := ty) (t := t) (hT := hT) hx hy hs h1 hb ho
  exact WK.oneS i hi hr he (fun e => by rw [hlast] at e; cases e) (k w' hu.at_ hu.chg)
theorem WK.storeC (i : Nat) {t : TypeId} {ds : TypeDesc} {by_ : Nat} {z0 : Value} {b o : Nat} {l l' : List Value} {T : TypeId} {u : Value} {x y : Operand} [hT : HasT P t ds 1 by_ z0] (hi : ops[i]? = some ⟨none, .store t x y, ty, pos, af, none⟩) (hr : Region.ready .any ops listed = [i]) (hlast : (listed.setIfInBounds i true).getD z false = true)
    (hx : opnd s x = some (.pointer (some ⟨b, o, none⟩))) (hy : opnd s y = some u) (h1 : u.oneCell' = true)
    (hb : BK w b T l) (ho : o < l.length) (he : l.set o u = l') (k : ∀ w', BK w' b T l' → Chg [b] w w' → WK P ops K S z fuel (listed.setIfInBounds i true) n D s w') : WK P ops K S z (fuel + 1) listed n D s w := by
  subst he
  exact WK.storeLast i hi hr hlast hx hy h1 hb ho fun w' hu => k w' hu.at_ hu.chg
theorem WK.storeU (i : Nat) {t : TypeId} {ds : TypeDesc} {by_ : Nat} {z0 : Value} {b o v : Nat} {l : List Nat} {E : TypeId} {x y : Operand} [hT : HasT P t ds 1 by_ z0] (hi : ops[i]? = some ⟨none, .store t x y, ty, pos, af, none⟩) (hr : Region.ready .any ops listed = [i]) (hlast : (listed.setIfInBounds i true).getD z false = true)
    (hx : opnd s x = some (.pointer (some ⟨b, o, none⟩))) (hy : opnd s y = some (.int .u32 (v : Int)))
    (hb : OB w b E l) (ho : o < l.length) (k : ∀ w', OB w' b E (l.set o v) → Chg [b] w w' → WK P ops K S z fuel (listed.setIfInBounds i true) n D s w') : WK P ops K S z (fuel + 1) listed n D s w :=
  WK.storeLast (l := l.map u32v) (u := u32v v) i hi hr hlast hx hy rfl hb (by simpa using ho) fun w' hu => k w' (by have := hu.at_; rw [← List.map_set] at this; exact this) hu.chg
theorem WK.after (i : Nat) {d : Nat} {v : Value} (hi : ops[i]? = some ⟨some d, op, ty, pos, af, none⟩) (hr : Region.ready .any ops listed = [i]) (hlast : (listed.setIfInBounds i true).getD z false = true) (he : Ev P s op ty w v w) (hd : Nat.blt d n = true)
    (k : WK P ops K S z fuel (listed.setIfInBounds i true) n D ((d, v) :: s) w) : WK P ops K S z (fuel + 1) listed n D s w :=
  WK.one i hi hr he (fun e => by rw [hlast] at e; cases e) hd k
end
/-- A letter of a constant text. -/
theorem Ev.indexS {t : TypeId} {bs : ByteArray} {k : IntKind} {i : Nat} {c : UInt8} {sz by_ : Nat} {z : Value} [hT : HasT P t .string sz by_ z] (hx : opnd s x = some (.string bs)) (hy : opnd s y = some (.int k (i : Int))) (hc : bs[i]? = some c) : Ev P s (.index t x y) ty w (.int .u8 (c.toNat : Int)) w := fun ρ d' pos af g hρ => by
  have e1 := hρ x _ hx
  have e2 := hρ y _ hy
  have e3 : (0 : Int) ≤ (i : Int) := by omega
  simp [execOp, e1, e2, Instr.index, asIntOf, hT.underlying, hc]
end
end Sx

/- Short names for what the walks say most often. No condition. -/
namespace Sx
open Go

theorem qs : (∀ (p : Prop) [Decidable p], (decide p = true) = p) ∧ (∀ (p : Prop) [Decidable p], (decide p = false) = ¬ p) ∧ (∀ (p : Prop) [Decidable p], (¬ ¬ p) = p) ∧ (∀ a b : Bool, ((a && b) = true) = (a = true ∧ b = true)) ∧ (∀ a b : Bool, ((a || b) = true) = (a = true ∨ b = true)) ∧ (∀ b : Bool, ((!b) = true) = (b = false)) ∧ (∀ b : Bool, ((!b) = false) = (b = true)) ∧ (∀ (α : Type) (a b : α), (a ≠ b) = ¬ a = b) ∧ (∀ a b : Int, (¬ a < b) = (b ≤ a)) ∧ (∀ a b : Int, (¬ a ≤ b) = (b < a)) :=
  ⟨fun p _ => by simp, fun p _ => by simp, fun p _ => by simp [Decidable.not_not], fun a b => by simp, fun a b => by simp, fun b => by simp, fun b => by simp, fun _ a b => rfl, fun a b => propext Int.not_lt, fun a b => propext Int.not_le⟩
theorem qt : (∀ (x y : Value) (l : List Value), (x :: l).set 0 y = y :: l) ∧ (∀ (x y : Value) (l : List Value) (i : Nat), (x :: l).set (i + 1) y = x :: l.set i y) ∧ (∀ n : Nat, 0 + n = n) := ⟨fun _ _ _ => rfl, fun _ _ _ _ => rfl, Nat.zero_add⟩
theorem Chg.s1 {T : List Nat} {b : Nat} {w0 w w' : World} (h : Chg T w0 w) (k : Chg [b] w w') (hb : b ∈ T ∨ w0.heap.size ≤ b := by first | exact .inr (by first | assumption | omega) | exact .inl (by simp)) : Chg T w0 w' :=
  h.step k fun y hy => by simp only [List.mem_singleton] at hy; subst hy; exact hb
section
variable {P : Program} {n : Nat} {D : List Deferred} {s : Sl} {w : World} {ops : Array Oper} {K : KK} {rest : List Oper} {ty : TypeId} {pos : String} {af : Array Edge} {d : Nat} {x : Operand} {v : Value}
theorem Mv (h : opnd s x = some v) (hd : Nat.blt d n = true) (k : WL P ops K rest n D ((d, v) :: s) w) : WL P ops K (⟨some d, .move x, ty, pos, af, none⟩ :: rest) n D s w := WL.ev (Ev.move h) hd k
theorem As (h : opnd s x = some v) (hd : Nat.blt d n = true) (k : WL P ops K rest n D ((d, v) :: s) w) : WL P ops K (⟨some d, .assign x, ty, pos, af, none⟩ :: rest) n D s w := WL.ev (Ev.assign h) hd k
theorem Sq {A : AQ} {id : Nat} {l : List Oper} {y : Code} (h : ∀ K : KK, (∀ D s w, CW P y A n D s w → K D s w) → ∀ R : KK, (∀ D s w, thenK K A .normal D s w → R D s w) → WL P l.toArray R l n D s w) : CW P (.seq (.region id l.toArray false) y) A n D s w :=
  CW.seq fun K kh => CW.region fun R kr => h K kh R kr
end
end Sx

/- The engine, more operations. No condition. -/
namespace Sx
open Go
section
variable {P : Program} {n : Nat} {D : List Deferred} {s : Sl} {w : World} {ty : TypeId} {x y : Operand} {ops : Array Oper} {K : KK} {rest : List Oper} {pos : String} {af : Array Edge} {d : Nat}
theorem Ev.shlI {t t' : TypeId} {a b c : Int} {k' : IntKind} (hx : opnd s x = some (.int .i64 a)) (hy : opnd s y = some (.int k' b)) (hb : 0 ≤ b) (hc : IntKind.i64.wrap (a * 2 ^ (min b.toNat 64)) = c) : Ev P s (.binOp .shl t x y t') ty w (.int .i64 c) w := by
  subst hc
  exact Ev.shl (P := P) (w := w) (ty := ty) (t := t) (t' := t') hx hy hb
theorem Ev.andI {t t' : TypeId} {a b : Nat} (hx : opnd s x = some (.int .i64 (a : Int))) (hy : opnd s y = some (.int .i64 (b : Int))) (ha : a < 9223372036854775808) (hb : b < 9223372036854775808) : Ev P s (.binOp .and t x y t') ty w (.int .i64 ((a &&& b : Nat) : Int)) w := by
  have := Ev.and (P := P) (w := w) (ty := ty) (t := t) (t' := t') hx hy
  have ha' : a < 2 ^ IntKind.i64.bits := by show a < 2 ^ 64; omega
  have hb' : b < 2 ^ IntKind.i64.bits := by show b < 2 ^ 64; omega
  have e : bits2 .and .i64 (a : Int) (b : Int) = ((a &&& b : Nat) : Int) := by
    simp only [bits2, ofInt_nat, BitVec.toNat_and, BitVec.toNat_ofNat, Nat.mod_eq_of_lt ha', Nat.mod_eq_of_lt hb']
    have : a &&& b < 2 ^ 63 := Nat.and_lt_two_pow _ hb
    exact wrap_i64 (by omega)
  rwa [e] at this
/-- An element of an array that is a value. -/
theorem Ev.indexAr {t e m be : Nat} {l : List Value} {k : IntKind} {i : Nat} {v : Value} {de : TypeDesc} {ze : Value} {sz by_ : Nat} {z : Value} [hT : HasT P t (.array m e) sz by_ z] [hE : HasT P e de 1 be ze] (hx : opnd s x = some (.agg l.toArray)) (hy : opnd s y = some (.int k (i : Int))) (hi : i < m) (hd : aggD de = false) (hv : l[i]? = some v) : Ev P s (.index t x y) ty w v w := fun ρ d' pos af g hρ => by
  have e1 := hρ x _ hx
  have e2 := hρ y _ hy
  have e3 : (0 : Int) ≤ (i : Int) := by omega
  have e4 : (i : Int) < (m : Int) := by omega
  simp [execOp, e1, e2, Instr.index, asIntOf, hT.underlying, e3, e4, hE.sizeOf, part, hE.isAgg, hd, hv, hi]
/-- A field of a struct that is a value. -/
theorem Ev.field {t i ft be : Nat} {fs : Array Field} {f : Field} {l : List Value} {v ze z : Value} {sz by_ : Nat} {de : TypeDesc} [hT : HasT P t (.struct fs) sz by_ z] (hf : fs[i]? = some f) (hft : f.type = ft) [hE : HasT P ft de 1 be ze] (hd : aggD de = false) (hx : opnd s x = some (.agg l.toArray)) (hv : l[f.offset]? = some v) : Ev P s (.field t x i) ty w v w := fun ρ d' pos af g hρ => by
  have e1 := hρ x _ hx
  subst hft
  simp [execOp, e1, Instr.field, hT.underlying, hf, asAgg, part, hE.isAgg, hd, hv]
/-- An array made of its parts. -/
theorem Ev.buildA {t e m : Nat} {ee : TypeDesc} {es eb : Nat} {ze : Value} {sz by_ : Nat} {z : Value} {ps : List (Nat × Operand)} {vs : List (Nat × Value)} {cs : List Value} [hT : HasT P t (.array m e) sz by_ z] [hE : HasT P e ee es eb ze]
    (hx : opndP s ps = some vs) (hf : Instr.fill (fun i => some (i * es, es)) z.cells vs = some cs.toArray) : Ev P s (.build t ps.toArray) ty w (.agg cs.toArray) w := fun ρ d' pos af g hρ => by
  have h1 := opndP_map hρ ps vs hx
  simp [execOp, Instr.build, hT.zero, hT.underlying, hE.sizeOf, h1, hf]
/-! ### Blocks of numbers of 64 bits -/
def FB (w : World) (b : Nat) (E : TypeId) (l : List Nat) : Prop := w.heap[b]? = some (.cells (l.map f64v).toArray E (0, 0))
theorem FB.row {b : Nat} {E : TypeId} {l : List Nat} (h : FB w b E l) : RW w (some ⟨b, 0, none⟩) (l.map f64v) := RW.of_heap h
theorem FB.keep {b : Nat} {E : TypeId} {l : List Nat} {T : List Nat} {w' : World} (h : FB w b E l) (hc : Chg T w w') (hT : b ∉ T) : FB w' b E l := hc.heap h hT
theorem FB.keep0 {b : Nat} {E : TypeId} {l : List Nat} {w' : World} (h : FB w b E l) (hc : Chg [] w w') : FB w' b E l := hc.heap h (by simp)
theorem FB.lt {b : Nat} {E : TypeId} {l : List Nat} (h : FB w b E l) : b < w.heap.size := lt_of_heap h
theorem madeF {z : Value} (hz : z.cells = #[.float .f64 0]) (n : Nat) : madeCells z.cells (n * 1) = ((List.replicate n 0).map f64v).toArray := by
  rw [hz, Nat.mul_one]
  apply Array.ext'
  simp [madeCells, List.map_replicate, f64v, Nat.mod_one, List.map_const']
theorem WL.makeF (j i : Nat) {t : TypeId} {e be : Nat} {kl kc : IntKind} {l c : Int} {sz by_ : Nat} {z : Value} [hT : HasT P t (.slice e) sz by_ z] [hE : HasT P e (.float .f64) 1 be (.float .f64 0)] (hx : opnd s x = some (.int kl l)) (hy : opnd s y = some (.int kc c))
    (hl : l = (j : Int)) (hc : c = (i : Int)) (hlc : j ≤ i) (hb : be * i ≤ 281474976710656) (h63 : i ≤ 281474976710656) (hd : Nat.blt d n = true)
    (k : ∀ b w', FB w' b e (List.replicate i 0) → Chg [] w w' → w.heap.size ≤ b → WL P ops K rest n D ((d, .slice (some ⟨b, 0, none⟩) j i) :: s) w') : WL P ops K (⟨some d, .makeSlice t x y, ty, pos, af, none⟩ :: rest) n D s w := by
  subst hl; subst hc
  refine WL.make (hT := hT) (hE := hE) hx hy (by omega) (by omega) (by rw [show (be : Int) * (i : Int) = ((be * i : Nat) : Int) by simp]; omega) (by omega) hd fun b w' hn => ?_
  have h1 := hn.at_
  rw [show (i : Int).toNat = i by omega, madeF (by rfl)] at h1
  exact k b w' h1 hn.chg hn.ge
theorem WL.storeF {t : TypeId} {ds : TypeDesc} {by_ : Nat} {z : Value} {b i v : Nat} {l : List Nat} {E : TypeId} [hT : HasT P t ds 1 by_ z] (hx : opnd s x = some (.pointer (some ⟨b, i, none⟩))) (hy : opnd s y = some (.float .f64 v))
    (hb : FB w b E l) (hi : i < l.length) (k : ∀ w', FB w' b E (l.set i v) → Chg [b] w w' → WL P ops K rest n D s w') : WL P ops K (⟨none, .store t x y, ty, pos, af, none⟩ :: rest) n D s w :=
  WL.store (l := l.map f64v) (v := f64v v) hx hy rfl hb (by simpa using hi) fun w' hu => k w' (by have := hu.at_; rw [← List.map_set] at this; exact this) hu.chg
/-- append(own, one number), where there is room. -/
theorem WL.appendF {t e be : Nat} {ze : Value} {sz by_ : Nat} {z : Value} {b m cap c2 : Nat} {l : List Nat} {v : Nat} {ad : Addr} [hT : HasT P t (.slice e) sz by_ z] [hE : HasT P e (.float .f64) 1 be ze]
    (hx : opnd s x = some (.slice (some ⟨b, 0, none⟩) m cap)) (hy : opnd s y = some (.slice (some ad) 1 c2)) (hb : FB w b e l) (hc : w.cell? ad = some (.float .f64 v)) (hroom : m + 1 ≤ cap) (hfit : m < l.length) (hd : Nat.blt d n = true)
    (k : ∀ w', FB w' b e (l.set m v) → Chg [b] w w' → WL P ops K rest n D ((d, .slice (some ⟨b, 0, none⟩) (m + 1) cap) :: s) w') : WL P ops K (⟨some d, .call ⟨.builtin .append, [x, y].toArray, #[t, t]⟩, ty, pos, af, none⟩ :: rest) n D s w := by
  obtain ⟨i, hi, hi1, hi2, hi3⟩ := hE.inf
  have hu := upd_setCell w b m (l.map f64v) e (f64v v) hb
  have hrun := run_append_room_cells (P := P) w t ty e i hT.und hi b 0 m cap ad 1 c2 [f64v v] (by simp [hi1]) (fun j u hu => by
      cases j with
      | zero => simp at hu; subst hu; simpa [Addr.add, f64v] using hc
      | succ j => simp at hu) (by simp; rfl) hroom (fun j hj => by
      have : j = 0 := by simpa using hj
      subst this
      rw [hi1, cell_at hb]; simp; omega) (fun j hj => frozen_no hb)
  have hw : w.setCells b (0 + m * i.size) [f64v v] = w.setCell ⟨b, m, none⟩ (f64v v) := by
    rw [hi1]; simp [World.setCells]
  rw [hw] at hrun
  refine WL.ev (v := .slice (some ⟨b, 0, none⟩) (m + 1) cap) (w' := w.setCell ⟨b, m, none⟩ (f64v v)) (fun ρ d' pos af g hρ => ?_) hd (k _ ?_ hu.chg)
  · have e1 := hρ x _ hx
    have e2 := hρ y _ hy
    simp [execOp, resolve, invoke, builtin, e1, e2, hrun]
  · have := hu.at_; rw [← List.map_set] at this; exact this
/-! ### An operation that reads no memory, and for which the last one does not wait -/
section
variable {P : Program} {ops : Array Oper} {Q : Exit → Act → World → Prop} {S : World → Prop} {z : Nat}
theorem anyK_firstT {i : Nat} {oi : Oper} {v : Value} (hi : ops[i]? = some oi) (hsel : Region.noSelect ops = true) (hQ : ∀ c a w, Q (.panic c) (a.put oi.dst v) w → Q (.panic c) a w) (hzi : z ≠ i) :
    ∀ (fuel : Nat) (listed : Array Bool) (a : Act) (w : World), (∀ j oj, ops[j]? = some oj → j ≠ i → listed.getD j true = false → (∀ e ∈ oj.after, Region.binds .any e = true → e.on ≠ i) → oi.apart ops oj = true) →
      i ∈ Region.ready .any ops listed → YieldsIf P ops (fun _ => True) oi v a → (listed.getD z false = false → S w) → anyK P ops Q S z fuel (listed.setIfInBounds i true) (a.put oi.dst v) w → anyK P ops Q S z (fuel + 1) listed a w := by
  have hset : ∀ (listed : Array Bool), (listed.setIfInBounds i true).getD z false = listed.getD z false := fun listed => getD_set_ne false (Ne.symm hzi)
  intro fuel
  induction fuel with
  | zero =>
    intro listed a w _ hr hy hS H
    refine ⟨fun h => (by rw [h] at hr; cases hr), fun j hj => ?_⟩
    by_cases e : j = i
    · subst e; exact hy.wpOp hi trivial ⟨fun q => hS (by rw [← hset]; exact q), H⟩
    · have := ready_mono hj e
      rw [H.1] at this; cases this
  | succ fuel ih =>
    intro listed a w hfree hr hy hS H
    refine ⟨fun h => (by rw [h] at hr; cases hr), fun j hj => ?_⟩
    by_cases e : j = i
    · subst e; exact hy.wpOp hi trivial ⟨fun q => hS (by rw [← hset]; exact q), H⟩
    · have h1 := H.2 j (ready_mono hj e)
      obtain ⟨hjun, oj, hoj, hall⟩ := mem_ready.1 hj
      have hnot : ∀ e ∈ oj.after, Region.binds .any e = true → e.on ≠ i := fun e he hb heq => by
        have h1 := hall e he hb
        have h0 := (mem_ready.1 hr).1
        rw [heq] at h1
        rcases Nat.lt_or_ge i listed.size with q | q
        · simp [q] at h0 h1; rw [h0] at h1; cases h1
        · simp [Array.getElem?_eq_none q] at h1
      have h2 := wpOp_putIf hoj (hfree j oj hoj e hjun hnot) (fun cs b => Region.noSelect_spec hsel i oi cs b hi) (fun cs b => Region.noSelect_spec hsel j oj cs b hoj) hQ hy h1
      have hcm : ((listed.setIfInBounds i true).setIfInBounds j true).getD z false = (listed.setIfInBounds j true).getD z false := by
        rw [Array.setIfInBounds_comm _ _ (Ne.symm e)]; exact hset _
      refine wpOp_mono (fun a' w' h3 => ⟨fun q => h3.2.1 (by rw [hcm]; exact q), ih (listed.setIfInBounds j true) a' w' (fun k ok hk hki hun hno => hfree k ok hk hki ?_ hno) (ready_mono hr (Ne.symm e)) h3.1 (fun q => h3.2.1 (by rw [hcm]; exact q)) ?_⟩) h2
      · by_cases hjk : j = k
        · subst hjk; exact hjun
        · rw [getD_set_ne true hjk] at hun; exact hun
      · rw [Array.setIfInBounds_comm _ _ e]
        exact h3.2.2
end
theorem WK.takeT {S : World → Prop} {z fuel : Nat} {listed : Array Bool} {op : Op} {v : Value} (i : Nat) (hi : ops[i]? = some ⟨some d, op, ty, pos, af, none⟩) (hs : Region.noSelect ops = true) (hf : Region.free .any ops listed i = true) (hr : (Region.ready .any ops listed).contains i = true) (hzi : Nat.beq z i = false)
    (hS : listed.getD z false = false → S w) (he : ∀ w, Ev P s op ty w v w) (hd : Nat.blt d n = true) (k : WK P ops K S z fuel (listed.setIfInBounds i true) n D ((d, v) :: s) w) : WK P ops K S z (fuel + 1) listed n D s w := fun a ha =>
  anyK_firstT hi hs (fun c a w h => h.elim) (fun e => by rw [e] at hzi; simp at hzi) fuel listed a w (Region.free_spec hi hf) (by simpa using hr) (.inl ⟨by simp [Region.wanted], fun w' hw' => he w' a.eval (some d) pos af none fun x u hx => ha.eval hx⟩) hS (k _ (ha.put hd v))
/-! ### A row of words of 64 bits at the head of a block -/
def TB (w : World) (b : Nat) (T : TypeId) (L : List Nat) (R : List Value) : Prop := BK w b T (L.map u64v ++ R)
section
variable {b : Nat} {T : TypeId} {L : List Nat} {R : List Value}
theorem TB.keep {U : List Nat} {w' : World} (h : TB w b T L R) (hc : Chg U w w') (hT : b ∉ U) : TB w' b T L R := hc.heap h hT
theorem TB.keep0 {w' : World} (h : TB w b T L R) (hc : Chg [] w w') : TB w' b T L R := hc.heap h (by simp)
theorem TB.lt (h : TB w b T L R) : b < w.heap.size := lt_of_heap h
theorem TB.t64 {j : Nat} (h : TB w b T L R) (hj : j < L.length) : w.cell? ⟨b, j, none⟩ = some (.int .u64 ((L.getD j 0 : Nat) : Int)) :=
  BK.at_ h (by rw [List.getElem?_append_left (by simpa using hj)]; exact map_at u64v 0 hj)
theorem TB.tail_ {j : Nat} {v : Value} (h : TB w b T L R) (hv : R[j]? = some v) : w.cell? ⟨b, L.length + j, none⟩ = some v :=
  BK.at_ h (by rw [List.getElem?_append_right (by simp), List.length_map, Nat.add_sub_cancel_left]; exact hv)
theorem TB.set_ {L : List Nat} {R : List Value} {i v : Nat} (hi : i < L.length) : (L.map u64v ++ R).set i (u64v v) = (L.set i v).map u64v ++ R := by
  rw [List.set_append_left _ _ (by simpa using hi), List.map_set]
end
theorem Ev.ixT (j : Nat) {t : TypeId} {b m e be : Nat} {k : IntKind} {i : Int} {de : TypeDesc} {ze : Value} {sz by_ : Nat} {z : Value} [hT : HasT P t (.array m e) sz by_ z] [hE : HasT P e de 1 be ze] (hx : opnd s x = some (.pointer (some ⟨b, 0, none⟩))) (hy : opnd s y = some (.int k i)) (hij : i = (j : Int)) (hm : j < m) :
    Ev P s (.indexAddr t x y) ty w (.pointer (some ⟨b, j, none⟩)) w := by
  subst hij
  have := Ev.indexAddrArr (P := P) (s := s) (w := w) (ty := ty) (t := t) (hT := hT) (hE := hE) hx hy (by omega) (by omega)
  rwa [show 0 + ((j : Int)).toNat * 1 = j by omega] at this
theorem WK.storeT {S : World → Prop} {z fuel : Nat} {listed : Array Bool} {T : TypeId} {L : List Nat} {R : List Value} (i : Nat) {t : TypeId} {ds : TypeDesc} {by_ : Nat} {z0 : Value} {b o v : Nat} {x y : Operand} [hT : HasT P t ds 1 by_ z0] (hi : ops[i]? = some ⟨none, .store t x y, ty, pos, af, none⟩) (hr : Region.ready .any ops listed = [i]) (hlast : (listed.setIfInBounds i true).getD z false = true)
    (hx : opnd s x = some (.pointer (some ⟨b, o, none⟩))) (hy : opnd s y = some (.int .u64 (v : Int)))
    (hb : TB w b T L R) (ho : o < L.length) (k : ∀ w', TB w' b T (L.set o v) R → Chg [b] w w' → WK P ops K S z fuel (listed.setIfInBounds i true) n D s w') : WK P ops K S z (fuel + 1) listed n D s w :=
  WK.storeC i (l' := (L.set o v).map u64v ++ R) hi hr hlast hx hy rfl hb (by simp; omega) (TB.set_ ho) k
theorem CW.regionTC {A : AQ} {id : Nat} {l : List Oper} (m : Nat) (hm : P.follows .mixedOrders = true) (hB : Region.lexTailB .any l.toArray m = true)
    (h : ∀ R : KK, (∀ D s w, A .normal D s w → R D s w) → Chg [] w w.drew → WS P l.toArray (fun D s => WL P l.toArray R (l.drop m) n D s w.drew) (l.take m) n D s w.drew) : CW P (.region id l.toArray true) A n D s w :=
  CW.regionT m hm hB fun R hR => h R hR (Chg.drew _ _)
theorem WS.boolCase {K' : List Deferred → Sl → Prop} {b : Bool} (ht : b = true → WS P ops K' rest n D ((d, .bool true) :: s) w) (hf : b = false → WS P ops K' rest n D ((d, .bool false) :: s) w) : WS P ops K' rest n D ((d, .bool b) :: s) w := by
  cases b
  · exact hf rfl
  · exact ht rfl
end
end Sx

/- Short names for the plain steps of a walk. No condition. -/
namespace Sx
open Go
section
variable {P : Program} {A : AQ} {n : Nat} {D : List Deferred} {s : Sl} {w : World} {ops : Array Oper} {K : KK} {rest : List Oper} {ty t t' : TypeId} {pos : String} {af : Array Edge} {dst : Option Tmp} {d j i : Nat} {b : Bool} {v : Value} {x y c : Operand} {op : Op}
theorem zm (h : opnd s x = some v) (k : WL P ops K rest n D ((d, v) :: s) w) (hd : Nat.blt d n = true := by rfl) : WL P ops K (⟨some d, .move x, ty, pos, af, none⟩ :: rest) n D s w := WL.ev (Ev.move h) hd k
theorem za (h : opnd s x = some v) (k : WL P ops K rest n D ((d, v) :: s) w) (hd : Nat.blt d n = true := by rfl) : WL P ops K (⟨some d, .assign x, ty, pos, af, none⟩ :: rest) n D s w := WL.ev (Ev.assign h) hd k
theorem zx {l : List Value} (h : opnd s x = some (.tuple l.toArray)) (hv : l[i]? = some v) (k : WL P ops K rest n D ((d, v) :: s) w) (hd : Nat.blt d n = true := by rfl) : WL P ops K (⟨some d, .extract x i, ty, pos, af, none⟩ :: rest) n D s w := WL.ev (Ev.extract h hv) hd k
theorem zf {b o off : Nat} [hF : HasFld P t i off] (hx : opnd s x = some (.pointer (some ⟨b, o, none⟩))) (k : WL P ops K rest n D ((d, .pointer (some ⟨b, o + off, none⟩)) :: s) w) (hd : Nat.blt d n = true := by rfl) : WL P ops K (⟨some d, .fieldAddr t x i, ty, pos, af, none⟩ :: rest) n D s w := WL.ev (Ev.fieldAddr hx) hd k
theorem zl {ds : TypeDesc} {sz by_ b : Nat} {z : Value} {T : TypeId} {l : List Value} {o : Nat} [hT : HasT P t ds sz by_ z] (hb : BK w b T l) (hx : opnd s x = some (.pointer (some ⟨b, o, none⟩))) (hv : l[o]? = some v) (k : WL P ops K rest n D ((d, v) :: s) w) (hg : aggD ds = false := by rfl) (hd : Nat.blt d n = true := by rfl) : WL P ops K (⟨some d, .load t x, ty, pos, af, none⟩ :: rest) n D s w := WL.ev (Ev.load hg hx (hb.at_ hv)) hd k
theorem zg {ds : TypeDesc} {sz by_ b : Nat} {z : Value} {T : TypeId} {l : List Value} [hT : HasT P t ds sz by_ z] (hb : BK w b T l) (hx : opnd s x = some (.pointer (some ⟨b, 0, none⟩))) (k : WL P ops K rest n D ((d, .agg l.toArray) :: s) w) (hg : aggD ds = true := by rfl) (hl : l.length = sz := by rfl) (hd : Nat.blt d n = true := by rfl) : WL P ops K (⟨some d, .load t x, ty, pos, af, none⟩ :: rest) n D s w := WL.ev (Ev.loadA hg hx hb hl) hd k
theorem zt {p q : Operand} (hc : opnd s c = some (.bool true)) (ha : opnd s p = some v) (k : WL P ops K rest n D ((d, v) :: s) w) (hd : Nat.blt d n = true := by rfl) : WL P ops K (⟨some d, .pick c p q, ty, pos, af, none⟩ :: rest) n D s w := WL.ev (Ev.pickT hc rfl ha) hd k
theorem ze {p q : Operand} (hc : opnd s c = some (.bool false)) (ha : opnd s q = some v) (k : WL P ops K rest n D ((d, v) :: s) w) (hd : Nat.blt d n = true := by rfl) : WL P ops K (⟨some d, .pick c p q, ty, pos, af, none⟩ :: rest) n D s w := WL.ev (Ev.pickF hc rfl ha) hd k
theorem zn {a : Option Addr} {m c e : Nat} {sz by_ : Nat} {z : Value} [hT : HasT P t (.slice e) sz by_ z] (hx : opnd s x = some (.slice a m c)) (k : WL P ops K rest n D ((d, .int .i64 (m : Int)) :: s) w) (hd : Nat.blt d n = true := by rfl) : WL P ops K (⟨some d, .call ⟨.builtin .len, [x].toArray, #[t]⟩, ty, pos, af, none⟩ :: rest) n D s w := WL.ev (Ev.len hx) hd k
theorem zq {q : IntKind} {a b : Int} (hx : opnd s x = some (.int q a)) (hy : opnd s y = some (.int q b)) (k : WL P ops K rest n D ((d, .bool (decide (a = b))) :: s) w) (hd : Nat.blt d n = true := by rfl) : WL P ops K (⟨some d, .binOp .eql t x y t', ty, pos, af, none⟩ :: rest) n D s w := WL.ev (Ev.eql hx hy) hd k
/-- The slot that a guard reads. -/
def gdOf (ops : Array Oper) (j : Nat) (s : Sl) : Option Value :=
  match ops[j]? with
  | some g => match g.dst with
    | some t => look s t
    | none => none
  | none => none
theorem gdOf_some (h : gdOf ops j s = some v) : ∃ g t, ops[j]? = some g ∧ g.dst = some t ∧ look s t = some v := by
  unfold gdOf at h
  split at h
  · rename_i g hg
    split at h
    · rename_i t ht; exact ⟨g, t, hg, ht, h⟩
    · cases h
  · cases h
theorem zw {q : Bool} (h : gdOf ops j s = some (.bool q)) (k : WL P ops K (⟨dst, op, ty, pos, af, none⟩ :: rest) n D s w) (hb : (q == b) = true := by rfl) : WL P ops K (⟨dst, op, ty, pos, af, some (j, b)⟩ :: rest) n D s w := by
  obtain ⟨g, t, h1, h2, h3⟩ := gdOf_some h
  exact WL.want h1 h2 h3 hb k
theorem zv {q : Bool} (h : gdOf ops j s = some (.bool q)) (k : WL P ops K rest n D ((d, undef) :: s) w) (hb : (q == b) = false := by rfl) (hd : Nat.blt d n = true := by rfl) : WL P ops K (⟨some d, op, ty, pos, af, some (j, b)⟩ :: rest) n D s w := by
  obtain ⟨g, t, h1, h2, h3⟩ := gdOf_some h
  exact WL.pass h1 h2 h3 hb hd k
theorem zu (h : gdOf ops j s = some undef) (k : WL P ops K rest n D ((d, undef) :: s) w) (hd : Nat.blt d n = true := by rfl) : WL P ops K (⟨some d, op, ty, pos, af, some (j, b)⟩ :: rest) n D s w := by
  obtain ⟨g, t, h1, h2, h3⟩ := gdOf_some h
  exact WL.passU h1 h2 h3 hd k
theorem zz (h : K D s w) : WL P ops K [] n D s w := WL.nil h
theorem Sr {id : Nat} {l : List Oper} {y : Code} (h : ∀ R : KK, (∀ {D s w}, CW P y A n D s w → R D s w) → WL P l.toArray R l n D s w) : CW P (.seq (.region id l.toArray false) y) A n D s w :=
  CW.seq fun K kh => CW.region fun R kr => h R fun hc => kr _ _ _ (kh _ _ _ hc)
theorem zc {x y : Code} (h : ∀ K : KK, (∀ {D s w}, CW P y A n D s w → K D s w) → CW P x (thenK K A) n D s w) : CW P (.seq x y) A n D s w := CW.seq fun K kh => h K fun hc => kh _ _ _ hc
theorem BK.kq {b : Nat} {T : TypeId} {l : List Value} {U : List Nat} {w' : World} (h : BK w b T l) (hc : Chg U w w') (hT : b ∉ U := by simp; omega) : BK w' b T l := h.keep hc hT
theorem OB.kq {b : Nat} {E : TypeId} {l : List Nat} {U : List Nat} {w' : World} (h : OB w b E l) (hc : Chg U w w') (hT : b ∉ U := by simp; omega) : OB w' b E l := h.keep hc hT
theorem FB.kq {b : Nat} {E : TypeId} {l : List Nat} {U : List Nat} {w' : World} (h : FB w b E l) (hc : Chg U w w') (hT : b ∉ U := by simp; omega) : FB w' b E l := h.keep hc hT
theorem TB.kq {b : Nat} {T : TypeId} {L : List Nat} {R : List Value} {U : List Nat} {w' : World} (h : TB w b T L R) (hc : Chg U w w') (hT : b ∉ U := by simp; omega) : TB w' b T L R := h.keep hc hT
theorem Chg.ta {T : List Nat} {w' w'' : World} (h : Chg T w w') (hc : Chg [] w' w'') : Chg T w w'' := h.trans (Chg.any hc)
theorem zdd {a b q : Nat} (h1 : a < q) (h2 : q ≤ b) : a ≠ b := by omega
theorem zi {a b : Int} (hx : opnd s x = some (.int .i64 a)) (hy : opnd s y = some (.int .i64 b)) (k : WL P ops K rest n D ((d, .int .i64 (a + b)) :: s) w) (h : -9223372036854775808 ≤ a + b ∧ a + b ≤ 9223372036854775807 := by omega) (hd : Nat.blt d n = true := by rfl) : WL P ops K (⟨some d, .binOp .add t x y t', ty, pos, af, none⟩ :: rest) n D s w := WL.ev (Ev.addIn hx hy h) hd k
theorem zo {q : IntKind} {a b : Int} (hx : opnd s x = some (.int q a)) (hy : opnd s y = some (.int q b)) (k : WL P ops K rest n D ((d, .int q (q.wrap (a + b))) :: s) w) (hd : Nat.blt d n = true := by rfl) : WL P ops K (⟨some d, .binOp .add t x y t', ty, pos, af, none⟩ :: rest) n D s w := WL.ev (Ev.add hx hy) hd k
theorem zy {x y : Code} {b : Bool} (hc : opnd s c = some (.bool b)) (ht : b = true → CW P x A n D s w) (hf : b = false → CW P y A n D s w) : CW P (.cond c x y) A n D s w := CW.cond hc ht hf
theorem zr (h : A .ret D s w) : CW P .ret A n D s w := CW.ret h
theorem zr1 {fn : Func} {R : Value → World → Prop} {t : Nat} {v : Value} (hr : fn.results = #[.tmp t]) (ht : look s t = some v) (h : R v w) : bodyA P fn n R .ret [] s w := bodyA.ret1 hr ht h
theorem zr2 {fn : Func} {R : Value → World → Prop} {t u : Nat} {v x : Value} (hr : fn.results = #[.tmp t, .tmp u]) (ht : look s t = some v) (hu : look s u = some x) (h : R (.tuple #[v, x]) w) : bodyA P fn n R .ret [] s w := bodyA.ret2 hr ht hu h
theorem BK.k0 {b : Nat} {T : TypeId} {l : List Value} {w' : World} (h : BK w b T l) (hc : Chg [] w w') : BK w' b T l := h.keep0 hc
theorem OB.k0 {b : Nat} {E : TypeId} {l : List Nat} {w' : World} (h : OB w b E l) (hc : Chg [] w w') : OB w' b E l := h.keep0 hc
theorem FB.k0 {b : Nat} {E : TypeId} {l : List Nat} {w' : World} (h : FB w b E l) (hc : Chg [] w w') : FB w' b E l := h.keep0 hc
theorem TB.k0 {b : Nat} {T : TypeId} {L : List Nat} {R : List Value} {w' : World} (h : TB w b T L R) (hc : Chg [] w w') : TB w' b T L R := h.keep0 hc
theorem zss {ds : TypeDesc} {sz by_ : Nat} {z : Value} {b i : Nat} {l l' vs : List Value} {T : TypeId} [hT : HasT P t ds sz by_ z] (hx : opnd s x = some (.pointer (some ⟨b, i, none⟩))) (hy : opnd s y = some (.agg vs.toArray)) (h1 : ∀ v ∈ vs, v.oneCell' = true) (hb : BK w b T l) (he : splice l i vs = l') (k : ∀ w', BK w' b T l' → Chg [b] w w' → WL P ops K rest n D s w') (hs : vs.length = sz := by rfl) (hi : i + vs.length ≤ l.length := by simp) : WL P ops K (⟨none, .store t x y, ty, pos, af, none⟩ :: rest) n D s w := WL.storeB hx hy hs h1 hb hi he k
theorem zkk (h : A .normal D s w) : CW P .skip A n D s w := CW.skip h
theorem zb {b : Bool} (ht : b = true → WL P ops K rest n D ((d, .bool true) :: s) w) (hf : b = false → WL P ops K rest n D ((d, .bool false) :: s) w) : WL P ops K rest n D ((d, .bool b) :: s) w := WL.boolCase ht hf
theorem zR {id : Nat} {l : List Oper} (h : ∀ R : KK, (∀ D s w, A .normal D s w → R D s w) → WL P l.toArray R l n D s w) : CW P (.region id l.toArray false) A n D s w := CW.region h
variable {S : World → Prop} {z : Nat} {fuel : Nat} {listed : Array Bool} {R : KK}
theorem wk (i : Nat) (hi : ops[i]? = some ⟨some d, op, ty, pos, af, none⟩) (hS : S w) (he : ∀ w, S w → Ev P s op ty w v w) (k : WK P ops R S z fuel (listed.setIfInBounds i true) n D ((d, v) :: s) w) (hs : Region.noSelect ops = true := by kernel_rfl) (hf : Region.free .any ops listed i = true := by kernel_rfl) (hr : (Region.ready .any ops listed).contains i = true := by kernel_rfl) (hw : Region.waitsFor .any ops z i = true := by kernel_rfl) (hzi : Nat.beq z i = false := by kernel_rfl) (hlz : listed.getD z false = false := by kernel_rfl) (hd : Nat.blt d n = true := by rfl) : WK P ops R S z (fuel + 1) listed n D s w :=
  WK.take i hi hs hf hr hw hzi hlz hS he hd k
theorem wh (i : Nat) (hi : ops[i]? = some ⟨some d, op, ty, pos, af, none⟩) (hS : S w) (he : ∀ w, S w → Ev P s op ty w v w) (k : WH P ops R S fuel (listed.setIfInBounds i true) n D ((d, v) :: s) w) (hs : Region.noSelect ops = true := by kernel_rfl) (hf : Region.free .any ops listed i = true := by kernel_rfl) (hr : (Region.ready .any ops listed).contains i = true := by kernel_rfl) (hd : Nat.blt d n = true := by rfl) : WH P ops R S (fuel + 1) listed n D s w :=
  WH.take i hi hs hf hr hS he hd k
variable {K' : List Deferred → Sl → Prop}
theorem ym (h : opnd s x = some v) (k : WS P ops K' rest n D ((d, v) :: s) w) (hd : Nat.blt d n = true := by rfl) : WS P ops K' (⟨some d, .move x, ty, pos, af, none⟩ :: rest) n D s w := WS.ev (Ev.move h) hd k
theorem ya (h : opnd s x = some v) (k : WS P ops K' rest n D ((d, v) :: s) w) (hd : Nat.blt d n = true := by rfl) : WS P ops K' (⟨some d, .assign x, ty, pos, af, none⟩ :: rest) n D s w := WS.ev (Ev.assign h) hd k
theorem yt {p q : Operand} (hc : opnd s c = some (.bool true)) (ha : opnd s p = some v) (k : WS P ops K' rest n D ((d, v) :: s) w) (hd : Nat.blt d n = true := by rfl) : WS P ops K' (⟨some d, .pick c p q, ty, pos, af, none⟩ :: rest) n D s w := WS.ev (Ev.pickT hc rfl ha) hd k
theorem ye {p q : Operand} (hc : opnd s c = some (.bool false)) (ha : opnd s q = some v) (k : WS P ops K' rest n D ((d, v) :: s) w) (hd : Nat.blt d n = true := by rfl) : WS P ops K' (⟨some d, .pick c p q, ty, pos, af, none⟩ :: rest) n D s w := WS.ev (Ev.pickF hc rfl ha) hd k
theorem yw {q : Bool} (h : gdOf ops j s = some (.bool q)) (k : WS P ops K' (⟨dst, op, ty, pos, af, none⟩ :: rest) n D s w) (hb : (q == b) = true := by rfl) : WS P ops K' (⟨dst, op, ty, pos, af, some (j, b)⟩ :: rest) n D s w := by
  obtain ⟨g, t, h1, h2, h3⟩ := gdOf_some h
  exact WS.want h1 h2 h3 hb k
theorem yv {q : Bool} (h : gdOf ops j s = some (.bool q)) (k : WS P ops K' rest n D ((d, undef) :: s) w) (hb : (q == b) = false := by rfl) (hd : Nat.blt d n = true := by rfl) : WS P ops K' (⟨some d, op, ty, pos, af, some (j, b)⟩ :: rest) n D s w := by
  obtain ⟨g, t, h1, h2, h3⟩ := gdOf_some h
  exact WS.pass h1 h2 h3 hb hd k
end
section
variable {P : Program} {n : Nat} {D : List Deferred} {s : Sl} {w w0 : World} {ops : Array Oper} {K : KK} {rest : List Oper} {ty : TypeId} {pos : String} {af : Array Edge} {d : Nat} {x : Operand} {fn : Func} {R : Value → World → Prop} {f : FuncId} {c : Code} {T : List Nat}
theorem zE0 (hf : P.funcs[f]? = some fn) (hb : fn.body = some c) (h : CW P c (bodyA P fn fn.ntmps R) fn.ntmps [] [] w) (hn : Nat.ble 0 fn.ntmps = true := by rfl) : Ret P f [] w R := Ret.enter hf hb hn h
theorem zE1 {a : Value} (hf : P.funcs[f]? = some fn) (hb : fn.body = some c) (h : CW P c (bodyA P fn fn.ntmps R) fn.ntmps [] [(0, a)] w) (hn : Nat.ble 1 fn.ntmps = true := by rfl) : Ret P f [a] w R := Ret.enter hf hb hn h
theorem zE2 {a b : Value} (hf : P.funcs[f]? = some fn) (hb : fn.body = some c) (h : CW P c (bodyA P fn fn.ntmps R) fn.ntmps [] [(0, a), (1, b)] w) (hn : Nat.ble 2 fn.ntmps = true := by rfl) : Ret P f [a, b] w R := Ret.enter hf hb hn h
theorem zE3 {a b e : Value} (hf : P.funcs[f]? = some fn) (hb : fn.body = some c) (h : CW P c (bodyA P fn fn.ntmps R) fn.ntmps [] [(0, a), (1, b), (2, e)] w) (hn : Nat.ble 3 fn.ntmps = true := by rfl) : Ret P f [a, b, e] w R := Ret.enter hf hb hn h
theorem zE4 {a b e g : Value} (hf : P.funcs[f]? = some fn) (hb : fn.body = some c) (h : CW P c (bodyA P fn fn.ntmps R) fn.ntmps [] [(0, a), (1, b), (2, e), (3, g)] w) (hn : Nat.ble 4 fn.ntmps = true := by rfl) : Ret P f [a, b, e, g] w R := Ret.enter hf hb hn h
theorem zE5 {a b e g p : Value} (hf : P.funcs[f]? = some fn) (hb : fn.body = some c) (h : CW P c (bodyA P fn fn.ntmps R) fn.ntmps [] [(0, a), (1, b), (2, e), (3, g), (4, p)] w) (hn : Nat.ble 5 fn.ntmps = true := by rfl) : Ret P f [a, b, e, g, p] w R := Ret.enter hf hb hn h
theorem zAh {t : TypeId} {ds : TypeDesc} {sz by_ : Nat} {z : Value} [hT : HasT P t ds sz by_ z] (hl : z.cells = [Value.bool false, .slice none 0 0, .int .i64 0].toArray) (hd : Nat.blt d n = true) (h : Chg T w0 w)
    (k : ∀ b w', BK w' b t [.bool false, .slice none 0 0, .int .i64 0] → Chg [] w w' → w.heap.size ≤ b → w0.heap.size ≤ b → Chg T w0 w' → WL P ops K rest n D ((d, .pointer (some ⟨b, 0, none⟩)) :: s) w') : WL P ops K (⟨some d, .alloc t, ty, pos, af, none⟩ :: rest) n D s w :=
  WL.allocB hl hd fun b w' h1 h2 h3 => k b w' h1 h2 h3 (Nat.le_trans h.size h3) (h.ta h2)
theorem zBh {t : TypeId} {v : Value} {l : List Value} (hx : opnd s x = some v) (hl : v.cells = l.toArray) (hd : Nat.blt d n = true) (h : Chg T w0 w)
    (k : ∀ b w', BK w' b t l → Chg [] w w' → w.heap.size ≤ b → w0.heap.size ≤ b → Chg T w0 w' → WL P ops K rest n D ((d, .pointer (some ⟨b, 0, none⟩)) :: s) w') : WL P ops K (⟨some d, .box t x, ty, pos, af, none⟩ :: rest) n D s w :=
  WL.boxB hx hl hd fun b w' h1 h2 h3 => k b w' h1 h2 h3 (Nat.le_trans h.size h3) (h.ta h2)
end
end Sx

/- The closed facts on this seat: types, functions. No condition. -/
section
open Go Sx
set_option maxRecDepth 100000
instance ti2 : HasT Tryz.prog 2 (.int .i64) 1 8 (.int .i64 0) := ⟨Tryz.underlying2, by kernel_rfl⟩
instance ti3 : HasT Tryz.prog 3 (.int .i64) 1 8 (.int .i64 0) := ⟨Tryz.underlying3, by kernel_rfl⟩
instance ti4 : HasT Tryz.prog 4 (.bool) 1 1 (.bool false) := ⟨Tryz.underlying4, by kernel_rfl⟩
instance ti5 : HasT Tryz.prog 5 (.int .u8) 1 1 (.int .u8 0) := ⟨Tryz.underlying5, by kernel_rfl⟩
instance ti9 : HasT Tryz.prog 9 (.string) 1 16 (.string ⟨#[]⟩) := ⟨Tryz.underlying9, by kernel_rfl⟩
instance ti31 : HasT Tryz.prog 31 (.float .f64) 1 8 (.float .f64 0) := ⟨Tryz.underlying31, by kernel_rfl⟩
instance ti32 : HasT Tryz.prog 32 (.slice 31) 1 24 (.slice none 0 0) := ⟨Tryz.underlying32, by kernel_rfl⟩
instance ti34 : HasT Tryz.prog 34 (.struct #[⟨"NaN", 3, 0, false, "", "", 0⟩, ⟨"Inf", 3, 1, false, "", "", 8⟩]) 2 16 (.agg #[.int .i64 0, .int .i64 0]) := ⟨Tryz.underlying34, by kernel_rfl⟩
instance ti47 : HasT Tryz.prog 47 (.int .i64) 1 8 (.int .i64 0) := ⟨Tryz.underlying47, by kernel_rfl⟩
instance ti103 : HasT Tryz.prog 103 (.struct #[⟨"NaN", 3, 0, false, "", "", 0⟩, ⟨"Up", 3, 1, false, "", "", 8⟩, ⟨"Down", 3, 2, false, "", "", 16⟩, ⟨"Minus", 3, 3, false, "", "", 24⟩, ⟨"Plus", 3, 4, false, "", "", 32⟩, ⟨"All", 3, 5, false, "", "", 40⟩]) 6 48 (.agg #[.int .i64 0, .int .i64 0, .int .i64 0, .int .i64 0, .int .i64 0, .int .i64 0]) := ⟨Tryz.underlying103, by kernel_rfl⟩
instance ti105 : HasT Tryz.prog 105 (.slice 209) 1 24 (.slice none 0 0) := ⟨Tryz.underlying105, by kernel_rfl⟩
instance ti107 : HasT Tryz.prog 107 (.struct #[⟨"Neg", 4, 0, false, "", "", 0⟩, ⟨"Mag", 105, 1, false, "", "", 8⟩, ⟨"Exp", 3, 2, false, "", "", 32⟩]) 3 40 (.agg #[.bool false, .slice none 0 0, .int .i64 0]) := ⟨Tryz.underlying107, by kernel_rfl⟩
instance ti112 : HasT Tryz.prog 112 (.int .u64) 1 8 (.int .u64 0) := ⟨Tryz.underlying112, by kernel_rfl⟩
instance ti146 : HasT Tryz.prog 146 (.pointer 3) 1 8 (.pointer none) := ⟨Tryz.underlying146, by kernel_rfl⟩
instance ti174 : HasT Tryz.prog 174 (.pointer 180) 1 8 (.pointer none) := ⟨Tryz.underlying174, by kernel_rfl⟩
instance ti178 : HasT Tryz.prog 178 (.slice 3) 1 24 (.slice none 0 0) := ⟨Tryz.underlying178, by kernel_rfl⟩
instance ti180 : HasT Tryz.prog 180 (.struct #[⟨"l", 32, 0, false, "", "steelyard/rank", 0⟩, ⟨"at", 178, 1, false, "", "steelyard/rank", 24⟩]) 2 48 (.agg #[.slice none 0 0, .slice none 0 0]) := ⟨Tryz.underlying180, by kernel_rfl⟩
instance ti208 : HasT Tryz.prog 208 (.struct #[⟨"Num", 107, 0, false, "", "", 0⟩, ⟨"Den", 107, 3, false, "", "", 40⟩]) 6 80 (.agg #[.bool false, .slice none 0 0, .int .i64 0, .bool false, .slice none 0 0, .int .i64 0]) := ⟨Tryz.underlying208, by kernel_rfl⟩
instance ti209 : HasT Tryz.prog 209 (.int .u32) 1 4 (.int .u32 0) := ⟨Tryz.underlying209, by kernel_rfl⟩
instance ti245 : HasT Tryz.prog 245 (.struct #[⟨"digits", 3, 0, false, "", "steelyard/dyad", 0⟩, ⟨"least", 3, 1, false, "", "steelyard/dyad", 8⟩, ⟨"endless", 112, 2, false, "", "steelyard/dyad", 16⟩]) 3 24 (.agg #[.int .i64 0, .int .i64 0, .int .u64 0]) := ⟨Tryz.underlying245, by kernel_rfl⟩
instance ti249 : HasT Tryz.prog 249 (.array 67 112) 67 536 (.agg #[.int .u64 0, .int .u64 0, .int .u64 0, .int .u64 0, .int .u64 0, .int .u64 0, .int .u64 0, .int .u64 0, .int .u64 0, .int .u64 0, .int .u64 0, .int .u64 0, .int .u64 0, .int .u64 0, .int .u64 0, .int .u64 0, .int .u64 0, .int .u64 0, .int .u64 0, .int .u64 0, .int .u64 0, .int .u64 0, .int .u64 0, .int .u64 0, .int .u64 0, .int .u64 0, .int .u64 0, .int .u64 0, .int .u64 0, .int .u64 0, .int .u64 0, .int .u64 0, .int .u64 0, .int .u64 0, .int .u64 0, .int .u64 0, .int .u64 0, .int .u64 0, .int .u64 0, .int .u64 0, .int .u64 0, .int .u64 0, .int .u64 0, .int .u64 0, .int .u64 0, .int .u64 0, .int .u64 0, .int .u64 0, .int .u64 0, .int .u64 0, .int .u64 0, .int .u64 0, .int .u64 0, .int .u64 0, .int .u64 0, .int .u64 0, .int .u64 0, .int .u64 0, .int .u64 0, .int .u64 0, .int .u64 0, .int .u64 0, .int .u64 0, .int .u64 0, .int .u64 0, .int .u64 0, .int .u64 0]) := ⟨Tryz.underlying249, by kernel_rfl⟩
instance ti251 : HasT Tryz.prog 251 (.struct #[⟨"sum", 249, 0, false, "", "steelyard/super", 0⟩, ⟨"s", 103, 67, false, "", "steelyard/super", 536⟩]) 73 584 (.agg #[.int .u64 0, .int .u64 0, .int .u64 0, .int .u64 0, .int .u64 0, .int .u64 0, .int .u64 0, .int .u64 0, .int .u64 0, .int .u64 0, .int .u64 0, .int .u64 0, .int .u64 0, .int .u64 0, .int .u64 0, .int .u64 0, .int .u64 0, .int .u64 0, .int .u64 0, .int .u64 0, .int .u64 0, .int .u64 0, .int .u64 0, .int .u64 0, .int .u64 0, .int .u64 0, .int .u64 0, .int .u64 0, .int .u64 0, .int .u64 0, .int .u64 0, .int .u64 0, .int .u64 0, .int .u64 0, .int .u64 0, .int .u64 0, .int .u64 0, .int .u64 0, .int .u64 0, .int .u64 0, .int .u64 0, .int .u64 0, .int .u64 0, .int .u64 0, .int .u64 0, .int .u64 0, .int .u64 0, .int .u64 0, .int .u64 0, .int .u64 0, .int .u64 0, .int .u64 0, .int .u64 0, .int .u64 0, .int .u64 0, .int .u64 0, .int .u64 0, .int .u64 0, .int .u64 0, .int .u64 0, .int .u64 0, .int .u64 0, .int .u64 0, .int .u64 0, .int .u64 0, .int .u64 0, .int .u64 0, .int .i64 0, .int .i64 0, .int .i64 0, .int .i64 0, .int .i64 0, .int .i64 0]) := ⟨Tryz.underlying251, by kernel_rfl⟩
instance ti253 : HasT Tryz.prog 253 (.array 3 112) 3 24 (.agg #[.int .u64 0, .int .u64 0, .int .u64 0]) := ⟨Tryz.underlying253, by kernel_rfl⟩
instance ti255 : HasT Tryz.prog 255 (.struct #[⟨"neg", 4, 0, false, "", "steelyard/super", 0⟩, ⟨"at", 3, 1, false, "", "steelyard/super", 8⟩, ⟨"w", 253, 2, false, "", "steelyard/super", 16⟩]) 5 40 (.agg #[.bool false, .int .i64 0, .int .u64 0, .int .u64 0, .int .u64 0]) := ⟨Tryz.underlying255, by kernel_rfl⟩
instance ti257 : HasT Tryz.prog 257 (.struct #[⟨"class", 3, 0, false, "", "steelyard/super", 0⟩, ⟨"neg", 4, 1, false, "", "steelyard/super", 8⟩, ⟨"v", 255, 2, false, "", "steelyard/super", 16⟩]) 7 56 (.agg #[.int .i64 0, .bool false, .bool false, .int .i64 0, .int .u64 0, .int .u64 0, .int .u64 0]) := ⟨Tryz.underlying257, by kernel_rfl⟩
instance ti265 : HasT Tryz.prog 265 (.int .u64) 1 8 (.int .u64 0) := ⟨Tryz.underlying265, by kernel_rfl⟩
instance ti276 : HasT Tryz.prog 276 (.struct #[⟨"Neg", 4, 0, false, "", "", 0⟩, ⟨"Class", 3, 1, false, "", "", 8⟩, ⟨"Exp", 3, 2, false, "", "", 16⟩, ⟨"Frac", 112, 3, false, "", "", 24⟩]) 4 32 (.agg #[.bool false, .int .i64 0, .int .i64 0, .int .u64 0]) := ⟨Tryz.underlying276, by kernel_rfl⟩
instance ti323 : HasT Tryz.prog 323 (.array 5 3) 5 40 (.agg #[.int .i64 0, .int .i64 0, .int .i64 0, .int .i64 0, .int .i64 0]) := ⟨Tryz.underlying323, by kernel_rfl⟩
instance ti337 : HasT Tryz.prog 337 (.slice 208) 1 24 (.slice none 0 0) := ⟨Tryz.underlying337, by kernel_rfl⟩
instance ti344 : HasT Tryz.prog 344 (.struct #[⟨"wide", 3, 0, false, "", "steelyard/bits", 0⟩, ⟨"low", 3, 1, false, "", "steelyard/bits", 8⟩, ⟨"least", 3, 2, false, "", "steelyard/bits", 16⟩]) 3 24 (.agg #[.int .i64 0, .int .i64 0, .int .i64 0]) := ⟨Tryz.underlying344, by kernel_rfl⟩
instance ti394 : HasT Tryz.prog 394 (.array 32 5) 32 32 (.agg #[.int .u8 0, .int .u8 0, .int .u8 0, .int .u8 0, .int .u8 0, .int .u8 0, .int .u8 0, .int .u8 0, .int .u8 0, .int .u8 0, .int .u8 0, .int .u8 0, .int .u8 0, .int .u8 0, .int .u8 0, .int .u8 0, .int .u8 0, .int .u8 0, .int .u8 0, .int .u8 0, .int .u8 0, .int .u8 0, .int .u8 0, .int .u8 0, .int .u8 0, .int .u8 0, .int .u8 0, .int .u8 0, .int .u8 0, .int .u8 0, .int .u8 0, .int .u8 0]) := ⟨Tryz.underlying394, by kernel_rfl⟩
instance ti395 : HasT Tryz.prog 395 (.slice 112) 1 24 (.slice none 0 0) := ⟨Tryz.underlying395, by kernel_rfl⟩
instance tf34_0 : HasFld Tryz.prog 34 0 0 := ⟨fun a w => by kernel_rfl⟩
instance tf34_1 : HasFld Tryz.prog 34 1 1 := ⟨fun a w => by kernel_rfl⟩
instance tb34 : HasB Tryz.prog 34 #[(0, 1), (1, 1)] := ⟨fun w fs h => by rw [und_inj Tryz.underlying34 h]; kernel_rfl⟩
instance tf103_0 : HasFld Tryz.prog 103 0 0 := ⟨fun a w => by kernel_rfl⟩
instance tf103_1 : HasFld Tryz.prog 103 1 1 := ⟨fun a w => by kernel_rfl⟩
instance tf103_2 : HasFld Tryz.prog 103 2 2 := ⟨fun a w => by kernel_rfl⟩
instance tf103_3 : HasFld Tryz.prog 103 3 3 := ⟨fun a w => by kernel_rfl⟩
instance tf103_4 : HasFld Tryz.prog 103 4 4 := ⟨fun a w => by kernel_rfl⟩
instance tf103_5 : HasFld Tryz.prog 103 5 5 := ⟨fun a w => by kernel_rfl⟩
instance tb103 : HasB Tryz.prog 103 #[(0, 1), (1, 1), (2, 1), (3, 1), (4, 1), (5, 1)] := ⟨fun w fs h => by rw [und_inj Tryz.underlying103 h]; kernel_rfl⟩
instance tf107_0 : HasFld Tryz.prog 107 0 0 := ⟨fun a w => by kernel_rfl⟩
instance tf107_1 : HasFld Tryz.prog 107 1 1 := ⟨fun a w => by kernel_rfl⟩
instance tf107_2 : HasFld Tryz.prog 107 2 2 := ⟨fun a w => by kernel_rfl⟩
instance tb107 : HasB Tryz.prog 107 #[(0, 1), (1, 1), (2, 1)] := ⟨fun w fs h => by rw [und_inj Tryz.underlying107 h]; kernel_rfl⟩
instance tf180_0 : HasFld Tryz.prog 180 0 0 := ⟨fun a w => by kernel_rfl⟩
instance tf180_1 : HasFld Tryz.prog 180 1 1 := ⟨fun a w => by kernel_rfl⟩
instance tb180 : HasB Tryz.prog 180 #[(0, 1), (1, 1)] := ⟨fun w fs h => by rw [und_inj Tryz.underlying180 h]; kernel_rfl⟩
instance tf208_0 : HasFld Tryz.prog 208 0 0 := ⟨fun a w => by kernel_rfl⟩
instance tf208_1 : HasFld Tryz.prog 208 1 3 := ⟨fun a w => by kernel_rfl⟩
instance tb208 : HasB Tryz.prog 208 #[(0, 3), (3, 3)] := ⟨fun w fs h => by rw [und_inj Tryz.underlying208 h]; kernel_rfl⟩
instance tf245_0 : HasFld Tryz.prog 245 0 0 := ⟨fun a w => by kernel_rfl⟩
instance tf245_1 : HasFld Tryz.prog 245 1 1 := ⟨fun a w => by kernel_rfl⟩
instance tf245_2 : HasFld Tryz.prog 245 2 2 := ⟨fun a w => by kernel_rfl⟩
instance tb245 : HasB Tryz.prog 245 #[(0, 1), (1, 1), (2, 1)] := ⟨fun w fs h => by rw [und_inj Tryz.underlying245 h]; kernel_rfl⟩
instance tf251_0 : HasFld Tryz.prog 251 0 0 := ⟨fun a w => by kernel_rfl⟩
instance tf251_1 : HasFld Tryz.prog 251 1 67 := ⟨fun a w => by kernel_rfl⟩
instance tb251 : HasB Tryz.prog 251 #[(0, 67), (67, 6)] := ⟨fun w fs h => by rw [und_inj Tryz.underlying251 h]; kernel_rfl⟩
instance tf255_0 : HasFld Tryz.prog 255 0 0 := ⟨fun a w => by kernel_rfl⟩
instance tf255_1 : HasFld Tryz.prog 255 1 1 := ⟨fun a w => by kernel_rfl⟩
instance tf255_2 : HasFld Tryz.prog 255 2 2 := ⟨fun a w => by kernel_rfl⟩
instance tb255 : HasB Tryz.prog 255 #[(0, 1), (1, 1), (2, 3)] := ⟨fun w fs h => by rw [und_inj Tryz.underlying255 h]; kernel_rfl⟩
instance tf257_0 : HasFld Tryz.prog 257 0 0 := ⟨fun a w => by kernel_rfl⟩
instance tf257_1 : HasFld Tryz.prog 257 1 1 := ⟨fun a w => by kernel_rfl⟩
instance tf257_2 : HasFld Tryz.prog 257 2 2 := ⟨fun a w => by kernel_rfl⟩
instance tb257 : HasB Tryz.prog 257 #[(0, 1), (1, 1), (2, 5)] := ⟨fun w fs h => by rw [und_inj Tryz.underlying257 h]; kernel_rfl⟩
instance tf276_0 : HasFld Tryz.prog 276 0 0 := ⟨fun a w => by kernel_rfl⟩
instance tf276_1 : HasFld Tryz.prog 276 1 1 := ⟨fun a w => by kernel_rfl⟩
instance tf276_2 : HasFld Tryz.prog 276 2 2 := ⟨fun a w => by kernel_rfl⟩
instance tf276_3 : HasFld Tryz.prog 276 3 3 := ⟨fun a w => by kernel_rfl⟩
instance tb276 : HasB Tryz.prog 276 #[(0, 1), (1, 1), (2, 1), (3, 1)] := ⟨fun w fs h => by rw [und_inj Tryz.underlying276 h]; kernel_rfl⟩
instance tf344_0 : HasFld Tryz.prog 344 0 0 := ⟨fun a w => by kernel_rfl⟩
instance tf344_1 : HasFld Tryz.prog 344 1 1 := ⟨fun a w => by kernel_rfl⟩
instance tf344_2 : HasFld Tryz.prog 344 2 2 := ⟨fun a w => by kernel_rfl⟩
instance tb344 : HasB Tryz.prog 344 #[(0, 1), (1, 1), (2, 1)] := ⟨fun w fs h => by rw [und_inj Tryz.underlying344 h]; kernel_rfl⟩
theorem hmix : Tryz.prog.follows .mixedOrders = true := by kernel_rfl
theorem ext65 (b : Nat) (w : World) : (callFunc 65 [(.float .f64 b : Value)].toArray).run Tryz.prog w = .ok (.value (.int .u64 (b : Int))) w := by kernel_rfl
theorem ext87 (b : Int) (w : World) : (callFunc 87 [(.int .u64 b : Value)].toArray).run Tryz.prog w = .ok (.value (.float .f64 b.toNat)) w := by kernel_rfl
theorem ext317_0 (x y : Nat) (w : World) : (callFunc 317 [(.int .u64 (x : Int) : Value), .int .u64 (y : Int), .int .u64 (0 : Int)].toArray).run Tryz.prog w = .ok (.value (.tuple [.int .u64 (((x + y + 0) % 18446744073709551616 : Nat) : Int), .int .u64 (((x + y + 0) / 18446744073709551616 : Nat) : Int)].toArray)) w := by kernel_rfl
theorem ext317_1 (x y : Nat) (w : World) : (callFunc 317 [(.int .u64 (x : Int) : Value), .int .u64 (y : Int), .int .u64 (1 : Int)].toArray).run Tryz.prog w = .ok (.value (.tuple [.int .u64 (((x + y + 1) % 18446744073709551616 : Nat) : Int), .int .u64 (((x + y + 1) / 18446744073709551616 : Nat) : Int)].toArray)) w := by kernel_rfl
theorem ext317 (x y c : Nat) (hc : c ≤ 1) (w : World) : (callFunc 317 [(.int .u64 (x : Int) : Value), .int .u64 (y : Int), .int .u64 ((c : Nat) : Int)].toArray).run Tryz.prog w = .ok (.value (.tuple [.int .u64 (((x + y + c) % 18446744073709551616 : Nat) : Int), .int .u64 (((x + y + c) / 18446744073709551616 : Nat) : Int)].toArray)) w := by
  rcases (by omega : c = 0 ∨ c = 1) with rfl | rfl
  · exact ext317_0 x y w
  · exact ext317_1 x y w
theorem ext342_0 (x y : Nat) (w : World) : (callFunc 342 [(.int .u64 (x : Int) : Value), .int .u64 (y : Int), .int .u64 (0 : Int)].toArray).run Tryz.prog w = .ok (.value (.tuple [.int .u64 (((x + 18446744073709551616 - y - 0) % 18446744073709551616 : Nat) : Int), .int .u64 ((if x < y + 0 then 1 else 0 : Nat) : Int)].toArray)) w := by kernel_rfl
theorem ext342_1 (x y : Nat) (w : World) : (callFunc 342 [(.int .u64 (x : Int) : Value), .int .u64 (y : Int), .int .u64 (1 : Int)].toArray).run Tryz.prog w = .ok (.value (.tuple [.int .u64 (((x + 18446744073709551616 - y - 1) % 18446744073709551616 : Nat) : Int), .int .u64 ((if x < y + 1 then 1 else 0 : Nat) : Int)].toArray)) w := by kernel_rfl
theorem ext342 (x y c : Nat) (hc : c ≤ 1) (w : World) : (callFunc 342 [(.int .u64 (x : Int) : Value), .int .u64 (y : Int), .int .u64 ((c : Nat) : Int)].toArray).run Tryz.prog w = .ok (.value (.tuple [.int .u64 (((x + 18446744073709551616 - y - c) % 18446744073709551616 : Nat) : Int), .int .u64 ((if x < y + c then 1 else 0 : Nat) : Int)].toArray)) w := by
  rcases (by omega : c = 0 ∨ c = 1) with rfl | rfl
  · exact ext342_0 x y w
  · exact ext342_1 x y w
theorem hF {P : Program} {f : FuncId} {fn : Func} (h : P.funcs[f]? = some fn) (hb : fn.body.isSome = true := by rfl) (hd : (fn.name == "runtime.NumGoroutine") = false := by decide) : HasF P f := ⟨fn, _, h, (Option.some_get hb).symm, hd⟩
theorem hasF31 : HasF Tryz.prog 31 := hF Tryz.func31
theorem hasF37 : HasF Tryz.prog 37 := hF Tryz.func37
theorem hasF39 : HasF Tryz.prog 39 := hF Tryz.func39
theorem hasF40 : HasF Tryz.prog 40 := hF Tryz.func40
theorem hasF41 : HasF Tryz.prog 41 := hF Tryz.func41
theorem hasF82 : HasF Tryz.prog 82 := hF Tryz.func82
theorem hasF83 : HasF Tryz.prog 83 := hF Tryz.func83
theorem hasF92 : HasF Tryz.prog 92 := hF Tryz.func92
theorem hasF93 : HasF Tryz.prog 93 := hF Tryz.func93
theorem hasF94 : HasF Tryz.prog 94 := hF Tryz.func94
theorem hasF95 : HasF Tryz.prog 95 := hF Tryz.func95
theorem hasF97 : HasF Tryz.prog 97 := hF Tryz.func97
theorem hasF99 : HasF Tryz.prog 99 := hF Tryz.func99
theorem hasF100 : HasF Tryz.prog 100 := hF Tryz.func100
theorem hasF101 : HasF Tryz.prog 101 := hF Tryz.func101
theorem hasF103 : HasF Tryz.prog 103 := hF Tryz.func103
theorem hasF104 : HasF Tryz.prog 104 := hF Tryz.func104
theorem hasF105 : HasF Tryz.prog 105 := hF Tryz.func105
theorem hasF106 : HasF Tryz.prog 106 := hF Tryz.func106
theorem hasF107 : HasF Tryz.prog 107 := hF Tryz.func107
theorem hasF108 : HasF Tryz.prog 108 := hF Tryz.func108
theorem hasF110 : HasF Tryz.prog 110 := hF Tryz.func110
theorem hasF112 : HasF Tryz.prog 112 := hF Tryz.func112
theorem hasF113 : HasF Tryz.prog 113 := hF Tryz.func113
theorem hasF114 : HasF Tryz.prog 114 := hF Tryz.func114
theorem hasF115 : HasF Tryz.prog 115 := hF Tryz.func115
theorem hasF117 : HasF Tryz.prog 117 := hF Tryz.func117
theorem hasF118 : HasF Tryz.prog 118 := hF Tryz.func118
theorem hasF119 : HasF Tryz.prog 119 := hF Tryz.func119
theorem hasF120 : HasF Tryz.prog 120 := hF Tryz.func120
theorem hasF121 : HasF Tryz.prog 121 := hF Tryz.func121
theorem hasF122 : HasF Tryz.prog 122 := hF Tryz.func122
theorem hasF123 : HasF Tryz.prog 123 := hF Tryz.func123
theorem hasF124 : HasF Tryz.prog 124 := hF Tryz.func124
theorem hasF125 : HasF Tryz.prog 125 := hF Tryz.func125
theorem hasF126 : HasF Tryz.prog 126 := hF Tryz.func126
theorem hasF127 : HasF Tryz.prog 127 := hF Tryz.func127
theorem hasF128 : HasF Tryz.prog 128 := hF Tryz.func128
theorem hasF131 : HasF Tryz.prog 131 := hF Tryz.func131
theorem hasF132 : HasF Tryz.prog 132 := hF Tryz.func132
theorem hasF170 : HasF Tryz.prog 170 := hF Tryz.func170
theorem hasF171 : HasF Tryz.prog 171 := hF Tryz.func171
theorem hasF172 : HasF Tryz.prog 172 := hF Tryz.func172
theorem hasF173 : HasF Tryz.prog 173 := hF Tryz.func173
theorem hasF174 : HasF Tryz.prog 174 := hF Tryz.func174
theorem hasF175 : HasF Tryz.prog 175 := hF Tryz.func175
theorem hasF176 : HasF Tryz.prog 176 := hF Tryz.func176
theorem hasF179 : HasF Tryz.prog 179 := hF Tryz.func179
theorem hasF182 : HasF Tryz.prog 182 := hF Tryz.func182
theorem hasF183 : HasF Tryz.prog 183 := hF Tryz.func183
theorem hasF184 : HasF Tryz.prog 184 := hF Tryz.func184
theorem hasF185 : HasF Tryz.prog 185 := hF Tryz.func185
theorem hasF186 : HasF Tryz.prog 186 := hF Tryz.func186
theorem hasF187 : HasF Tryz.prog 187 := hF Tryz.func187
theorem hasF191 : HasF Tryz.prog 191 := hF Tryz.func191
theorem hasF192 : HasF Tryz.prog 192 := hF Tryz.func192
theorem hasF193 : HasF Tryz.prog 193 := hF Tryz.func193
theorem hasF195 : HasF Tryz.prog 195 := hF Tryz.func195
theorem hasF196 : HasF Tryz.prog 196 := hF Tryz.func196
theorem hasF197 : HasF Tryz.prog 197 := hF Tryz.func197
theorem hasF198 : HasF Tryz.prog 198 := hF Tryz.func198
theorem hasF200 : HasF Tryz.prog 200 := hF Tryz.func200
theorem hasF201 : HasF Tryz.prog 201 := hF Tryz.func201
theorem hasF202 : HasF Tryz.prog 202 := hF Tryz.func202
theorem hasF203 : HasF Tryz.prog 203 := hF Tryz.func203
theorem hasF204 : HasF Tryz.prog 204 := hF Tryz.func204
theorem hasF205 : HasF Tryz.prog 205 := hF Tryz.func205
theorem hasF206 : HasF Tryz.prog 206 := hF Tryz.func206
theorem hasF207 : HasF Tryz.prog 207 := hF Tryz.func207
theorem hasF208 : HasF Tryz.prog 208 := hF Tryz.func208
theorem hasF209 : HasF Tryz.prog 209 := hF Tryz.func209
theorem hasF210 : HasF Tryz.prog 210 := hF Tryz.func210
theorem hasF211 : HasF Tryz.prog 211 := hF Tryz.func211
theorem hasF212 : HasF Tryz.prog 212 := hF Tryz.func212
theorem hasF213 : HasF Tryz.prog 213 := hF Tryz.func213
theorem hasF216 : HasF Tryz.prog 216 := hF Tryz.func216
theorem hasF255 : HasF Tryz.prog 255 := hF Tryz.func255
theorem hasF256 : HasF Tryz.prog 256 := hF Tryz.func256
theorem hasF257 : HasF Tryz.prog 257 := hF Tryz.func257
theorem hasF258 : HasF Tryz.prog 258 := hF Tryz.func258
theorem hasF259 : HasF Tryz.prog 259 := hF Tryz.func259
theorem hasF260 : HasF Tryz.prog 260 := hF Tryz.func260
theorem hasF261 : HasF Tryz.prog 261 := hF Tryz.func261
theorem hasF262 : HasF Tryz.prog 262 := hF Tryz.func262
theorem hasF263 : HasF Tryz.prog 263 := hF Tryz.func263
theorem hasF264 : HasF Tryz.prog 264 := hF Tryz.func264
theorem hasF267 : HasF Tryz.prog 267 := hF Tryz.func267
theorem hasF268 : HasF Tryz.prog 268 := hF Tryz.func268
theorem hasF269 : HasF Tryz.prog 269 := hF Tryz.func269
theorem hasF270 : HasF Tryz.prog 270 := hF Tryz.func270
theorem hasF271 : HasF Tryz.prog 271 := hF Tryz.func271
theorem hasF273 : HasF Tryz.prog 273 := hF Tryz.func273
theorem hasF274 : HasF Tryz.prog 274 := hF Tryz.func274
theorem hasF275 : HasF Tryz.prog 275 := hF Tryz.func275
theorem hasF276 : HasF Tryz.prog 276 := hF Tryz.func276
theorem hasF282 : HasF Tryz.prog 282 := hF Tryz.func282
theorem hasF284 : HasF Tryz.prog 284 := hF Tryz.func284
theorem hasF285 : HasF Tryz.prog 285 := hF Tryz.func285
theorem hasF287 : HasF Tryz.prog 287 := hF Tryz.func287
theorem hasF288 : HasF Tryz.prog 288 := hF Tryz.func288
theorem hasF299 : HasF Tryz.prog 299 := hF Tryz.func299
theorem hasF312 : HasF Tryz.prog 312 := hF Tryz.func312
theorem hasF313 : HasF Tryz.prog 313 := hF Tryz.func313
theorem hasF315 : HasF Tryz.prog 315 := hF Tryz.func315
theorem hasF316 : HasF Tryz.prog 316 := hF Tryz.func316
theorem hasF318 : HasF Tryz.prog 318 := hF Tryz.func318
theorem hasF319 : HasF Tryz.prog 319 := hF Tryz.func319
theorem hasF321 : HasF Tryz.prog 321 := hF Tryz.func321
theorem hasF322 : HasF Tryz.prog 322 := hF Tryz.func322
theorem hasF323 : HasF Tryz.prog 323 := hF Tryz.func323
theorem hasF343 : HasF Tryz.prog 343 := hF Tryz.func343
theorem hasF344 : HasF Tryz.prog 344 := hF Tryz.func344
theorem hasF345 : HasF Tryz.prog 345 := hF Tryz.func345
theorem hasF346 : HasF Tryz.prog 346 := hF Tryz.func346
theorem hasF350 : HasF Tryz.prog 350 := hF Tryz.func350
theorem hasF355 : HasF Tryz.prog 355 := hF Tryz.func355
theorem hasF357 : HasF Tryz.prog 357 := hF Tryz.func357
end

/- Whole numbers as lists of words of 32 bits: plain laws. No condition. -/
namespace Wd

/-- The number that words tell, the lowest first. -/
def val : List Nat → Nat
  | [] => 0
  | x :: l => x + 4294967296 * val l
/-- All are words. -/
def W (l : List Nat) : Prop := ∀ x ∈ l, x < 4294967296
/-- A number's words, none more than it wants. -/
def wd (n : Nat) : List Nat := if h : n = 0 then [] else n % 4294967296 :: wd (n / 4294967296)
termination_by n
decreasing_by omega

theorem wd_zero : wd 0 = [] := by rw [wd]; simp
theorem wd_pos {n : Nat} (h : n ≠ 0) : wd n = n % 4294967296 :: wd (n / 4294967296) := by rw [wd]; simp [h]
theorem val_wd (n : Nat) : val (wd n) = n := by
  induction n using Nat.strongRecOn with
  | _ n ih =>
    by_cases h : n = 0
    · subst h; rw [wd_zero]; rfl
    · rw [wd_pos h, val, ih _ (by omega)]; omega
theorem W_nil : W [] := fun x hx => by cases hx
theorem W_cons {x : Nat} {l : List Nat} : W (x :: l) ↔ x < 4294967296 ∧ W l := by simp [W]
theorem W_append {a b : List Nat} : W (a ++ b) ↔ W a ∧ W b := by
  simp only [W, List.mem_append]
  exact ⟨fun h => ⟨fun x hx => h x (.inl hx), fun x hx => h x (.inr hx)⟩, fun h x hx => hx.elim (h.1 x) (h.2 x)⟩
theorem W.take {l : List Nat} (h : W l) (k : Nat) : W (l.take k) := fun x hx => h x (List.mem_of_mem_take hx)
theorem W.drop {l : List Nat} (h : W l) (k : Nat) : W (l.drop k) := fun x hx => h x (List.mem_of_mem_drop hx)
theorem W.set {l : List Nat} (h : W l) (k : Nat) {x : Nat} (hx : x < 4294967296) : W (l.set k x) := fun y hy => by
  rcases List.mem_or_eq_of_mem_set hy with hy | rfl
  · exact h y hy
  · exact hx
theorem W_replicate (k : Nat) : W (List.replicate k 0) := fun x hx => by
  have := List.eq_of_mem_replicate hx; omega
theorem W.getD {l : List Nat} (h : W l) (i : Nat) : l.getD i 0 < 4294967296 := by
  rw [List.getD_eq_getElem?_getD]
  by_cases hi : i < l.length
  · rw [List.getElem?_eq_getElem hi]; exact h _ (List.getElem_mem hi)
  · rw [List.getElem?_eq_none (by omega)]; decide
theorem W_wd (n : Nat) : W (wd n) := by
  induction n using Nat.strongRecOn with
  | _ n ih =>
    by_cases h : n = 0
    · subst h; rw [wd_zero]; exact W_nil
    · rw [wd_pos h]; exact W_cons.2 ⟨by omega, ih _ (by omega)⟩
theorem val_append (a b : List Nat) : val (a ++ b) = val a + 2 ^ (32 * a.length) * val b := by
  induction a with
  | nil => simp [val]
  | cons x a ih =>
    simp only [List.cons_append, val, ih, List.length_cons]
    rw [show 32 * (a.length + 1) = 32 + 32 * a.length by omega, Nat.pow_add, Nat.mul_assoc, Nat.mul_add]
    have : (2 : Nat) ^ 32 = 4294967296 := by decide
    rw [this]; omega
theorem val_snoc (a : List Nat) (x : Nat) : val (a ++ [x]) = val a + 2 ^ (32 * a.length) * x := by rw [val_append]; simp [val]
theorem val_lt {l : List Nat} (h : W l) : val l < 2 ^ (32 * l.length) := by
  induction l with
  | nil => simp [val]
  | cons x l ih =>
    obtain ⟨h1, h2⟩ := W_cons.1 h
    have := ih h2
    simp only [val, List.length_cons]
    rw [show 32 * (l.length + 1) = 32 + 32 * l.length by omega, Nat.pow_add]
    have e : (2 : Nat) ^ 32 = 4294967296 := by decide
    rw [e]; omega
theorem val_replicate (k : Nat) : val (List.replicate k 0) = 0 := by
  induction k with
  | zero => rfl
  | succ k ih => simp [List.replicate_succ, val, ih]
theorem val_take_drop (l : List Nat) (k : Nat) (h : k ≤ l.length) : val l = val (l.take k) + 2 ^ (32 * k) * val (l.drop k) := by
  conv => lhs; rw [← List.take_append_drop k l]
  rw [val_append, List.length_take, Nat.min_eq_left h]
theorem val_drop {l : List Nat} (hw : W l) (k : Nat) (h : k ≤ l.length) : val (l.drop k) = val l / 2 ^ (32 * k) := by
  have h1 := val_take_drop l k h
  have h2 := val_lt (hw.take k)
  rw [List.length_take, Nat.min_eq_left h] at h2
  rw [h1, Nat.add_mul_div_left _ _ (Nat.two_pow_pos _), Nat.div_eq_of_lt h2, Nat.zero_add]
theorem val_take {l : List Nat} (hw : W l) (k : Nat) (h : k ≤ l.length) : val (l.take k) = val l % 2 ^ (32 * k) := by
  have h1 := val_take_drop l k h
  have h2 := val_lt (hw.take k)
  rw [List.length_take, Nat.min_eq_left h] at h2
  rw [h1, Nat.add_mul_mod_self_left, Nat.mod_eq_of_lt h2]
theorem take_succ_getD {l : List Nat} {i : Nat} (h : i < l.length) : l.take (i + 1) = l.take i ++ [l.getD i 0] := by
  rw [List.take_add_one, List.getD_eq_getElem?_getD, List.getElem?_eq_getElem h]; rfl
theorem val_take_succ {l : List Nat} {i : Nat} (h : i < l.length) : val (l.take (i + 1)) = val (l.take i) + 2 ^ (32 * i) * l.getD i 0 := by
  rw [take_succ_getD h, val_snoc, List.length_take, Nat.min_eq_left (by omega)]
theorem drop_getD {l : List Nat} {i : Nat} (h : i < l.length) : l.drop i = l.getD i 0 :: l.drop (i + 1) := by
  rw [List.drop_eq_getElem_cons h, List.getD_eq_getElem?_getD, List.getElem?_eq_getElem h]; rfl
theorem val_drop_succ {l : List Nat} {i : Nat} (h : i < l.length) : val (l.drop i) = l.getD i 0 + 4294967296 * val (l.drop (i + 1)) := by
  rw [drop_getD h]; rfl
theorem getD_out {l : List Nat} {i : Nat} (h : l.length ≤ i) : l.getD i 0 = 0 := by
  rw [List.getD_eq_getElem?_getD, List.getElem?_eq_none h]; rfl
/-- A last word that is not nought. -/
theorem wd_of_last {l : List Nat} (hw : W l) (h : l = [] ∨ l.getD (l.length - 1) 0 ≠ 0) : wd (val l) = l := by
  induction l with
  | nil => exact wd_zero
  | cons x l ih =>
    obtain ⟨h1, h2⟩ := W_cons.1 hw
    rcases h with h | h
    · cases h
    · cases l with
      | nil =>
        have hx : x ≠ 0 := by simpa using h
        rw [val, val, wd_pos (by omega)]
        have e1 : (x + 4294967296 * 0) % 4294967296 = x := by omega
        have e2 : (x + 4294967296 * 0) / 4294967296 = 0 := by omega
        rw [e1, e2, wd_zero]
      | cons y l =>
        have h3 := ih h2 (.inr (by simpa using h))
        have hv : val (y :: l) ≠ 0 := fun e => by rw [e, wd_zero] at h3; cases h3
        rw [val, wd_pos (by omega)]
        have e1 : (x + 4294967296 * val (y :: l)) % 4294967296 = x := by omega
        have e2 : (x + 4294967296 * val (y :: l)) / 4294967296 = val (y :: l) := by omega
        rw [e1, e2, h3]
theorem wd_eq_nil {n : Nat} : wd n = [] ↔ n = 0 := by
  constructor
  · intro h; have := val_wd n; rw [h] at this; exact this.symm
  · intro h; subst h; exact wd_zero
theorem wd_length_le {n k : Nat} : (wd n).length ≤ k ↔ n < 2 ^ (32 * k) := by
  induction k generalizing n with
  | zero => simp [wd_eq_nil]
  | succ k ih =>
    by_cases h : n = 0
    · subst h; simp [wd_zero, Nat.two_pow_pos]
    · rw [wd_pos h, List.length_cons, Nat.succ_le_succ_iff, ih]
      rw [show 32 * (k + 1) = 32 + 32 * k by omega, Nat.pow_add]
      have e : (2 : Nat) ^ 32 = 4294967296 := by decide
      rw [e, Nat.div_lt_iff_lt_mul (by decide), Nat.mul_comm]
theorem wd_length_val_le {l : List Nat} (h : W l) : (wd (val l)).length ≤ l.length := wd_length_le.2 (val_lt h)
theorem wd_length_pos {n : Nat} : 0 < (wd n).length ↔ n ≠ 0 := by
  rw [← Nat.not_le, Nat.le_zero, List.length_eq_zero_iff, wd_eq_nil]
theorem wd_length_mono {a b : Nat} (h : a ≤ b) : (wd a).length ≤ (wd b).length :=
  wd_length_le.2 (Nat.lt_of_le_of_lt h (wd_length_le.1 (Nat.le_refl _)))
/-- The last of a number's words. -/
theorem wd_last {n : Nat} (h : n ≠ 0) : (wd n).getD ((wd n).length - 1) 0 ≠ 0 := by
  intro hz
  have hp := wd_length_pos.2 h
  have h1 := val_take_succ (l := wd n) (i := (wd n).length - 1) (by omega)
  rw [hz, show (wd n).length - 1 + 1 = (wd n).length by omega, List.take_length, val_wd] at h1
  have h2 := val_lt ((W_wd n).take ((wd n).length - 1))
  rw [List.length_take, Nat.min_eq_left (by omega)] at h2
  have h3 : n < 2 ^ (32 * ((wd n).length - 1)) := by omega
  have := wd_length_le.2 h3
  omega
/-- How many bits. -/
def bl (n : Nat) : Nat := if n = 0 then 0 else n.log2 + 1
theorem bl_le {n k : Nat} : bl n ≤ k ↔ n < 2 ^ k := by
  unfold bl
  by_cases h : n = 0
  · subst h; simp [Nat.two_pow_pos]
  · rw [if_neg h, Nat.succ_le_iff, Nat.log2_lt h]
theorem lt_bl {n k : Nat} : k < bl n ↔ 2 ^ k ≤ n := by
  rw [← Nat.not_le, bl_le, Nat.not_lt]
theorem bl_lt (n : Nat) : n < 2 ^ bl n := bl_le.1 (Nat.le_refl _)
theorem bl_zero : bl 0 = 0 := by simp [bl]
theorem bl_eq_zero {n : Nat} : bl n = 0 ↔ n = 0 := by
  constructor
  · intro h; have := bl_lt n; rw [h] at this; omega
  · intro h; subst h; exact bl_zero
theorem bl_pos {n : Nat} (h : n ≠ 0) : 0 < bl n := by
  have := mt bl_eq_zero.1 h; omega
theorem bl_low {n : Nat} (h : n ≠ 0) : 2 ^ (bl n - 1) ≤ n := lt_bl.1 (by have := bl_pos h; omega)
theorem bl_unique {n k : Nat} (h1 : n < 2 ^ k) (h2 : k = 0 ∨ 2 ^ (k - 1) ≤ n) : bl n = k := by
  have a := bl_le.2 h1
  rcases h2 with rfl | h2
  · omega
  · have := lt_bl.2 h2; omega
theorem bl_mul_pow {n : Nat} (h : n ≠ 0) (k : Nat) : bl (n * 2 ^ k) = bl n + k := by
  have hp := bl_pos h
  refine bl_unique ?_ (.inr ?_)
  · rw [Nat.pow_add]; exact Nat.mul_lt_mul_of_pos_right (bl_lt n) (Nat.two_pow_pos k)
  · rw [show bl n + k - 1 = (bl n - 1) + k by omega, Nat.pow_add]; exact Nat.mul_le_mul_right _ (bl_low h)
/-- The bits of words. -/
theorem bl_val {l : List Nat} (hw : W l) (h : l ≠ []) (hl : l.getD (l.length - 1) 0 ≠ 0) : bl (val l) = 32 * (l.length - 1) + bl (l.getD (l.length - 1) 0) := by
  have hp : 0 < l.length := List.length_pos_iff.2 h
  have h1 := val_take_succ (l := l) (i := l.length - 1) (by omega)
  rw [show l.length - 1 + 1 = l.length by omega, List.take_length] at h1
  have h2 := val_lt (hw.take (l.length - 1))
  rw [List.length_take, Nat.min_eq_left (by omega)] at h2
  have hb := bl_pos hl
  have hb1 := bl_lt (l.getD (l.length - 1) 0)
  have hb2 := bl_low hl
  rw [h1]
  generalize l.getD (l.length - 1) 0 = x at *
  generalize val (l.take (l.length - 1)) = y at *
  refine bl_unique ?_ (.inr ?_)
  · rw [Nat.pow_add]
    calc y + 2 ^ (32 * (l.length - 1)) * x < 2 ^ (32 * (l.length - 1)) + 2 ^ (32 * (l.length - 1)) * x := by omega
      _ = 2 ^ (32 * (l.length - 1)) * (x + 1) := by rw [Nat.mul_add, Nat.mul_one, Nat.add_comm]
      _ ≤ 2 ^ (32 * (l.length - 1)) * 2 ^ bl x := Nat.mul_le_mul_left _ hb1
  · rw [show 32 * (l.length - 1) + bl x - 1 = 32 * (l.length - 1) + (bl x - 1) by omega, Nat.pow_add]
    have := Nat.mul_le_mul_left (2 ^ (32 * (l.length - 1))) hb2
    omega

/-- How many noughts stand at the low end. -/
def tz (n : Nat) : Nat := if h : n = 0 then 0 else if n % 2 = 1 then 0 else tz (n / 2) + 1
termination_by n
decreasing_by omega
theorem tz_zero : tz 0 = 0 := by rw [tz]; simp
theorem tz_odd {n : Nat} (h : n % 2 = 1) : tz n = 0 := by rw [tz]; split <;> simp [h]
theorem tz_even {n : Nat} (h0 : n ≠ 0) (h : n % 2 = 0) : tz n = tz (n / 2) + 1 := by
  conv => lhs; rw [tz]
  rw [dif_neg h0, if_neg (by omega)]
theorem tz_mul (n k : Nat) (h : n % 2 = 1) : tz (n * 2 ^ k) = k := by
  induction k with
  | zero => simpa using tz_odd h
  | succ k ih =>
    have hp := Nat.two_pow_pos k
    have h0 : n * 2 ^ k ≠ 0 := by
      intro e; rcases Nat.mul_eq_zero.1 e with e | e <;> omega
    have e : n * 2 ^ (k + 1) = 2 * (n * 2 ^ k) := by rw [Nat.pow_succ, ← Nat.mul_assoc, Nat.mul_comm]
    rw [e, tz_even (by omega) (by omega), Nat.mul_div_cancel_left _ (by decide), ih]
/-- What is left is odd. -/
theorem tz_spec {n : Nat} (h : n ≠ 0) : n / 2 ^ tz n % 2 = 1 ∧ n = n / 2 ^ tz n * 2 ^ tz n := by
  induction n using Nat.strongRecOn with
  | _ n ih =>
    by_cases h2 : n % 2 = 1
    · rw [tz_odd h2]; simp [h2]
    · rw [tz_even h (by omega)]
      obtain ⟨a, b⟩ := ih (n / 2) (by omega) (by omega)
      have e : n / 2 ^ (tz (n / 2) + 1) = n / 2 / 2 ^ tz (n / 2) := by rw [Nat.pow_succ, Nat.mul_comm, ← Nat.div_div_eq_div_mul]
      rw [e]
      refine ⟨a, ?_⟩
      rw [Nat.pow_succ, ← Nat.mul_assoc]
      generalize n / 2 / 2 ^ tz (n / 2) = q at *
      generalize q * 2 ^ tz (n / 2) = r at *
      omega
theorem tz_lt_bl {n : Nat} (h : n ≠ 0) : tz n < bl n := by
  obtain ⟨a, b⟩ := tz_spec h
  rw [lt_bl]
  have : 1 ≤ n / 2 ^ tz n := by revert a; generalize n / 2 ^ tz n = q; omega
  calc 2 ^ tz n = 1 * 2 ^ tz n := by rw [Nat.one_mul]
    _ ≤ n / 2 ^ tz n * 2 ^ tz n := Nat.mul_le_mul_right _ this
    _ = n := b.symm
theorem tz_unique {n m k : Nat} (h : n = m * 2 ^ k) (hm : m % 2 = 1) : tz n = k := by rw [h]; exact tz_mul m k hm
end Wd

/- Slices of words that are read, as numbers. No condition. -/
section
open Go Sx Wd

/-- A slice of words that reads as l. -/
structure NU (w : World) (v : Value) (l : List Nat) : Prop where
  ex : ∃ a c, v = .slice a l.length c ∧ l.length ≤ c ∧ RW w a (l.map u32v)
  hw : W l
  len : l.length ≤ 70368744177664
theorem NU.keep0 {w w' : World} {v : Value} {l : List Nat} (h : NU w v l) (hc : Chg [] w w') : NU w' v l := by
  obtain ⟨⟨a, c, h1, h2, h3⟩, h4, h5⟩ := h
  exact ⟨⟨a, c, h1, h2, h3.keep0 hc⟩, h4, h5⟩
theorem NU.one {w : World} {v : Value} {l : List Nat} (h : NU w v l) : v.oneCell' = true := by
  obtain ⟨⟨a, c, rfl, _⟩, _⟩ := h; rfl
def isU32 : Value → Bool
  | .int .u32 _ => true
  | _ => false
theorem NU.notU {w : World} {v : Value} {l : List Nat} (h : NU w v l) : isU32 v = false := by
  obtain ⟨⟨a, c, rfl, _⟩, _⟩ := h; rfl
/-- A number stays where a block turns that holds no words. -/
theorem NU.keepBK {w w' : World} {v : Value} {l : List Nat} {b : Nat} {T : TypeId} {cs : List Value} (h : NU w v l) (hb : BK w b T cs) (hc : Chg [b] w w') (hn : ∀ c ∈ cs, isU32 c = false) : NU w' v l := by
  obtain ⟨⟨a, c, h1, h2, h3⟩, h4, h5⟩ := h
  refine ⟨⟨a, c, h1, h2, fun i u hu => ?_⟩, h4, h5⟩
  obtain ⟨ad, e, hcell⟩ := h3 i u hu
  refine ⟨ad, e, hc.cell hcell fun hm => ?_⟩
  simp only [List.mem_singleton] at hm
  have hx : isU32 u = true := by
    rw [List.getElem?_map] at hu
    cases hq : l[i]? with
    | none => rw [hq] at hu; cases hu
    | some y => rw [hq] at hu; cases hu; rfl
  have hlk := hcell
  cases had : ad.add i with
  | mk b' o' sp =>
    rw [had] at hlk hm
    simp only at hm
    subst hm
    cases sp with
    | none =>
      rw [cell_at hb] at hlk
      have := hn u (List.mem_of_getElem? hlk)
      rw [hx] at this; cases this
    | some q =>
      have : w.cell? ⟨b', o', some q⟩ = none := by simp [World.cell?, show w.heap[b']? = _ from hb]
      rw [this] at hlk; cases hlk
theorem NU.part {w : World} {a : Option Addr} {l : List Nat} {k c : Nat} (h : RW w a (l.map u32v)) (hw : W l) (hl : l.length ≤ 70368744177664) (hk : k ≤ l.length) (hc : k ≤ c) : NU w (.slice a k c) (l.take k) := by
  have e : (l.take k).length = k := by rw [List.length_take]; omega
  refine ⟨⟨a, c, by rw [e], by omega, ?_⟩, hw.take k, by omega⟩
  rw [List.map_take]
  exact h.take k
theorem NU.of_row {w : World} {a : Option Addr} {l : List Nat} {k c : Nat} (h : RW w a (l.map u32v)) (hw : W l) (hl : l.length ≤ 70368744177664) (hk : k = l.length) (hc : k ≤ c) : NU w (.slice a k c) l := by
  subst hk
  exact ⟨⟨a, c, rfl, hc, h⟩, hw, hl⟩
theorem NU.nil {w : World} {c : Nat} {a : Option Addr} : NU w (.slice a 0 c) [] := ⟨⟨a, c, rfl, by simp, by simpa using RW.nil⟩, W_nil, by simp⟩
theorem NU.of_block {w : World} {b c : Nat} {E : TypeId} {l : List Nat} {k : Nat} (h : OB w b E l) (hw : W l) (hl : l.length ≤ 70368744177664) (hk : k = l.length) (hc : k ≤ c) : NU w (.slice (some ⟨b, 0, none⟩) k c) l := NU.of_row h.row hw hl hk hc
theorem cut_wd {l : List Nat} {k : Nat} (hW : W l) (hk : k ≤ l.length) (hv : val (l.take k) = val l) (h : k = 0 ∨ l.getD (k - 1) 0 ≠ 0) : wd (val l) = l.take k := by
  rw [← hv]
  refine wd_of_last (hW.take k) ?_
  rcases h with rfl | h
  · left; simp
  · by_cases hk0 : k = 0
    · subst hk0; left; simp
    · right
      rw [List.length_take, Nat.min_eq_left hk]
      have : (l.take k).getD (k - 1) 0 = l.getD (k - 1) 0 := by
        rw [List.getD_eq_getElem?_getD, List.getD_eq_getElem?_getD, List.getElem?_take, if_pos (by omega)]
      rw [this]; exact h
theorem take_pred {l : List Nat} {k : Nat} (hk : k ≤ l.length) (h0 : 0 < k) (hz : l.getD (k - 1) 0 = 0) : val (l.take (k - 1)) = val (l.take k) := by
  have := val_take_succ (l := l) (i := k - 1) (by omega)
  rw [show k - 1 + 1 = k by omega, hz] at this
  omega
/-- A made slice as an own row; an own row as a number. -/
theorem own_of_OB {w : World} {b k : Nat} {e : TypeId} {l : List Nat} (h : OB w b e l) (hk : k ≤ l.length) (hm : l.length ≤ 281474976710656) : w.ownsRow 0 e 1 (.slice (some ⟨b, 0, none⟩) k l.length) k ((l.take k).map u32v) :=
  ⟨by simp; omega, .inr ⟨b, l.length, _, rfl, Nat.zero_le _, h, hk, by unfold maxLen; omega, by simp, by simp [List.map_take]⟩⟩
theorem NU.of_own {w : World} {e : TypeId} {v : Value} {m : Nat} {l : List Nat} (h : w.ownsRow 0 e 1 v m (l.map u32v)) (hW : W l) (hl : l.length ≤ 70368744177664) : NU w v l := by
  have h1 : m = l.length := by have := h.1; simp at this; omega
  subst h1
  rcases own_cases h with ⟨rfl, h0, _⟩ | ⟨g, cap, rfl, hc, _, _⟩
  · have : l = [] := List.length_eq_zero_iff.1 h0
    subst this
    exact NU.nil
  · exact NU.of_row (RW.of_own h) hW hl rfl hc
end

/- Short names for cells that are one each. No condition. -/
section
open Go Sx

def allO : List Value → Prop
  | [] => True
  | v :: l => v.oneCell' = true ∧ allO l
theorem ao {l : List Value} (h : allO l := by repeat (first | exact trivial | exact rfl | assumption | exact NU.one (by assumption) | apply And.intro)) : ∀ v ∈ l, v.oneCell' = true := by
  induction l with
  | nil => intro v hv; cases hv
  | cons a l ih =>
    intro v hv
    rcases List.mem_cons.1 hv with rfl | hv
    · exact h.1
    · exact ih h.2 v hv
def allN (p : Value → Bool) : List Value → Prop
  | [] => True
  | v :: l => p v = false ∧ allN p l
theorem an {p : Value → Bool} {l : List Value} (h : allN p l := by repeat (first | exact trivial | exact rfl | exact NU.notU (by assumption) | apply And.intro)) : ∀ v ∈ l, p v = false := by
  induction l with
  | nil => intro v hv; cases hv
  | cons a l ih =>
    intro v hv
    rcases List.mem_cons.1 hv with rfl | hv
    · exact h.1
    · exact ih h.2 v hv
theorem SMg {a b : Sl} (h : Subs a b := by first | ((repeat (first | exact Subs.refl | refine Subs.drop1 (by rfl) ?_)); done) | ((repeat (first | exact Subs.nil | refine Subs.cons rfl ?_)); done)) : Subs a b := h
theorem SLp {a b : Sl} (h : Subs a b := by (repeat (first | exact Subs.nil | refine Subs.cons rfl ?_ | refine Subs.consI rfl (by omega) ?_))) : Subs a b := h
theorem o1 {v : Value} (h : v.oneCell' = true := by first | rfl | assumption | exact NU.one (by assumption)) : v.oneCell' = true := h
end

/- Deferred calls of named functions; calls through function values. No condition. -/
namespace Sx
open Go

/-- What a function does that is called behind a return. -/
def RetD (P : Program) (f : FuncId) (args : List Value) (w : World) (R : Value → World → Prop) : Prop :=
  ∀ u, CallsD P f args.toArray u w fun e u' w' => u' = u ∧ ∃ v, e = .returned v ∧ R v w'
theorem RetD.mono {P : Program} {f : FuncId} {args : List Value} {w : World} {R R' : Value → World → Prop} (h : RetD P f args w R) (hr : ∀ v w', R v w' → R' v w') : RetD P f args w R' := fun u =>
  CallsD.mono (h u) fun _ _ _ ⟨hu, v, he, hR⟩ => ⟨hu, v, he, hr _ _ hR⟩
/-- The one call that is made behind the return: of function g. -/
def bodyD (P : Program) (fn : Func) (n : Nat) (g : FuncId) (R : Value → World → Prop) : AQ
  | .normal, D, s, w | .ret, D, s, w => ∃ vs : List Value, D = [⟨.fn (.func g) #[], vs.toArray⟩] ∧ RetD P g vs w fun _ w' => ∃ v, ResS P fn n D s w' v ∧ R v w'
  | _, _, _, _ => False
section
variable {P : Program} {n : Nat} {D : List Deferred} {s : Sl} {w : World}
theorem frame0 {fn : Func} {args : List Value} (hn : Nat.ble args.length fn.ntmps = true) : Fr fn.ntmps [] (args0 0 args) { tmps := args.toArray ++ Array.replicate (fn.ntmps - args.toArray.size) undef, defers := [] } := by
  have hn' : args.length ≤ fn.ntmps := by simpa [Nat.ble_eq] using hn
  refine ⟨by simp; omega, rfl, fun t v ht => ?_⟩
  rw [look_args0] at ht
  simp only [Nat.zero_le, if_true, Nat.sub_zero] at ht
  have hlt : t < args.length := by
    by_cases hl : t < args.length
    · exact hl
    · rw [List.getElem?_eq_none (by omega)] at ht; cases ht
  rw [Array.getElem?_append_left (by simpa using hlt)]
  simpa using ht
theorem Ret.enterD {f : FuncId} {fn : Func} {c : Code} {args : List Value} {R : Value → World → Prop} (g : FuncId) (hg : HasF P g) (hf : P.funcs[f]? = some fn) (hb : fn.body = some c) (hn : Nat.ble args.length fn.ntmps = true)
    (h : CW P c (bodyD P fn fn.ntmps g R) fn.ntmps [] (args0 0 args) w) : Ret P f args w R := by
  refine calls_of_wp_defers hf hb (wp_mono (h _ (frame0 hn)) fun e a w hq => ?_)
  obtain ⟨D, s, hfr, hk⟩ := hq
  have go : (∃ vs : List Value, D = [⟨.fn (.func g) #[], vs.toArray⟩] ∧ RetD P g vs w fun _ w' => ∃ v, ResS P fn fn.ntmps D s w' v ∧ R v w') → Leaves P fn a.tmps (fun e w' => ∃ v, e = .returned v ∧ R v w') a.defers .returning w := by
    rintro ⟨vs, hd, hr⟩
    rw [hfr.defers, hd]
    refine leaves_cons (args := vs.toArray) (by simp) (by simp only [invoke, Array.append_empty]; exact hg.run _) (CallsD.mono (hr _) fun e u' w' hh => ?_)
    obtain ⟨hu, v, rfl, x, hx, hR⟩ := hh
    subst hu
    exact ⟨x, hx a hfr, x, rfl, hR⟩
  cases e with
  | normal => exact go hk
  | ret => exact go hk
  | _ => exact hk.elim
theorem RetD.enter {f : FuncId} {fn : Func} {c : Code} {args : List Value} {R : Value → World → Prop} (hf : P.funcs[f]? = some fn) (hb : fn.body = some c) (hn : Nat.ble args.length fn.ntmps = true)
    (h : CW P c (bodyA P fn fn.ntmps R) fn.ntmps [] (args0 0 args) w) : RetD P f args w R := fun u => by
  refine callsD_of_wp hf hb (wp_mono (h _ (frame0 hn)) fun e a w hq => ?_)
  obtain ⟨D, s, hfr, hk⟩ := hq
  unfold bodyA at hk
  cases e with
  | normal => obtain ⟨hd, v, hres, hR⟩ := hk; exact ⟨by rw [hfr.defers, hd], v, hres a hfr, v, rfl, hR⟩
  | ret => obtain ⟨hd, v, hres, hR⟩ := hk; exact ⟨by rw [hfr.defers, hd], v, hres a hfr, v, rfl, hR⟩
  | _ => exact hk.elim
/-- At the door: two results. -/
theorem bodyD.retR2 {fn : Func} {g : FuncId} {vs : List Value} {R : Value → World → Prop} {r q : ResultVar} (hr : fn.results = #[r, q]) (hd : D = [⟨.fn (.func g) #[], vs.toArray⟩])
    (h : RetD P g vs w fun _ w' => ∃ v u, RVal P n D s w' r v ∧ RVal P n D s w' q u ∧ R (.tuple [v, u].toArray) w') : bodyD P fn n g R .ret D s w :=
  ⟨vs, hd, h.mono fun _ w' ⟨v, u, h1, h2, hR⟩ => ⟨_, fun a ha => by rw [results_rdR, hr]; simp [h1 a ha, h2 a ha], hR⟩⟩
attribute [irreducible] bodyD
variable {ops : Array Oper} {K : KK} {rest : List Oper} {ty : TypeId} {pos : String} {af : Array Edge}
theorem WL.defer {f : FuncId} {xs : List Operand} {at_ : Array TypeId} {vs : List Value} (hx : opnds s xs = some vs) (k : WL P ops K rest n (⟨.fn (.func f) #[], vs.toArray⟩ :: D) s w) :
    WL P ops K (⟨none, .defer ⟨.value (.func f), xs.toArray, at_⟩, ty, pos, af, none⟩ :: rest) n D s w := fun a ha =>
  wpList_plain rfl fun K' hK => by
    have e1 : a.eval (.func f) = .func (.func f) #[] #[] := rfl
    have e2 := opnds_map (ρ := a.eval) (fun x u hx => ha.eval hx) xs vs hx
    unfold Oper.wp execOp
    simp only [resolve, e1, Deferred.ofValue]
    simp [e2]
    exact hK _ _ (k _ ⟨ha.size, by simp [Act.put, ha.defers], ha.cell⟩)
/-! ### Calls through function values -/
theorem exec_callV {f : FuncId} {y : Operand} {xs : List Operand} {at_ : Array TypeId} {vs cap : List Value} {ρ : Operand → Value} {o : Oper} (hF : HasF P f) (ho : o.op = .call ⟨.value y, xs.toArray, at_⟩) (hy : opnd s y = some (.func (.func f) #[] cap.toArray)) (hx : opnds s xs = some vs)
    (h : ∀ x u, opnd s x = some u → ρ x = u) : (execOp ρ o).run P w = .ok (.enter f (vs ++ cap).toArray) w := by
  have e1 : ρ y = .func (.func f) #[] cap.toArray := h _ _ hy
  have e2 := opnds_map h xs vs hx
  unfold execOp
  simp [ho, resolve, e1, Deferred.ofValue, invoke, e2, HasF.run hF]
variable {d : Nat}
theorem WL.callV {f : FuncId} {y : Operand} {xs : List Operand} {at_ : Array TypeId} {vs cap : List Value} {R : Value → World → Prop} (hF : HasF P f) (hy : opnd s y = some (.func (.func f) #[] cap.toArray)) (hx : opnds s xs = some vs) (hd : Nat.blt d n = true) (h : Ret P f (vs ++ cap) w R)
  (k : ∀ v w', R v w' → WL P ops K rest n D ((d, v) :: s) w') : WL P ops K (⟨some d, .call ⟨.value y, xs.toArray, at_⟩, ty, pos, af, none⟩ :: rest) n D s w := fun a ha =>
 wpList_plain rfl fun K' hK => by
  unfold Oper.wp;rw [exec_callV hF rfl hy hx fun x u hx => ha.eval hx];exact Calls.mono h fun e w' ⟨v, he, hR⟩ => by subst he; exact hK _ _ (k v w' hR _ (ha.put hd v))
end
end Sx

/- Sorting in place by keys: the plain law (ranges that are sorted, rows that are turned). No condition. -/
section
namespace Ss

/-- Sorted by keys from a to b. -/
def So (K : Nat → Int) (l : List Nat) (a b : Nat) : Prop := ∀ i j, a ≤ i → i < j → j < b → K (l.getD i 0) ≤ K (l.getD j 0)
/-- The same numbers, and outside of a to b the same places. -/
structure Sm (l l' : List Nat) (a b : Nat) : Prop where
  p : l'.Perm l
  o : ∀ i, i < a ∨ b ≤ i → l'.getD i 0 = l.getD i 0
theorem Sm.refl (l : List Nat) (a b : Nat) : Sm l l a b := ⟨.refl _, fun _ _ => rfl⟩
theorem Sm.len {l l' : List Nat} {a b : Nat} (h : Sm l l' a b) : l'.length = l.length := h.p.length_eq
theorem Sm.trans {l l' l'' : List Nat} {a b : Nat} (h : Sm l l' a b) (g : Sm l' l'' a b) : Sm l l'' a b := ⟨g.p.trans h.p, fun i hi => (g.o i hi).trans (h.o i hi)⟩
theorem Sm.mono {l l' : List Nat} {a b c d : Nat} (h : Sm l l' a b) (h1 : c ≤ a) (h2 : b ≤ d) : Sm l l' c d := ⟨h.p, fun i hi => h.o i (by omega)⟩
theorem ext_getD {l l' : List Nat} (hl : l.length = l'.length) (h : ∀ i, l.getD i 0 = l'.getD i 0) : l = l' := by
  apply List.ext_getElem hl
  intro i h1 h2
  have := h i
  rwa [List.getD_eq_getElem?_getD, List.getD_eq_getElem?_getD, List.getElem?_eq_getElem h1, List.getElem?_eq_getElem h2] at this
theorem getD_take (l : List Nat) (n i : Nat) : (l.take n).getD i 0 = if i < n then l.getD i 0 else 0 := by
  rw [List.getD_eq_getElem?_getD, List.getElem?_take]
  split
  · rw [List.getD_eq_getElem?_getD]
  · rfl
theorem getD_drop (l : List Nat) (n i : Nat) : (l.drop n).getD i 0 = l.getD (n + i) 0 := by
  rw [List.getD_eq_getElem?_getD, List.getElem?_drop, List.getD_eq_getElem?_getD]
theorem split3 (l : List Nat) {a b : Nat} (h : a ≤ b) : l = l.take a ++ ((l.drop a).take (b - a) ++ l.drop b) := by
  rw [show l.drop b = (l.drop a).drop (b - a) by rw [List.drop_drop, show a + (b - a) = b by omega], List.take_append_drop, List.take_append_drop]
theorem Sm.mid {l l' : List Nat} {a b : Nat} (h : Sm l l' a b) (hab : a ≤ b) : ((l'.drop a).take (b - a)).Perm ((l.drop a).take (b - a)) := by
  have h1 : l'.take a = l.take a := ext_getD (by simp [h.len]) fun i => by
    rw [getD_take, getD_take]
    split
    · exact h.o i (.inl (by assumption))
    · rfl
  have h2 : l'.drop b = l.drop b := ext_getD (by simp [h.len]) fun i => by
    rw [getD_drop, getD_drop]
    exact h.o _ (.inr (by omega))
  have hp := h.p
  rw [split3 l hab, split3 l' hab, h1, h2] at hp
  have hp := (List.perm_append_left_iff _).1 hp
  exact (List.perm_append_right_iff _).1 hp
theorem mem_mid {l : List Nat} {a b x : Nat} (hb : b ≤ l.length) : x ∈ (l.drop a).take (b - a) ↔ ∃ j, a ≤ j ∧ j < b ∧ x = l.getD j 0 := by
  constructor
  · intro h
    obtain ⟨i, hi, e⟩ := List.mem_iff_getElem.1 h
    rw [List.length_take, List.length_drop] at hi
    refine ⟨a + i, by omega, by omega, ?_⟩
    rw [← e, List.getElem_take, List.getElem_drop, List.getD_eq_getElem?_getD, List.getElem?_eq_getElem (by omega)]
    rfl
  · rintro ⟨j, h1, h2, rfl⟩
    refine List.mem_iff_getElem.2 ⟨j - a, by rw [List.length_take, List.length_drop]; omega, ?_⟩
    rw [List.getElem_take, List.getElem_drop, List.getD_eq_getElem?_getD, List.getElem?_eq_getElem (by omega)]
    simp only [Option.getD_some]
    congr 1
    omega
theorem Sm.mem {l l' : List Nat} {a b i : Nat} (h : Sm l l' a b) (hb : b ≤ l.length) (h1 : a ≤ i) (h2 : i < b) : ∃ j, a ≤ j ∧ j < b ∧ l'.getD i 0 = l.getD j 0 := by
  have hm := (h.mid (by omega)).mem_iff.1 ((mem_mid (l := l') (x := l'.getD i 0) (by rw [h.len]; exact hb)).2 ⟨i, h1, h2, rfl⟩)
  exact (mem_mid hb).1 hm
/-- Two places turned. -/
def sw (l : List Nat) (i j : Nat) : List Nat := (l.set i (l.getD j 0)).set j (l.getD i 0)
theorem getD_set (l : List Nat) (i x k : Nat) (hi : i < l.length) : (l.set i x).getD k 0 = if k = i then x else l.getD k 0 := by
  rw [List.getD_eq_getElem?_getD, List.getElem?_set, List.getD_eq_getElem?_getD]
  by_cases h : i = k
  · subst h; simp [hi]
  · rw [if_neg h, if_neg (fun e => h e.symm)]
theorem sw_getD {l : List Nat} {i j : Nat} (hi : i < l.length) (hj : j < l.length) (k : Nat) : (sw l i j).getD k 0 = if k = j then l.getD i 0 else if k = i then l.getD j 0 else l.getD k 0 := by
  unfold sw
  rw [getD_set _ _ _ _ (by simpa using hj), getD_set _ _ _ _ hi]
theorem count_set' (l : List Nat) (i x y : Nat) (hi : i < l.length) : (l.set i x).count y + (if l.getD i 0 = y then 1 else 0) = l.count y + (if x = y then 1 else 0) := by
  induction l generalizing i with
  | nil => simp at hi
  | cons z l ih =>
    cases i with
    | zero =>
      simp only [List.set_cons_zero, List.count_cons, List.getD_cons_zero, beq_iff_eq]
      omega
    | succ i =>
      have := ih i (by simpa using hi)
      simp only [List.set_cons_succ, List.count_cons, List.getD_cons_succ, beq_iff_eq]
      omega
theorem sw_perm {l : List Nat} {i j : Nat} (hi : i < l.length) (hj : j < l.length) (hne : i ≠ j) : (sw l i j).Perm l := by
  rw [List.perm_iff_count]
  intro y
  unfold sw
  have h1 := count_set' (l.set i (l.getD j 0)) j (l.getD i 0) y (by simpa using hj)
  have h2 := count_set' l i (l.getD j 0) y hi
  rw [getD_set _ _ _ _ hi, if_neg (show ¬ j = i from fun e => hne e.symm)] at h1
  omega
theorem sw_Sm {l : List Nat} {a b i j : Nat} (hi : i < l.length) (hj : j < l.length) (hne : i ≠ j) (h1 : a ≤ i) (h2 : i < b) (h3 : a ≤ j) (h4 : j < b) : Sm l (sw l i j) a b := ⟨sw_perm hi hj hne, fun k hk => by
  rw [sw_getD hi hj, if_neg (by omega), if_neg (by omega)]⟩
/-! ### Insertion -/
/-- Sorted from a to i, but for the one at j, which is not above those behind it. -/
def So1 (K : Nat → Int) (l : List Nat) (a i j : Nat) : Prop := (∀ p q, a ≤ p → p < q → q ≤ i → p ≠ j → q ≠ j → K (l.getD p 0) ≤ K (l.getD q 0)) ∧ ∀ q, j < q → q ≤ i → K (l.getD j 0) ≤ K (l.getD q 0)
theorem So1.start {K : Nat → Int} {l : List Nat} {a i : Nat} (h : So K l a i) : So1 K l a i i := ⟨fun p q h1 h2 h3 h4 h5 => h p q h1 h2 (by omega), fun q h1 h2 => by omega⟩
theorem So1.stop {K : Nat → Int} {l : List Nat} {a i j : Nat} (h : So1 K l a i j) (hj : j ≤ i) (he : j = a ∨ a < j ∧ ¬ K (l.getD j 0) < K (l.getD (j - 1) 0)) : So K l a (i + 1) := by
  intro p q h1 h2 h3
  by_cases hp : p = j
  · subst hp; exact h.2 q h2 (by omega)
  · by_cases hq : q = j
    · subst hq
      rcases he with e | ⟨e1, e2⟩
      · omega
      · have e3 : K (l.getD (q - 1) 0) ≤ K (l.getD q 0) := by omega
        by_cases hpq : p = q - 1
        · rw [hpq]; exact e3
        · have := h.1 p (q - 1) h1 (by omega) (by omega) hp (by omega)
          omega
    · exact h.1 p q h1 h2 (by omega) hp hq
theorem So1.step {K : Nat → Int} {l : List Nat} {a i j : Nat} (h : So1 K l a i j) (hj : j ≤ i) (hi : i < l.length) (ha : a < j) (hlt : K (l.getD j 0) < K (l.getD (j - 1) 0)) : So1 K (sw l j (j - 1)) a i (j - 1) := by
  have hg := fun k => sw_getD (l := l) (i := j) (j := j - 1) (by omega) (by omega) k
  constructor
  · intro p q h1 h2 h3 h4 h5
    rw [hg, hg, if_neg h4, if_neg h5]
    by_cases hp : p = j
    · rw [if_pos hp, if_neg (by omega)]
      exact h.1 (j - 1) q (by omega) (by omega) h3 (by omega) (by omega)
    · rw [if_neg hp]
      by_cases hq : q = j
      · rw [if_pos hq]
        exact h.1 p (j - 1) h1 (by omega) (by omega) hp (by omega)
      · rw [if_neg hq]
        exact h.1 p q h1 h2 h3 hp hq
  · intro q h1 h2
    rw [hg, hg, if_pos rfl, if_neg (by omega)]
    by_cases hq : q = j
    · rw [if_pos hq]; omega
    · rw [if_neg hq]
      exact h.2 q (by omega) h2
/-! ### Ranges turned -/
def swI (a b n k : Nat) : Nat := if a ≤ k ∧ k < a + n then k - a + b else if b ≤ k ∧ k < b + n then k - b + a else k
structure SwR (l l' : List Nat) (a b n : Nat) : Prop where
  p : l'.Perm l
  g : ∀ k, l'.getD k 0 = l.getD (swI a b n k) 0
theorem SwR.zero (l : List Nat) (a b : Nat) : SwR l l a b 0 := ⟨.refl _, fun k => by unfold swI; rw [if_neg (by omega), if_neg (by omega)]⟩
theorem SwR.step {l l' : List Nat} {a b n : Nat} (h : SwR l l' a b n) (h1 : a + n < b) (h2 : b + n < l.length) : SwR l (sw l' (a + n) (b + n)) a b (n + 1) := by
  have hl : l'.length = l.length := h.p.length_eq
  refine ⟨(sw_perm (by omega) (by omega) (by omega)).trans h.p, fun k => ?_⟩
  rw [sw_getD (by omega) (by omega), h.g, h.g, h.g]
  unfold swI
  by_cases e1 : k = b + n
  · subst e1
    rw [if_pos rfl]
    congr 1
    repeat' split
    all_goals omega
  · rw [if_neg e1]
    by_cases e2 : k = a + n
    · subst e2
      rw [if_pos rfl]
      congr 1
      repeat' split
      all_goals omega
    · rw [if_neg e2]
      congr 1
      repeat' split
      all_goals omega
def rtI (a m b k : Nat) : Nat := if k < a ∨ b ≤ k then k else if k < a + (b - m) then k - a + m else k - (b - m)
/-- The turning of u v to v u, so far. -/
structure RtJ (l : List Nat) (a m b : Nat) (i j : Nat) (l' : List Nat) : Prop where
  i0 : 0 < i
  j0 : 0 < j
  i1 : a + i ≤ m
  j1 : m + j ≤ b
  p : l'.Perm l
  g : ∀ k, l.getD (rtI a m b k) 0 = l'.getD (rtI (m - i) m (m + j) k) 0
theorem RtJ.start {l : List Nat} {a m b : Nat} (h1 : a < m) (h2 : m < b) : RtJ l a m b (m - a) (b - m) l := ⟨by omega, by omega, by omega, by omega, .refl _, fun k => by
  rw [show m - (m - a) = a by omega, show m + (b - m) = b by omega]⟩
theorem RtJ.gt {l l' l'' : List Nat} {a m b i j : Nat} (h : RtJ l a m b i j l') (hij : j < i) (hs : SwR l' l'' (m - i) m j) : RtJ l a m b (i - j) j l'' := by
  obtain ⟨h1, h2, h3, h4, h5, h6⟩ := h
  refine ⟨by omega, h2, by omega, h4, hs.p.trans h5, fun k => ?_⟩
  rw [h6 k, hs.g]
  congr 1
  unfold rtI swI
  repeat' split
  all_goals omega
theorem RtJ.lt {l l' l'' : List Nat} {a m b i j : Nat} (h : RtJ l a m b i j l') (hij : i < j) (hs : SwR l' l'' (m - i) (m + j - i) i) : RtJ l a m b i (j - i) l'' := by
  obtain ⟨h1, h2, h3, h4, h5, h6⟩ := h
  refine ⟨h1, by omega, h3, by omega, hs.p.trans h5, fun k => ?_⟩
  rw [h6 k, hs.g]
  congr 1
  unfold rtI swI
  repeat' split
  all_goals omega
structure RtR (l l' : List Nat) (a m b : Nat) : Prop where
  p : l'.Perm l
  g : ∀ k, l'.getD k 0 = l.getD (rtI a m b k) 0
theorem RtJ.eq {l l' l'' : List Nat} {a m b i : Nat} (h : RtJ l a m b i i l') (hs : SwR l' l'' (m - i) m i) : RtR l l'' a m b := by
  obtain ⟨h1, h2, h3, h4, h5, h6⟩ := h
  refine ⟨hs.p.trans h5, fun k => ?_⟩
  rw [h6 k, hs.g]
  congr 1
  unfold rtI swI
  repeat' split
  all_goals omega
/-! ### Merging -/
/-- One ahead of a sorted range goes to its place. -/
structure Up1 (l : List Nat) (a k : Nat) (l' : List Nat) : Prop where
  p : l'.Perm l
  g : ∀ q, l'.getD q 0 = if a ≤ q ∧ q < k then l.getD (q + 1) 0 else if q = k then l.getD a 0 else l.getD q 0
theorem Up1.start (l : List Nat) (a : Nat) : Up1 l a a l := ⟨.refl _, fun q => by
  by_cases e : q = a
  · subst e; rw [if_neg (by omega), if_pos rfl]
  · rw [if_neg (by omega), if_neg e]⟩
theorem Up1.step {l l' : List Nat} {a k : Nat} (h : Up1 l a k l') (ha : a ≤ k) (hk : k + 1 < l.length) : Up1 l a (k + 1) (sw l' k (k + 1)) := by
  have hl : l'.length = l.length := h.p.length_eq
  refine ⟨(sw_perm (by omega) (by omega) (by omega)).trans h.p, fun q => ?_⟩
  rw [sw_getD (by omega) (by omega), h.g, h.g, h.g]
  repeat' split
  all_goals first | rfl | omega | (congr 1; omega)
theorem Up1.sm {l l' : List Nat} {a k b : Nat} (h : Up1 l a k l') (hk : k < b) (ha : a ≤ k) : Sm l l' a b := ⟨h.p, fun i hi => by rw [h.g, if_neg (by omega), if_neg (by omega)]⟩
theorem Up1.so {K : Nat → Int} {l l' : List Nat} {a b i : Nat} (h : Up1 l a (i - 1) l') (hs : So K l (a + 1) b) (h1 : a + 1 ≤ i) (h2 : i ≤ b) (hlo : ∀ q, a + 1 ≤ q → q < i → K (l.getD q 0) < K (l.getD a 0)) (hhi : ∀ q, i ≤ q → q < b → ¬ K (l.getD q 0) < K (l.getD a 0)) : So K l' a b := by
  intro p q g1 g2 g3
  rw [h.g, h.g]
  by_cases p1 : p < i - 1
  · rw [if_pos ⟨g1, p1⟩]
    by_cases q1 : q < i - 1
    · rw [if_pos ⟨by omega, q1⟩]; exact hs _ _ (by omega) (by omega) (by omega)
    · rw [if_neg (by omega)]
      by_cases q2 : q = i - 1
      · rw [if_pos q2]; exact Int.le_of_lt (hlo _ (by omega) (by omega))
      · rw [if_neg q2]; exact hs _ _ (by omega) (by omega) g3
  · rw [if_neg (by omega), if_neg (by omega : ¬ (a ≤ q ∧ q < i - 1)), if_neg (by omega : ¬ q = i - 1)]
    by_cases p2 : p = i - 1
    · rw [if_pos p2]; have := hhi q (by omega) g3; omega
    · rw [if_neg p2]; exact hs _ _ (by omega) g2 g3
/-- One behind a sorted range goes to its place. -/
structure Dn1 (l : List Nat) (m k : Nat) (l' : List Nat) : Prop where
  p : l'.Perm l
  g : ∀ q, l'.getD q 0 = if k < q ∧ q ≤ m then l.getD (q - 1) 0 else if q = k then l.getD m 0 else l.getD q 0
theorem Dn1.start (l : List Nat) (m : Nat) : Dn1 l m m l := ⟨.refl _, fun q => by
  by_cases e : q = m
  · subst e; rw [if_neg (by omega), if_pos rfl]
  · rw [if_neg (by omega), if_neg e]⟩
theorem Dn1.step {l l' : List Nat} {m k : Nat} (h : Dn1 l m k l') (hk : k ≤ m) (h0 : 0 < k) (hm : m < l.length) : Dn1 l m (k - 1) (sw l' k (k - 1)) := by
  have hl : l'.length = l.length := h.p.length_eq
  refine ⟨(sw_perm (by omega) (by omega) (by omega)).trans h.p, fun q => ?_⟩
  rw [sw_getD (by omega) (by omega), h.g, h.g, h.g]
  repeat' split
  all_goals first | rfl | omega | (congr 1; omega)
theorem Dn1.sm {l l' : List Nat} {a m k b : Nat} (h : Dn1 l m k l') (hk : a ≤ k) (hkm : k ≤ m) (hm : m < b) : Sm l l' a b := ⟨h.p, fun i hi => by rw [h.g, if_neg (by omega), if_neg (by omega)]⟩
theorem Dn1.so {K : Nat → Int} {l l' : List Nat} {a m i : Nat} (h : Dn1 l m i l') (hs : So K l a m) (h1 : a ≤ i) (h2 : i ≤ m) (hlo : ∀ q, a ≤ q → q < i → ¬ K (l.getD m 0) < K (l.getD q 0)) (hhi : ∀ q, i ≤ q → q < m → K (l.getD m 0) < K (l.getD q 0)) : So K l' a (m + 1) := by
  intro p q g1 g2 g3
  rw [h.g, h.g]
  by_cases q1 : i < q
  · rw [if_pos (⟨q1, by omega⟩ : i < q ∧ q ≤ m)]
    by_cases p1 : i < p
    · rw [if_pos ⟨p1, by omega⟩]; exact hs _ _ (by omega) (by omega) (by omega)
    · rw [if_neg (by omega)]
      by_cases p2 : p = i
      · rw [if_pos p2]; exact Int.le_of_lt (hhi _ (by omega) (by omega))
      · rw [if_neg p2]
        by_cases e : p = q - 1
        · omega
        · exact hs _ _ g1 (by omega) (by omega)
  · rw [if_neg (by omega : ¬ (i < p ∧ p ≤ m)), if_neg (by omega : ¬ p = i), if_neg (by omega)]
    by_cases q2 : q = i
    · rw [if_pos q2]; have := hlo p g1 (by omega); omega
    · rw [if_neg q2]; exact hs _ _ g1 g2 (by omega)
/-- Two sorted ranges, cut by a symmetric comparison: below s it is known, and from r on. -/
structure Cut (K : Nat → Int) (l : List Nat) (a m b n s r : Nat) : Prop where
  lo : ∀ c, a ≤ c → c < s → c < m → m ≤ n - 1 - c → n - 1 - c < b → ¬ K (l.getD (n - 1 - c) 0) < K (l.getD c 0)
  hi : ∀ c, r ≤ c → a ≤ c → c < m → m ≤ n - 1 - c → n - 1 - c < b → K (l.getD (n - 1 - c) 0) < K (l.getD c 0)
theorem Cut.start1 {K : Nat → Int} {l : List Nat} {a m b d : Nat} (h : 0 < d) : Cut K l a m b (d + m) (d + m - b) d := ⟨fun c h1 h2 h3 h4 h5 => by omega, fun c h1 h2 h3 h4 h5 => by omega⟩
theorem Cut.start2 {K : Nat → Int} {l : List Nat} {a m b n : Nat} : Cut K l a m b n a m := ⟨fun c h1 h2 h3 h4 h5 => by omega, fun c h1 h2 h3 h4 h5 => by omega⟩
theorem So.le {K : Nat → Int} {l : List Nat} {a b i j : Nat} (h : So K l a b) (g1 : a ≤ i) (g2 : i ≤ j) (g3 : j < b) : K (l.getD i 0) ≤ K (l.getD j 0) := by
  rcases Nat.eq_or_lt_of_le g2 with e | e
  · rw [e]; exact Int.le_refl _
  · exact h i j g1 e g3
theorem Cut.stepF {K : Nat → Int} {l : List Nat} {a m b n s r c : Nat} (h : Cut K l a m b n s r) (hs : So K l a m) (ht : So K l m b) (h1 : a ≤ c) (h2 : c < m) (h3 : m ≤ n - 1 - c) (h4 : n - 1 - c < b) (hc : ¬ K (l.getD (n - 1 - c) 0) < K (l.getD c 0)) : Cut K l a m b n (c + 1) r := ⟨fun c' g1 g2 g3 g4 g5 => by
  have q1 := hs.le (i := c') (j := c) g1 (by omega) h2
  have q2 := ht.le (i := n - 1 - c) (j := n - 1 - c') h3 (by omega) g5
  omega, h.hi⟩
theorem Cut.stepT {K : Nat → Int} {l : List Nat} {a m b n s r c : Nat} (h : Cut K l a m b n s r) (hs : So K l a m) (ht : So K l m b) (h1 : a ≤ c) (h2 : c < m) (h3 : m ≤ n - 1 - c) (h4 : n - 1 - c < b) (hc : K (l.getD (n - 1 - c) 0) < K (l.getD c 0)) : Cut K l a m b n s c := ⟨h.lo, fun c' g0 g1 g3 g4 g5 => by
  have q1 := hs.le (i := c) (j := c') h1 g0 g3
  have q2 := ht.le (i := n - 1 - c') (j := n - 1 - c) g4 (by omega) h4
  omega⟩
/-- What the turning comes to: the first half's numbers are not above the second half's, and both halves are two sorted ranges. -/
structure Halves (K : Nat → Int) (l l' : List Nat) (a b s d e : Nat) : Prop where
  sm : Sm l l' a b
  s1 : So K l' a s
  s2 : So K l' s d
  s3 : So K l' d e
  s4 : So K l' e b
  le : ∀ i j, a ≤ i → i < d → d ≤ j → j < b → K (l'.getD i 0) ≤ K (l'.getD j 0)
theorem rt_id {a m b : Nat} (h : a = m ∨ m = b) (h1 : a ≤ m) (h2 : m ≤ b) (k : Nat) : rtI a m b k = k := by
  unfold rtI
  repeat' split
  all_goals omega
theorem halves {K : Nat → Int} {l l' : List Nat} {a m b d s e : Nat} (hd : a ≤ d ∧ d < b) (hm : a < m ∧ m < b) (hb : b ≤ l.length) (hs : So K l a m) (ht : So K l m b) (hc : Cut K l a m b (d + m) s s) (h1 : a ≤ s) (h2 : s ≤ m) (h3 : s ≤ d) (he : e + s = d + m) (h4 : m ≤ e) (h5 : e ≤ b) (hp : l'.Perm l) (hg : ∀ k, l'.getD k 0 = l.getD (rtI s m e k) 0) : Halves K l l' a b s d e := by
  have hx : ∀ i, a ≤ i → i < s → rtI s m e i = i := fun i g1 g2 => by unfold rtI; rw [if_pos (by omega)]
  have hy : ∀ i, s ≤ i → i < d → rtI s m e i = i - s + m := fun i g1 g2 => by unfold rtI; rw [if_neg (by omega), if_pos (by omega)]
  have hz : ∀ i, d ≤ i → i < e → rtI s m e i = i - (e - m) := fun i g1 g2 => by unfold rtI; rw [if_neg (by omega), if_neg (by omega)]
  have hw : ∀ i, e ≤ i → rtI s m e i = i := fun i g1 => by unfold rtI; rw [if_pos (by omega)]
  refine ⟨⟨hp, fun i hi => ?_⟩, fun i j g1 g2 g3 => ?_, fun i j g1 g2 g3 => ?_, fun i j g1 g2 g3 => ?_, fun i j g1 g2 g3 => ?_, fun i j g1 g2 g3 g4 => ?_⟩
  · rw [hg]; unfold rtI; rw [if_pos (by omega)]
  · rw [hg, hg, hx i g1 (by omega), hx j (by omega) g3]; exact hs i j g1 g2 (by omega)
  · rw [hg, hg, hy i g1 (by omega), hy j (by omega) g3]; exact ht _ _ (by omega) (by omega) (by omega)
  · rw [hg, hg, hz i g1 (by omega), hz j (by omega) g3]; exact hs _ _ (by omega) (by omega) (by omega)
  · rw [hg, hg, hw i g1, hw j (by omega)]; exact ht i j (by omega) g2 g3
  · rw [hg, hg]
    have le1 : ∀ {i j}, a ≤ i → i ≤ j → j < m → K (l.getD i 0) ≤ K (l.getD j 0) := fun {i j} g1 g2 g3 => by
      rcases Nat.eq_or_lt_of_le g2 with e | e
      · rw [e]; exact Int.le_refl _
      · exact hs i j g1 e g3
    have le2 : ∀ {i j}, m ≤ i → i ≤ j → j < b → K (l.getD i 0) ≤ K (l.getD j 0) := fun {i j} g1 g2 g3 => by
      rcases Nat.eq_or_lt_of_le g2 with e | e
      · rw [e]; exact Int.le_refl _
      · exact ht i j g1 e g3
    by_cases c1 : i < s
    · rw [hx i g1 c1]
      by_cases c2 : j < e
      · rw [hz j g3 c2]; exact le1 g1 (by omega) (by omega)
      · rw [hw j (by omega)]
        have q1 := hc.lo (s - 1) (by omega) (by omega) (by omega) (by omega) (by omega)
        have q2 := le1 (i := i) (j := s - 1) g1 (by omega) (by omega)
        have q3 := le2 (i := d + m - 1 - (s - 1)) (j := j) (by omega) (by omega) g4
        omega
    · rw [hy i (by omega) g2]
      by_cases c2 : j < e
      · rw [hz j g3 c2]
        have q1 := hc.hi s (by omega) h1 (by omega) (by omega) (by omega)
        have q2 := le2 (i := i - s + m) (j := d + m - 1 - s) (by omega) (by omega) (by omega)
        have q3 := le1 (i := s) (j := j - (e - m)) h1 (by omega) (by omega)
        omega
      · rw [hw j (by omega)]; exact le2 (by omega) (by omega) g4
/-- The halves merged. -/
theorem Halves.done {K : Nat → Int} {l l1 l2 l3 : List Nat} {a b s d e : Nat} (h : Halves K l l1 a b s d e) (hb : b ≤ l.length) (had : a ≤ d) (hdb : d ≤ b) (h2 : Sm l1 l2 a d) (g2 : So K l2 a d) (h3 : Sm l2 l3 d b) (g3 : So K l3 d b) : Sm l l3 a b ∧ So K l3 a b := by
  refine ⟨(h.sm.trans (h2.mono (Nat.le_refl _) hdb)).trans (h3.mono had (Nat.le_refl _)), fun i j k1 k2 k3 => ?_⟩
  have hl1 : l1.length = l.length := h.sm.len
  have hl2 : l2.length = l1.length := h2.len
  by_cases c1 : i < d
  · by_cases c2 : j < d
    · rw [h3.o i (.inl c1), h3.o j (.inl c2)]; exact g2 i j k1 k2 c2
    · rw [h3.o i (.inl c1)]
      obtain ⟨i', e1, e2, e3⟩ := h2.mem (i := i) (by omega) k1 c1
      obtain ⟨j', f1, f2, f3⟩ := h3.mem (i := j) (by omega) (by omega) k3
      rw [e3, f3, h2.o j' (.inr f1)]
      exact h.le i' j' e1 e2 f1 f2
  · exact g3 i j (by omega) k2 k3
theorem So.same {K : Nat → Int} {l l' : List Nat} {a b c d : Nat} (h : So K l a b) (g : Sm l l' c d) (hd : b ≤ c ∨ d ≤ a) : So K l' a b := fun i j h1 h2 h3 => by
  rw [g.o i (by omega), g.o j (by omega)]; exact h i j h1 h2 h3
theorem So.le1 {K : Nat → Int} {l : List Nat} {a b : Nat} (h : b ≤ a + 1) : So K l a b := fun i j h1 h2 h3 => by omega
theorem So.sub {K : Nat → Int} {l : List Nat} {a b c d : Nat} (h : So K l a b) (h1 : a ≤ c) (h2 : d ≤ b) : So K l c d := fun i j g1 g2 g3 => h i j (by omega) g2 (by omega)
/-! ### Blocks -/
/-- Sorted in blocks of k, from a on; below a in blocks of twice as many. -/
def Bl (K : Nat → Int) (l : List Nat) (n k a : Nat) : Prop := (∀ c, k ∣ c → a ≤ c → So K l c (min (c + k) n)) ∧ ∀ c, 2 * k ∣ c → c < a → So K l c (min (c + 2 * k) n)
theorem dvd_same {k a c : Nat} (h1 : k ∣ a) (h2 : k ∣ c) (h3 : a ≤ c) (h4 : c < a + k) : c = a := by
  have := Nat.eq_zero_of_dvd_of_lt (Nat.dvd_sub h2 h1) (by omega : c - a < k)
  omega
theorem dvd_below {k a c : Nat} (h1 : k ∣ a) (h2 : k ∣ c) (h3 : c < a) : c + k ≤ a := by
  rcases Nat.lt_or_ge a (c + k) with q | q
  · have := dvd_same h2 h1 (by omega) q
    omega
  · exact q
theorem Bl.start {K : Nat → Int} {l : List Nat} {n k : Nat} (h : ∀ c, k ∣ c → So K l c (min (c + k) n)) : Bl K l n k 0 := ⟨fun c h1 _ => h c h1, fun c _ h2 => by omega⟩
theorem Bl.merge {K : Nat → Int} {l l' : List Nat} {n k a : Nat} (h : Bl K l n k a) (ha : 2 * k ∣ a) (hb : a + 2 * k ≤ n) (g : Sm l l' a (a + 2 * k)) (gs : So K l' a (a + 2 * k)) : Bl K l' n k (a + 2 * k) := by
  refine ⟨fun c h1 h2 => (h.1 c h1 (by omega)).same g (.inr h2), fun c h1 h2 => ?_⟩
  rcases Nat.lt_or_ge c a with q | q
  · have := dvd_below ha h1 q
    exact (h.2 c h1 q).same g (.inl (by omega))
  · have := dvd_same ha h1 q h2
    subst this
    rw [Nat.min_eq_left hb]; exact gs
theorem Bl.last1 {K : Nat → Int} {l l' : List Nat} {n k a : Nat} (h : Bl K l n k a) (ha : 2 * k ∣ a) (hb : n < a + 2 * k) (hm : a + k < n) (g : Sm l l' a n) (gs : So K l' a n) : ∀ c, 2 * k ∣ c → So K l' c (min (c + 2 * k) n) := fun c h1 => by
  rcases Nat.lt_or_ge c a with q | q
  · have := dvd_below ha h1 q
    exact (h.2 c h1 q).same g (.inl (by omega))
  · rcases Nat.lt_or_ge c (a + 2 * k) with r | r
    · have := dvd_same ha h1 q r
      subst this
      rw [Nat.min_eq_right (by omega)]; exact gs
    · exact So.le1 (by omega)
theorem Bl.last2 {K : Nat → Int} {l : List Nat} {n k a : Nat} (h : Bl K l n k a) (ha : 2 * k ∣ a) (hm : n ≤ a + k) : ∀ c, 2 * k ∣ c → So K l c (min (c + 2 * k) n) := fun c h1 => by
  rcases Nat.lt_or_ge c a with q | q
  · exact h.2 c h1 q
  · have hk : k ∣ c := Nat.dvd_trans ⟨2, Nat.mul_comm ..⟩ h1
    exact (h.1 c hk q).sub (Nat.le_refl _) (by omega)
/-- The first blocks. -/
def B1 (K : Nat → Int) (l : List Nat) (a : Nat) : Prop := ∀ c, 20 ∣ c → c < a → So K l c (c + 20)
theorem B1.step {K : Nat → Int} {l l' : List Nat} {a : Nat} (h : B1 K l a) (ha : 20 ∣ a) (g : Sm l l' a (a + 20)) (gs : So K l' a (a + 20)) : B1 K l' (a + 20) := fun c h1 h2 => by
  rcases Nat.lt_or_ge c a with q | q
  · have := dvd_below ha h1 q
    exact (h c h1 q).same g (.inl (by omega))
  · have := dvd_same ha h1 q h2
    subst this; exact gs
theorem B1.last {K : Nat → Int} {l l' : List Nat} {a n : Nat} (h : B1 K l a) (ha : 20 ∣ a) (hb : n < a + 20) (han : a ≤ n) (g : Sm l l' a n) (gs : So K l' a n) : ∀ c, 20 ∣ c → So K l' c (min (c + 20) n) := fun c h1 => by
  rcases Nat.lt_or_ge c a with q | q
  · have := dvd_below ha h1 q
    exact ((h c h1 q).same g (.inl (by omega))).sub (Nat.le_refl _) (by omega)
  · rcases Nat.lt_or_ge c (a + 20) with r | r
    · have := dvd_same ha h1 q r
      subst this
      rw [Nat.min_eq_right (by omega)]; exact gs
    · exact So.le1 (by omega)
end Ss
end

end Go.Proofs.YtnbipejaidbihaaGreatDoor