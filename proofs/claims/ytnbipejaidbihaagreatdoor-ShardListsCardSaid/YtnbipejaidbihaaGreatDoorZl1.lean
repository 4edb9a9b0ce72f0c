/- Part 1 of what the proof rests on. No condition. -/
import Derived.WalkKit
import Derived.Deep.Quiet
import Derived.StillTail
import Derived.Maps.AppendAt
import Derived.Laws.IdiomCopy
import Derived.Laws.CopyOwn
import Derived.OrdersHeld
import Derived.Laws.CopyRow
import Derived.Laws.Tables
import Derived.ArgAppend
import Derived.KernelRfl
import Derived.Test.YtnbipejaidbihaaGreatDoorProg
set_option linter.unusedVariables false
set_option linter.unusedSimpArgs false
set_option maxRecDepth 100000
set_option maxHeartbeats 4000000
namespace Go.Proofs.YtnbipejaidbihaaGreatDoor
/- A small engine for walks: a frame is a list of known slots; each form of code and each operation has one lemma, applied by name. No condition. -/
namespace Sx
open Go

abbrev Sl := List (Nat × Value)
def look : Sl → Nat → Option Value
  | [], _ => none
  | (k, v) :: s, t => bif Nat.beq k t then some v else look s t

theorem look_cons (k : Nat) (v : Value) (s : Sl) (t : Nat) : look ((k, v) :: s) t = if k = t then some v else look s t := by
  simp only [look]
  by_cases h : k = t
  · subst h; simp
  · have : Nat.beq k t = false := Bool.eq_false_iff.2 fun e => h (Nat.eq_of_beq_eq_true e)
    rw [this]; simp [h]

structure Fr (n : Nat) (D : List Deferred) (s : Sl) (a : Act) : Prop where
  size : a.tmps.size = n
  defers : a.defers = D
  cell : ∀ t v, look s t = some v → a.tmps[t]? = some v

def opnd (s : Sl) : Operand → Option Value
  | .tmp t => look s t
  | .const v => some v
  | .global g => some (.pointer (some ⟨g, 0, none⟩))
  | .func f => some (.func (.func f) #[] #[])

theorem Fr.eval {n : Nat} {D : List Deferred} {s : Sl} {a : Act} (h : Fr n D s a) {x : Operand} {v : Value} (hx : opnd s x = some v) : a.eval x = v := by
  cases x with
  | tmp t =>
    have := h.cell t v hx
    simp only [Act.eval, Array.getD_eq_getD_getElem?, this]; rfl
  | const c => exact Option.some.inj hx
  | global g => exact Option.some.inj hx
  | func f => exact Option.some.inj hx

theorem Fr.put {n : Nat} {D : List Deferred} {s : Sl} {a : Act} (h : Fr n D s a) {d : Nat} (hd : Nat.blt d n = true) (v : Value) : Fr n D ((d, v) :: s) (a.put (some d) v) := by
  have hd' : d < n := by simpa [Nat.blt_eq] using hd
  refine ⟨by simp [Act.put, h.size], by simp [Act.put, h.defers], fun t u ht => ?_⟩
  rw [look_cons] at ht
  simp only [Act.put, Array.getElem?_setIfInBounds]
  by_cases e : d = t
  · subst e
    rw [if_pos rfl] at ht
    simp [h.size, hd', ht]
  · rw [if_neg e] at ht
    simp [e, h.cell t u ht]

def Subs (s' s : Sl) : Prop := ∀ t v, look s' t = some v → look s t = some v
theorem Subs.nil {s : Sl} : Subs [] s := fun _ _ h => by cases h
theorem Subs.cons {s s' : Sl} {t : Nat} {v : Value} (h : look s t = some v) (hs : Subs s' s) : Subs ((t, v) :: s') s := fun u x hx => by
  rw [look_cons] at hx
  by_cases e : t = u
  · subst e; rw [if_pos rfl] at hx; rw [h, hx]
  · rw [if_neg e] at hx; exact hs u x hx
theorem Subs.refl {s : Sl} : Subs s s := fun _ _ h => h
theorem Fr.sub {n : Nat} {D : List Deferred} {s s' : Sl} {a : Act} (h : Fr n D s a) (hs : Subs s' s) : Fr n D s' a := ⟨h.size, h.defers, fun t v ht => h.cell t v (hs t v ht)⟩

/-! ### Code -/
abbrev KK := List Deferred → Sl → World → Prop
abbrev AQ := Exit → List Deferred → Sl → World → Prop
def liftA (n : Nat) (A : AQ) : Exit → Act → World → Prop := fun e a w => ∃ D s, Fr n D s a ∧ A e D s w
def CW (P : Program) (c : Code) (A : AQ) (n : Nat) (D : List Deferred) (s : Sl) (w : World) : Prop := ∀ a, Fr n D s a → c.wp P (liftA n A) a w
def thenK (K : KK) (A : AQ) : AQ
  | .normal => K
  | e => A e
def inBlk (id : Nat) (A : AQ) : AQ
  | .exit id' => if id' = id then A .normal else A (.exit id')
  | e => A e

section
variable {P : Program} {A : AQ} {n : Nat} {D : List Deferred} {s : Sl} {w : World}

theorem liftA_then (K : KK) (e : Exit) (a : Act) (w : World) (h : liftA n (thenK K A) e a w) : Exit.then (fun a w => ∃ D s, Fr n D s a ∧ K D s w) (liftA n A) e a w := by
  cases e <;> exact h

theorem CW.mono {c : Code} {A' : AQ} (h : CW P c A n D s w) (hA : ∀ e D s w, A e D s w → A' e D s w) : CW P c A' n D s w := fun a ha =>
  wp_mono (h a ha) fun e a w ⟨D, s, hf, hq⟩ => ⟨D, s, hf, hA _ _ _ _ hq⟩
theorem CW.sub {c : Code} {s' : Sl} (hs : Subs s' s) (h : CW P c A n D s' w) : CW P c A n D s w := fun a ha => h a (ha.sub hs)

theorem CW.seq {x y : Code} (h : ∀ K : KK, (∀ D s w, CW P y A n D s w → K D s w) → CW P x (thenK K A) n D s w) : CW P (.seq x y) A n D s w := fun a ha => by
  refine wp_seq (wp_mono (h (fun D s w => CW P y A n D s w) (fun _ _ _ h => h) a ha) fun e a w hq => ?_)
  have := liftA_then _ _ _ _ hq
  cases e with
  | normal => obtain ⟨D, s, hf, hk⟩ := this; exact hk a hf
  | _ => exact this

theorem CW.seqJ {x y : Code} (J : KK) (hx : CW P x (thenK J A) n D s w) (hy : ∀ D s w, J D s w → CW P y A n D s w) : CW P (.seq x y) A n D s w :=
  CW.seq fun K hK => hx.mono fun e D s w h => by
    cases e with
    | normal => exact hK _ _ _ (hy _ _ _ h)
    | _ => exact h
theorem CW.skip (h : A .normal D s w) : CW P .skip A n D s w := fun a ha => wp_skip ⟨D, s, ha, h⟩
theorem CW.ret (h : A .ret D s w) : CW P .ret A n D s w := fun a ha => wp_ret ⟨D, s, ha, h⟩
theorem CW.exit {id : Nat} (h : A (.exit id) D s w) : CW P (.exit id) A n D s w := fun a ha => wp_exit ⟨D, s, ha, h⟩
theorem CW.block {id : Nat} {c : Code} (h : CW P c (inBlk id A) n D s w) : CW P (.block id c) A n D s w := fun a ha =>
  wp_block (wp_mono (h a ha) fun e a w hq => by
    cases e with
    | exit id' =>
      obtain ⟨D, s, hf, hk⟩ := hq
      simp only [inBlk] at hk
      simp only [Exit.inBlock]
      split at hk
      · rename_i h; rw [if_pos h]; exact ⟨D, s, hf, hk⟩
      · rename_i h; rw [if_neg h]; exact ⟨D, s, hf, hk⟩
    | _ => exact hq)
theorem CW.cond {c : Operand} {x y : Code} {b : Bool} (hc : opnd s c = some (.bool b)) (ht : b = true → CW P x A n D s w) (hf : b = false → CW P y A n D s w) : CW P (.cond c x y) A n D s w := fun a ha =>
  wp_cond_split (ha.eval hc) (fun h => ht h a ha) (fun h => hf h a ha)
theorem CW.condT {c : Operand} {x y : Code} (hc : opnd s c = some (.bool true)) (ht : CW P x A n D s w) : CW P (.cond c x y) A n D s w := CW.cond hc (fun _ => ht) (fun h => by cases h)
theorem CW.condF {c : Operand} {x y : Code} (hc : opnd s c = some (.bool false)) (ht : CW P y A n D s w) : CW P (.cond c x y) A n D s w := CW.cond hc (fun h => by cases h) (fun _ => ht)

theorem CW.loop {G : Type} {c : Code} (S : G → Sl) (Inv : G → World → Prop) (mu : G → Nat) (g0 : G) (h0 : Inv g0 w) (hs : Subs (S g0) s)
    (round : ∀ g w, Inv g w → CW P c (thenK (fun D' s' w' => D' = D ∧ ∃ g', Subs (S g') s' ∧ Inv g' w' ∧ mu g' < mu g) A) n D (S g) w) : CW P (.loop c) A n D s w := fun a ha => by
  have key : ∀ m, ∀ g w a, mu g = m → Inv g w → Fr n D (S g) a → (Code.loop c).wp P (liftA n A) a w := by
    intro m g w a hm hi hf
    refine wp_loop (fun a w => ∃ g, Inv g w ∧ Fr n D (S g) a) (fun a w => Classical.epsilon fun k => ∃ g, Inv g w ∧ Fr n D (S g) a ∧ mu g = k ∧ ∀ g', Inv g' w → Fr n D (S g') a → k ≤ mu g') ⟨g, hi, hf⟩ ?_
    intro a w hI
    have least : ∀ (a : Act) (w : World), (∃ g, Inv g w ∧ Fr n D (S g) a) → ∃ k, ∃ g, Inv g w ∧ Fr n D (S g) a ∧ mu g = k ∧ ∀ g', Inv g' w → Fr n D (S g') a → k ≤ mu g' := by
      intro a w ⟨g, hg⟩
      have : ∀ k, ∀ g, mu g = k → Inv g w → Fr n D (S g) a → ∃ k, ∃ g, Inv g w ∧ Fr n D (S g) a ∧ mu g = k ∧ ∀ g', Inv g' w → Fr n D (S g') a → k ≤ mu g' := by
        intro k
        induction k using Nat.strongRecOn with
        | _ k ih =>
          intro g hk hi hf
          by_cases hmin : ∀ g', Inv g' w → Fr n D (S g') a → k ≤ mu g'
          · exact ⟨k, g, hi, hf, hk, hmin⟩
          · have : ∃ g', Inv g' w ∧ Fr n D (S g') a ∧ mu g' < k := by
              apply Classical.byContradiction
              intro hno
              apply hmin
              intro g' hi' hf'
              apply Nat.le_of_not_lt
              intro hlt
              exact hno ⟨g', hi', hf', hlt⟩
            obtain ⟨g', hi', hf', hlt⟩ := this
            exact ih _ hlt g' rfl hi' hf'
      exact this _ g rfl hg.1 hg.2
    obtain ⟨g1, hi1, hf1, hmu, hmin⟩ := Classical.epsilon_spec (least a w hI)
    refine wp_mono (round g1 w hi1 a hf1) fun e a' w' hq => ?_
    have hq' := liftA_then _ _ _ _ hq
    cases e with
    | normal =>
      obtain ⟨D', s', hf', rfl, g', hsub, hinv, hlt⟩ := hq'
      have hf2 := hf'.sub hsub
      refine ⟨⟨g', hinv, hf2⟩, ?_⟩
      obtain ⟨_, _, _, _, hmin'⟩ := Classical.epsilon_spec (least a' w' ⟨g', hinv, hf2⟩)
      have := hmin' g' hinv hf2
      rw [← hmu]
      exact Nat.lt_of_le_of_lt this hlt
    | _ => exact hq'
  exact key _ g0 w a rfl h0 (ha.sub hs)

/-! ### A function -/
def Ret (P : Program) (f : FuncId) (args : List Value) (w : World) (R : Value → World → Prop) : Prop :=
  Calls P f args.toArray w fun e w' => ∃ v, e = .returned v ∧ R v w'
theorem Ret.mono {f : FuncId} {args : List Value} {R R' : Value → World → Prop} (h : Ret P f args w R) (hr : ∀ v w', R v w' → R' v w') : Ret P f args w R' :=
  Calls.mono h fun _ _ ⟨v, he, hR⟩ => ⟨v, he, hr _ _ hR⟩

def ResS (P : Program) (fn : Func) (n : Nat) (D : List Deferred) (s : Sl) (w : World) (v : Value) : Prop := ∀ a, Fr n D s a → (results fn a.tmps).run P w = .ok v w
def bodyA (P : Program) (fn : Func) (n : Nat) (R : Value → World → Prop) : AQ
  | .normal, D, s, w | .ret, D, s, w => D = [] ∧ ∃ v, ResS P fn n D s w v ∧ R v w
  | _, _, _, _ => False

def args0 : Nat → List Value → Sl
  | _, [] => []
  | i, v :: r => (i, v) :: args0 (i + 1) r
theorem look_args0 (l : List Value) : ∀ i t, look (args0 i l) t = if i ≤ t then l[t - i]? else none := by
  induction l with
  | nil => intro i t; simp [args0, look]
  | cons v r ih =>
    intro i t
    rw [args0, look_cons, ih]
    by_cases h : i = t
    · subst h; simp
    · by_cases h2 : i ≤ t
      · have h3 : i + 1 ≤ t := by omega
        have h4 : t - i = (t - (i + 1)) + 1 := by omega
        simp [h, h2, h3, h4]
      · have h3 : ¬ i + 1 ≤ t := by omega
        simp [h, h2, h3]

theorem Ret.enter {f : FuncId} {fn : Func} {c : Code} {args : List Value} {R : Value → World → Prop} (hf : P.funcs[f]? = some fn) (hb : fn.body = some c) (hn : Nat.ble args.length fn.ntmps = true)
    (h : CW P c (bodyA P fn fn.ntmps R) fn.ntmps [] (args0 0 args) w) : Ret P f args w R := by
  have hn' : args.length ≤ fn.ntmps := by simpa [Nat.ble_eq] using hn
  refine calls_of_wp hf hb (wp_mono (h _ ⟨by simp; omega, rfl, fun t v ht => ?_⟩) fun e a w hq => ?_)
  · rw [look_args0] at ht
    simp only [Nat.zero_le, if_true, Nat.sub_zero] at ht
    have hlt : t < args.length := by
      by_cases hl : t < args.length
      · exact hl
      · rw [List.getElem?_eq_none (by omega)] at ht; cases ht
    rw [Array.getElem?_append_left (by simpa using hlt)]
    simpa using ht
  · obtain ⟨D, s, hfr, hk⟩ := hq
    cases e with
    | normal => obtain ⟨hd, v, hres, hR⟩ := hk; exact ⟨by rw [hfr.defers, hd], v, hres a hfr, v, rfl, hR⟩
    | ret => obtain ⟨hd, v, hres, hR⟩ := hk; exact ⟨by rw [hfr.defers, hd], v, hres a hfr, v, rfl, hR⟩
    | _ => exact hk.elim

theorem Fr.getD {a : Act} (h : Fr n D s a) {t : Nat} {v : Value} (ht : look s t = some v) : a.tmps.getD t undef = v := by
  simp only [Array.getD_eq_getD_getElem?, h.cell t v ht]; rfl

theorem bodyA.mk {fn : Func} {R : Value → World → Prop} {e : Exit} (he : e = .ret ∨ e = .normal) {v : Value} (h : ResS P fn n [] s w v) (hR : R v w) : bodyA P fn n R e [] s w := by
  rcases he with rfl | rfl <;> exact ⟨rfl, v, h, hR⟩
attribute [irreducible] bodyA
theorem bodyA.ret0 {fn : Func} {R : Value → World → Prop} (hr : fn.results = #[]) (h : R (.tuple #[]) w) : bodyA P fn n R .ret [] s w :=
  bodyA.mk (.inl rfl) (fun a ha => results_none hr _ _ _) h
theorem bodyA.norm0 {fn : Func} {R : Value → World → Prop} (hr : fn.results = #[]) (h : R (.tuple #[]) w) : bodyA P fn n R .normal [] s w :=
  bodyA.mk (.inr rfl) (fun a ha => results_none hr _ _ _) h
theorem bodyA.ret1 {fn : Func} {R : Value → World → Prop} {t : Nat} {v : Value} (hr : fn.results = #[.tmp t]) (ht : look s t = some v) (h : R v w) : bodyA P fn n R .ret [] s w :=
  bodyA.mk (.inl rfl) (fun a ha => by rw [results_tmp hr, ha.getD ht]) h
theorem bodyA.ret2 {fn : Func} {R : Value → World → Prop} {t u : Nat} {v x : Value} (hr : fn.results = #[.tmp t, .tmp u]) (ht : look s t = some v) (hu : look s u = some x) (h : R (.tuple #[v, x]) w) : bodyA P fn n R .ret [] s w :=
  bodyA.mk (.inl rfl) (fun a ha => by rw [results_tmp2 hr, ha.getD ht, ha.getD hu]) h

/-! ### Regions in the order of the text -/
def post (n : Nat) (K : KK) : Exit → Act → World → Prop
  | .normal, a, w => ∃ D s, Fr n D s a ∧ K D s w
  | _, _, _ => False
def WL (P : Program) (ops : Array Oper) (K : KK) (l : List Oper) (n : Nat) (D : List Deferred) (s : Sl) (w : World) : Prop := ∀ a, Fr n D s a → wpList P ops (post n K) l a w

theorem post_lift {K : KK} (hK : ∀ D s w, K D s w → A .normal D s w) (e : Exit) (a : Act) (w : World) (h : post n K e a w) : liftA n A e a w := by
  cases e with
  | normal => obtain ⟨D, s, hf, hk⟩ := h; exact ⟨D, s, hf, hK _ _ _ hk⟩
  | _ => exact h.elim

theorem upon_mono {o : Oper} {a : Act} {next next' : Act → World → Prop} {Q Q' : Exit → Act → World → Prop} (hn : ∀ a w, next a w → next' a w) (hq : ∀ e a w, Q e a w → Q' e a w) (r : Result Next) (h : o.upon P a next Q r) : o.upon P a next' Q' r := by
  have ho : LetsOut Q → LetsOut Q' := fun ⟨a, w, h⟩ => ⟨a, w, hq _ _ _ h⟩
  cases r with
  | ok x w =>
    cases x with
    | value v => exact hn _ _ h
    | skip => exact hn _ _ h
    | defer d => exact hn _ _ h
    | enter f args => exact Calls.mono h fun e w' he => by cases e <;> first | exact hn _ _ he | exact hq _ _ _ he | exact ho he
    | row r args => exact Rows.mono h fun v w' hv => hn _ _ hv
    | _ => exact h.elim
  | halt x w =>
    cases x with
    | panic v => exact hq _ _ _ h
    | _ => exact h.elim
theorem wpList_mono {ops : Array Oper} {Q Q' : Exit → Act → World → Prop} (hq : ∀ e a w, Q e a w → Q' e a w) : ∀ (l : List Oper) (a : Act) (w : World), wpList P ops Q l a w → wpList P ops Q' l a w
  | [], a, w, h => hq _ _ _ h
  | o :: r, a, w, h => by
    unfold wpList at h ⊢
    split
    · rename_i hw
      rw [if_pos hw] at h
      rcases h with h | ⟨h, h'⟩
      · exact .inl (upon_mono (wpList_mono hq r) hq _ h)
      · exact .inr ⟨h, let ⟨a, w, hh⟩ := h'; ⟨a, w, hq _ _ _ hh⟩⟩
    · rename_i hw
      rw [if_neg hw] at h
      exact wpList_mono hq r _ _ h

theorem CW.region {id : Nat} {l : List Oper} (h : ∀ K : KK, (∀ D s w, A .normal D s w → K D s w) → WL P l.toArray K l n D s w) : CW P (.region id l.toArray false) A n D s w := fun a ha =>
  wp_mono (wp_region_lit (h (fun D s w => A .normal D s w) (fun _ _ _ h => h) a ha)) (post_lift fun _ _ _ h => h)

variable {ops : Array Oper} {K : KK} {rest : List Oper}
theorem WL.nil (h : K D s w) : WL P ops K [] n D s w := fun a ha => wpList_nil ⟨D, s, ha, h⟩

def Ev (P : Program) (s : Sl) (op : Op) (ty : TypeId) (w : World) (v : Value) (w' : World) : Prop :=
  ∀ (ρ : Operand → Value) (d : Option Tmp) (pos : String) (af : Array Edge) (g : Option (Nat × Bool)), (∀ x u, opnd s x = some u → ρ x = u) → (execOp ρ ⟨d, op, ty, pos, af, g⟩).run P w = .ok (.value v) w'
def EvS (P : Program) (s : Sl) (op : Op) (ty : TypeId) (w : World) (w' : World) : Prop :=
  ∀ (ρ : Operand → Value) (d : Option Tmp) (pos : String) (af : Array Edge) (g : Option (Nat × Bool)), (∀ x u, opnd s x = some u → ρ x = u) → (execOp ρ ⟨d, op, ty, pos, af, g⟩).run P w = .ok .skip w'

section
variable {op : Op} {ty : TypeId} {pos : String} {af : Array Edge} {d : Nat} {v : Value} {w' : World}
theorem WL.ev (he : Ev P s op ty w v w') (hd : Nat.blt d n = true) (k : WL P ops K rest n D ((d, v) :: s) w') : WL P ops K (⟨some d, op, ty, pos, af, none⟩ :: rest) n D s w := fun a ha =>
  wpList_plain rfl fun K' hK => by
    unfold Oper.wp
    rw [he a.eval (some d) pos af none fun x u hx => ha.eval hx]
    exact hK _ _ (k _ (ha.put hd v))
theorem WL.evs (he : EvS P s op ty w w') (k : WL P ops K rest n D s w') : WL P ops K (⟨none, op, ty, pos, af, none⟩ :: rest) n D s w := fun a ha =>
  wpList_plain rfl fun K' hK => by
    unfold Oper.wp
    rw [he a.eval none pos af none fun x u hx => ha.eval hx]
    exact hK _ _ (k _ ha)
end

def opnds (s : Sl) : List Operand → Option (List Value)
  | [] => some []
  | x :: r => match opnd s x, opnds s r with
    | some v, some vs => some (v :: vs)
    | _, _ => none
theorem opnds_map {ρ : Operand → Value} (h : ∀ x u, opnd s x = some u → ρ x = u) : ∀ (l : List Operand) vs, opnds s l = some vs → l.map ρ = vs
  | [], vs, he => by simp only [opnds] at he; cases he; rfl
  | x :: r, vs, he => by
    simp only [opnds] at he
    split at he
    · rename_i v vs' h1 h2
      cases he
      simp [h x v h1, opnds_map h r vs' h2]
    · cases he

def HasF (P : Program) (f : FuncId) : Prop := ∃ fn c, P.funcs[f]? = some fn ∧ fn.body = some c ∧ (fn.name == "runtime.NumGoroutine") = false
theorem HasF.run {f : FuncId} (h : HasF P f) (args : Array Value) : (callFunc f args).run P w = .ok (.enter f args) w := by
  obtain ⟨fn, c, h1, h2, h3⟩ := h
  have h4 : ¬ fn.name = "runtime.NumGoroutine" := by simpa using h3
  simp [callFunc, h1, h2, h4]

section
variable {ty : TypeId} {pos : String} {af : Array Edge} {d : Nat}
theorem exec_call {f : FuncId} {xs : List Operand} {at_ : Array TypeId} {vs : List Value} {ρ : Operand → Value} {o : Oper} (hF : HasF P f) (ho : o.op = .call ⟨.value (.func f), xs.toArray, at_⟩) (hx : opnds s xs = some vs)
    (h : ∀ x u, opnd s x = some u → ρ x = u) : (execOp ρ o).run P w = .ok (.enter f vs.toArray) w := by
  have e1 : ρ (.func f) = .func (.func f) #[] #[] := h _ _ rfl
  have e2 := opnds_map h xs vs hx
  unfold execOp
  simp [ho, resolve, e1, Deferred.ofValue, invoke, e2, HasF.run hF]
theorem WL.call {f : FuncId} {xs : List Operand} {at_ : Array TypeId} {vs : List Value} {R : Value → World → Prop} (hF : HasF P f) (hx : opnds s xs = some vs) (hd : Nat.blt d n = true) (h : Ret P f vs w R)
    (k : ∀ v w', R v w' → WL P ops K rest n D ((d, v) :: s) w') : WL P ops K (⟨some d, .call ⟨.value (.func f), xs.toArray, at_⟩, ty, pos, af, none⟩ :: rest) n D s w := fun a ha =>
  wpList_plain rfl fun K' hK => by
    unfold Oper.wp
    rw [exec_call hF rfl hx fun x u hx => ha.eval hx]
    exact Calls.mono h fun e w' ⟨v, he, hR⟩ => by subst he; exact hK _ _ (k v w' hR _ (ha.put hd v))
end

/-! ### Guards -/
section
variable {op : Op} {ty : TypeId} {pos : String} {af : Array Edge} {dst : Option Tmp} {d j : Nat} {b : Bool}
theorem yieldedAt {a : Act} (ha : Fr n D s a) {g : Oper} {x : Bool} {t : Nat} (hg : ops[j]? = some g) (ht : g.dst = some t) (hx : look s t = some (.bool x)) : Region.wanted ⟨dst, op, ty, pos, af, some (j, b)⟩ (yielded ops a.tmps) = (x == b) := by
  simp [Region.wanted, yielded, hg, ht, ha.cell t _ hx]

theorem wpList_guard {Q : Exit → Act → World → Prop} {a : Act} {gd : Option (Nat × Bool)} (hw : Region.wanted ⟨dst, op, ty, pos, af, gd⟩ (yielded ops a.tmps) = true) (h : wpList P ops Q (⟨dst, op, ty, pos, af, none⟩ :: rest) a w) : wpList P ops Q (⟨dst, op, ty, pos, af, gd⟩ :: rest) a w := by
  unfold wpList at h ⊢
  rw [if_pos hw]
  rw [if_pos (by simp [Region.wanted])] at h
  exact h
theorem WL.want {g : Oper} {x : Bool} {t : Nat} (hg : ops[j]? = some g) (ht : g.dst = some t) (hx : look s t = some (.bool x)) (hb : (x == b) = true) (k : WL P ops K (⟨dst, op, ty, pos, af, none⟩ :: rest) n D s w) :
    WL P ops K (⟨dst, op, ty, pos, af, some (j, b)⟩ :: rest) n D s w := fun a ha => wpList_guard (by rw [yieldedAt ha hg ht hx]; exact hb) (k a ha)
theorem WL.pass {g : Oper} {x : Bool} {t : Nat} (hg : ops[j]? = some g) (ht : g.dst = some t) (hx : look s t = some (.bool x)) (hb : (x == b) = false) (hd : Nat.blt d n = true) (k : WL P ops K rest n D ((d, undef) :: s) w) :
    WL P ops K (⟨some d, op, ty, pos, af, some (j, b)⟩ :: rest) n D s w := fun a ha => by
  unfold wpList
  rw [if_neg (by rw [yieldedAt ha hg ht hx, hb]; simp)]
  exact k _ (ha.put hd undef)
theorem yieldedU {a : Act} (ha : Fr n D s a) {g : Oper} {t : Nat} (hg : ops[j]? = some g) (ht : g.dst = some t) (hx : look s t = some undef) : Region.wanted ⟨dst, op, ty, pos, af, some (j, b)⟩ (yielded ops a.tmps) = false := by
  simp [Region.wanted, yielded, hg, ht, ha.cell t _ hx, undef]
theorem WL.passU {g : Oper} {t : Nat} (hg : ops[j]? = some g) (ht : g.dst = some t) (hx : look s t = some undef) (hd : Nat.blt d n = true) (k : WL P ops K rest n D ((d, undef) :: s) w) :
    WL P ops K (⟨some d, op, ty, pos, af, some (j, b)⟩ :: rest) n D s w := fun a ha => by
  unfold wpList
  rw [if_neg (by rw [yieldedU ha hg ht hx]; simp)]
  exact k _ (ha.put hd undef)
end
end
end Sx

/- What each operation yields, read off the known slots: one lemma an operation. No condition. -/
namespace Sx
open Go

/-! ### How the world goes on -/
structure Chg (T : List Nat) (w w' : World) : Prop where
  os : w'.os = w.os
  tape : w'.tape = w.tape
  output : w'.output = w.output
  size : w.heap.size ≤ w'.heap.size
  block : ∀ k, k < w.heap.size → k ∉ T → w'.heap[k]? = w.heap[k]?
theorem Chg.refl (T : List Nat) (w : World) : Chg T w w := ⟨rfl, rfl, rfl, Nat.le_refl _, fun _ _ _ => rfl⟩
theorem Chg.trans {T : List Nat} {a b c : World} (h : Chg T a b) (k : Chg T b c) : Chg T a c :=
  ⟨k.os.trans h.os, k.tape.trans h.tape, k.output.trans h.output, Nat.le_trans h.size k.size, fun i hi hn => (k.block i (Nat.lt_of_lt_of_le hi h.size) hn).trans (h.block i hi hn)⟩
theorem Chg.mono {T T' : List Nat} {a b : World} (h : Chg T a b) (hT : ∀ x, x ∈ T → x ∈ T') : Chg T' a b :=
  ⟨h.os, h.tape, h.output, h.size, fun i hi hn => h.block i hi fun hm => hn (hT _ hm)⟩
theorem Chg.any {T : List Nat} {a b : World} (h : Chg [] a b) : Chg T a b := h.mono fun x hx => by cases hx
theorem Chg.below {a b : World} (h : Chg [] a b) : RowKit.Below a.heap.size a b := ⟨h.os, h.tape, h.output, h.size, fun k hk => h.block k hk (by simp)⟩
theorem Chg.heap {T : List Nat} {a b : World} (h : Chg T a b) {k : Nat} {o : Obj} (hk : a.heap[k]? = some o) (hn : k ∉ T) : b.heap[k]? = some o := by
  rw [h.block k ?_ hn]; exact hk
  by_cases hlt : k < a.heap.size
  · exact hlt
  · rw [Array.getElem?_eq_none (by omega)] at hk; cases hk
theorem lt_of_heap {w : World} {k : Nat} {o : Obj} (hk : w.heap[k]? = some o) : k < w.heap.size := by
  by_cases hlt : k < w.heap.size
  · exact hlt
  · rw [Array.getElem?_eq_none (by omega)] at hk; cases hk
theorem Chg.drew (T : List Nat) (w : World) : Chg T w w.drew := ⟨rfl, rfl, rfl, Nat.le_refl _, fun _ _ _ => rfl⟩

structure New (w : World) (b : Nat) (o : Obj) (w' : World) : Prop where
  chg : Chg [] w w'
  at_ : w'.heap[b]? = some o
  is : b = w.heap.size
  size : w'.heap.size = w.heap.size + 1
theorem new_alloc (w : World) (o : Obj) : New w w.heap.size o (w.alloc o) :=
  ⟨⟨rfl, rfl, rfl, by simp, fun k hk _ => RowKit.Below.heap_alloc _ _ _ hk⟩, heap_alloc_new w o, rfl, by simp⟩
structure Upd (w : World) (b : Nat) (o : Obj) (w' : World) : Prop where
  chg : Chg [b] w w'
  at_ : w'.heap[b]? = some o
  size : w'.heap.size = w.heap.size

/-! ### Types -/
class HasT (P : Program) (t : TypeId) (d : outParam TypeDesc) (sz by_ : outParam Nat) (z : outParam Value) : Prop where
  und : P.underlying t = some d
  all : (P.info? t).map (fun i => (i.size, i.bytes, i.zero)) = some (sz, by_, some z)
theorem HasT.inf {P : Program} {t : TypeId} {d : TypeDesc} {sz by_ : Nat} {z : Value} (h : HasT P t d sz by_ z) : ∃ i, P.info? t = some i ∧ i.size = sz ∧ i.bytes = by_ ∧ i.zero = some z := by
  have := h.all
  cases hi : P.info? t with
  | none => rw [hi] at this; cases this
  | some i => rw [hi] at this; simp at this; exact ⟨i, rfl, this.1, this.2.1, this.2.2⟩
def aggD : TypeDesc → Bool
  | .struct _ | .array _ _ => true
  | _ => false

section
variable {P : Program} {t : TypeId} {d : TypeDesc} {sz by_ : Nat} {z : Value} {w : World}
theorem HasT.sizeOf (h : HasT P t d sz by_ z) : (sizeOf t).run P w = .ok sz w := by
  obtain ⟨i, h1, h2, _, _⟩ := h.inf
  simp [Go.sizeOf, typeInfo, h1, h2]
theorem HasT.zero (h : HasT P t d sz by_ z) : (zeroValue t).run P w = .ok z w := by
  obtain ⟨i, h1, _, _, h2⟩ := h.inf
  simp [zeroValue, typeInfo, h1, h2]
theorem HasT.underlying (h : HasT P t d sz by_ z) : (underlying t).run P w = .ok d w := by
  simp [Go.underlying, h.und]
theorem HasT.isAgg (h : HasT P t d sz by_ z) : (isAgg t).run P w = .ok (aggD d) w := by
  have := h.underlying (w := w)
  simp only [Go.isAgg, Sem.run_bind, this, Result.andThen]
  cases d <;> rfl
end

section
variable {P : Program} {s : Sl} {w : World} {ty : TypeId} {x y : Operand}
theorem Ev.move {v : Value} (h : opnd s x = some v) : Ev P s (.move x) ty w v w := fun ρ d pos af g hρ => by
  have := hρ x v h
  simp [execOp, this]
theorem Ev.assign {v : Value} (h : opnd s x = some v) : Ev P s (.assign x) ty w v w := fun ρ d pos af g hρ => by
  have := hρ x v h
  simp [execOp, this]
theorem Ev.pickT {c a b : Operand} {t : Bool} {v : Value} (hc : opnd s c = some (.bool t)) (ht : t = true) (ha : opnd s a = some v) : Ev P s (.pick c a b) ty w v w := fun ρ d pos af g hρ => by
  have h1 := hρ c _ hc
  have h2 := hρ a _ ha
  simp [execOp, h1, h2, asBool, ht]
theorem Ev.pickF {c a b : Operand} {t : Bool} {v : Value} (hc : opnd s c = some (.bool t)) (ht : t = false) (hb : opnd s b = some v) : Ev P s (.pick c a b) ty w v w := fun ρ d pos af g hρ => by
  have h1 := hρ c _ hc
  have h2 := hρ b _ hb
  simp [execOp, h1, h2, asBool, ht]
theorem Ev.extract {l : List Value} {i : Nat} {v : Value} (h : opnd s x = some (.tuple l.toArray)) (hv : l[i]? = some v) : Ev P s (.extract x i) ty w v w := fun ρ d pos af g hρ => by
  have h1 := hρ x _ h
  simp [execOp, h1, Instr.extract, hv]
theorem Ev.nilPtr {a : Addr} (h : opnd s x = some (.pointer (some a))) : Ev P s (.nilCheck x) ty w (.pointer (some a)) w := fun ρ d pos af g hρ => by
  have h1 := hρ x _ h
  simp [execOp, h1]

/-! ### Whole numbers -/
theorem run_bin {op : BinOp} {t t' : TypeId} {u v r : Value} (hx : opnd s x = some u) (hy : opnd s y = some v) (hg : ∀ x y, (eqGuard op t x y u v).run P w = .ok () w) (h : (binOp op t u v).run P w = .ok r w) :
    Ev P s (.binOp op t x y t') ty w r w := fun ρ d pos af g hρ => by
  have h1 := hρ x _ hx
  have h2 := hρ y _ hy
  simp [execOp, h1, h2, hg, h]
theorem eqGuard_int (op : BinOp) (t : TypeId) (x y : Operand) (k k' : IntKind) (a b : Int) : (eqGuard op t x y (.int k a) (.int k' b)).run P w = .ok () w := by
  unfold eqGuard; split <;> simp
theorem eqGuard_float (op : BinOp) (t : TypeId) (x y : Operand) (k k' : FloatKind) (a b : Nat) : (eqGuard op t x y (.float k a) (.float k' b)).run P w = .ok () w := by
  unfold eqGuard; split <;> simp
theorem eqGuard_bool (op : BinOp) (t : TypeId) (x y : Operand) (a b : Bool) : (eqGuard op t x y (.bool a) (.bool b)).run P w = .ok () w := by
  unfold eqGuard; split <;> simp
theorem eqGuard_ptr (op : BinOp) (t : TypeId) (x y : Operand) (a b : Option Addr) : (eqGuard op t x y (.pointer a) (.pointer b)).run P w = .ok () w := by
  unfold eqGuard; split <;> simp

section
variable {t t' : TypeId} {k : IntKind} {a b : Int}
theorem Ev.add (hx : opnd s x = some (.int k a)) (hy : opnd s y = some (.int k b)) : Ev P s (.binOp .add t x y t') ty w (.int k (k.wrap (a + b))) w :=
  run_bin hx hy (fun _ _ => eqGuard_int _ _ _ _ _ _ _ _) (by simp [binOp, Op.intArith])
theorem Ev.sub (hx : opnd s x = some (.int k a)) (hy : opnd s y = some (.int k b)) : Ev P s (.binOp .sub t x y t') ty w (.int k (k.wrap (a - b))) w :=
  run_bin hx hy (fun _ _ => eqGuard_int _ _ _ _ _ _ _ _) (by simp [binOp, Op.intArith])
theorem wrap_in {k : IntKind} {n : Int} (h : k.min ≤ n ∧ n ≤ k.max) : k.wrap n = n := by
  obtain ⟨h1, h2⟩ := h
  cases k <;> simp [IntKind.min, IntKind.max, IntKind.signed, IntKind.bits] at h1 h2 <;> simp [IntKind.wrap, IntKind.signed, IntKind.bits] <;> omega
theorem wrap_i64 {n : Int} (h : -9223372036854775808 ≤ n ∧ n ≤ 9223372036854775807) : IntKind.i64.wrap n = n := IntWalk.i64_in n h
theorem Ev.addIn {a b : Int} (hx : opnd s x = some (.int .i64 a)) (hy : opnd s y = some (.int .i64 b)) (h : -9223372036854775808 ≤ a + b ∧ a + b ≤ 9223372036854775807) : Ev P s (.binOp .add t x y t') ty w (.int .i64 (a + b)) w := by
  have := Ev.add (P := P) (w := w) (ty := ty) (t := t) (t' := t') hx hy
  rwa [wrap_i64 h] at this
theorem Ev.subIn {a b : Int} (hx : opnd s x = some (.int .i64 a)) (hy : opnd s y = some (.int .i64 b)) (h : -9223372036854775808 ≤ a - b ∧ a - b ≤ 9223372036854775807) : Ev P s (.binOp .sub t x y t') ty w (.int .i64 (a - b)) w := by
  have := Ev.sub (P := P) (w := w) (ty := ty) (t := t) (t' := t') hx hy
  rwa [wrap_i64 h] at this
theorem Ev.mul (hx : opnd s x = some (.int k a)) (hy : opnd s y = some (.int k b)) : Ev P s (.binOp .mul t x y t') ty w (.int k (k.wrap (a * b))) w :=
  run_bin hx hy (fun _ _ => eqGuard_int _ _ _ _ _ _ _ _) (by simp [binOp, Op.intArith])
theorem Ev.quo (hx : opnd s x = some (.int k a)) (hy : opnd s y = some (.int k b)) (h : b ≠ 0) : Ev P s (.binOp .quo t x y t') ty w (.int k (k.wrap (a.tdiv b))) w :=
  run_bin hx hy (fun _ _ => eqGuard_int _ _ _ _ _ _ _ _) (by simp [binOp, Op.intDiv, h])
theorem Ev.rem (hx : opnd s x = some (.int k a)) (hy : opnd s y = some (.int k b)) (h : b ≠ 0) : Ev P s (.binOp .rem t x y t') ty w (.int k (a.tmod b)) w :=
  run_bin hx hy (fun _ _ => eqGuard_int _ _ _ _ _ _ _ _) (by simp [binOp, Op.intDiv, h])
theorem Ev.remIn (hx : opnd s x = some (.int k a)) (hy : opnd s y = some (.int k b)) (h0 : 0 ≤ a) (h : 0 < b) : Ev P s (.binOp .rem t x y t') ty w (.int k (a % b)) w := by
  have := Ev.rem (P := P) (w := w) (ty := ty) (t := t) (t' := t') hx hy (by omega)
  rwa [Int.tmod_eq_emod_of_nonneg h0] at this
theorem Ev.quoIn (hx : opnd s x = some (.int k a)) (hy : opnd s y = some (.int k b)) (h0 : 0 ≤ a) (h1 : a ≤ k.max) (h : 0 < b) : Ev P s (.binOp .quo t x y t') ty w (.int k (a / b)) w := by
  have := Ev.quo (P := P) (w := w) (ty := ty) (t := t) (t' := t') hx hy (by omega)
  have h2 := Int.ediv_le_self b h0
  have h3 := Int.ediv_nonneg h0 (by omega : 0 ≤ b)
  have h4 : k.min ≤ 0 := by cases k <;> decide
  rwa [Int.tdiv_eq_ediv_of_nonneg h0, wrap_in ⟨by omega, by omega⟩] at this
theorem Ev.lss (hx : opnd s x = some (.int k a)) (hy : opnd s y = some (.int k b)) : Ev P s (.binOp .lss t x y t') ty w (.bool (decide (a < b))) w :=
  run_bin hx hy (fun _ _ => eqGuard_int _ _ _ _ _ _ _ _) (by simp [binOp, Op.intCmp])
theorem Ev.leq (hx : opnd s x = some (.int k a)) (hy : opnd s y = some (.int k b)) : Ev P s (.binOp .leq t x y t') ty w (.bool (decide (a ≤ b))) w :=
  run_bin hx hy (fun _ _ => eqGuard_int _ _ _ _ _ _ _ _) (by simp [binOp, Op.intCmp])
theorem Ev.gtr (hx : opnd s x = some (.int k a)) (hy : opnd s y = some (.int k b)) : Ev P s (.binOp .gtr t x y t') ty w (.bool (decide (b < a))) w :=
  run_bin hx hy (fun _ _ => eqGuard_int _ _ _ _ _ _ _ _) (by simp [binOp, Op.intCmp])
theorem Ev.geq (hx : opnd s x = some (.int k a)) (hy : opnd s y = some (.int k b)) : Ev P s (.binOp .geq t x y t') ty w (.bool (decide (b ≤ a))) w :=
  run_bin hx hy (fun _ _ => eqGuard_int _ _ _ _ _ _ _ _) (by simp [binOp, Op.intCmp])
theorem Ev.eql (hx : opnd s x = some (.int k a)) (hy : opnd s y = some (.int k b)) : Ev P s (.binOp .eql t x y t') ty w (.bool (decide (a = b))) w :=
  run_bin hx hy (fun _ _ => eqGuard_int _ _ _ _ _ _ _ _) (by simp [binOp, Op.intCmp]; rw [Bool.eq_iff_iff]; simp)
theorem Ev.neq (hx : opnd s x = some (.int k a)) (hy : opnd s y = some (.int k b)) : Ev P s (.binOp .neq t x y t') ty w (.bool (decide (a ≠ b))) w :=
  run_bin hx hy (fun _ _ => eqGuard_int _ _ _ _ _ _ _ _) (by simp [binOp, Op.intCmp]; rw [Bool.eq_iff_iff]; simp)
def bits2 (op : BinOp) (k : IntKind) (a b : Int) : Int :=
  let u := BitVec.ofInt k.bits a
  let v := BitVec.ofInt k.bits b
  match op with
  | .and => k.wrap (u &&& v).toNat
  | .or => k.wrap (u ||| v).toNat
  | .xor => k.wrap (u ^^^ v).toNat
  | .andNot => k.wrap (u &&& ~~~v).toNat
  | _ => 0
theorem Ev.bits {op : BinOp} (hop : (op = .and ∨ op = .or) ∨ (op = .xor ∨ op = .andNot)) (hx : opnd s x = some (.int k a)) (hy : opnd s y = some (.int k b)) : Ev P s (.binOp op t x y t') ty w (.int k (bits2 op k a b)) w :=
  run_bin hx hy (fun _ _ => eqGuard_int _ _ _ _ _ _ _ _) (by rcases hop with (rfl | rfl) | (rfl | rfl) <;> simp [binOp, Op.intBits, bits2])
theorem Ev.and (hx : opnd s x = some (.int k a)) (hy : opnd s y = some (.int k b)) : Ev P s (.binOp .and t x y t') ty w (.int k (bits2 .and k a b)) w := Ev.bits (.inl (.inl rfl)) hx hy
theorem Ev.or (hx : opnd s x = some (.int k a)) (hy : opnd s y = some (.int k b)) : Ev P s (.binOp .or t x y t') ty w (.int k (bits2 .or k a b)) w := Ev.bits (.inl (.inr rfl)) hx hy
theorem Ev.xor (hx : opnd s x = some (.int k a)) (hy : opnd s y = some (.int k b)) : Ev P s (.binOp .xor t x y t') ty w (.int k (bits2 .xor k a b)) w := Ev.bits (.inr (.inl rfl)) hx hy
theorem Ev.andNot (hx : opnd s x = some (.int k a)) (hy : opnd s y = some (.int k b)) : Ev P s (.binOp .andNot t x y t') ty w (.int k (bits2 .andNot k a b)) w := Ev.bits (.inr (.inr rfl)) hx hy
theorem Ev.shl {k' : IntKind} (hx : opnd s x = some (.int k a)) (hy : opnd s y = some (.int k' b)) (h : 0 ≤ b) : Ev P s (.binOp .shl t x y t') ty w (.int k (k.wrap (a * 2 ^ (min b.toNat k.bits)))) w :=
  run_bin hx hy (fun _ _ => eqGuard_int _ _ _ _ _ _ _ _) (by simp [binOp, Op.shift, Int.not_lt.2 h])
theorem Ev.shr {k' : IntKind} (hx : opnd s x = some (.int k a)) (hy : opnd s y = some (.int k' b)) (h : 0 ≤ b) : Ev P s (.binOp .shr t x y t') ty w (.int k (a.fdiv (2 ^ (min b.toNat k.bits)))) w :=
  run_bin hx hy (fun _ _ => eqGuard_int _ _ _ _ _ _ _ _) (by simp [binOp, Op.shift, Int.not_lt.2 h])
theorem Ev.conv {src dst : TypeId} {d d' : TypeDesc} {sz by_ sz' by' : Nat} {z z' : Value} {k' : IntKind} [hs : HasT P src d sz by_ z] [hd : HasT P dst d' sz' by' z'] (hk : d' = .int k') (hx : opnd s x = some (.int k a)) :
    Ev P s (.convert src dst x) ty w (.int k' (k'.wrap a)) w := fun ρ d pos af g hρ => by
  have h1 := hρ x _ hx
  subst hk
  simp [execOp, h1, convert, hs.underlying, hd.underlying, Conv.intToInt]
theorem Ev.neg (hx : opnd s x = some (.int k a)) : Ev P s (.unOp .neg t x) ty w (.int k (k.wrap (0 - a))) w := fun ρ d pos af g hρ => by
  have h1 := hρ x _ hx
  simp [execOp, h1, Op.unary, Op.intArith]
theorem Ev.compl (hx : opnd s x = some (.int k a)) : Ev P s (.unOp .xor t x) ty w (.int k (bits2 .xor k (if k.signed then -1 else k.max) a)) w := fun ρ d pos af g hρ => by
  have h1 := hρ x _ hx
  simp [execOp, h1, Op.unary, Op.intBits, bits2]
end
theorem Ev.not {t : TypeId} {b : Bool} (hx : opnd s x = some (.bool b)) : Ev P s (.unOp .not t x) ty w (.bool !b) w := fun ρ d pos af g hρ => by
  have h1 := hρ x _ hx
  simp [execOp, h1, Op.unary]

/-! ### Floats -/
section
variable {t t' : TypeId} {k : FloatKind} {a b : Nat}
theorem Ev.feql (hx : opnd s x = some (.float k a)) (hy : opnd s y = some (.float k b)) : Ev P s (.binOp .eql t x y t') ty w (.bool (k.format.order a b == some .eq)) w :=
  run_bin hx hy (fun _ _ => eqGuard_float _ _ _ _ _ _ _ _) (by simp [binOp, Op.floatCmp])
theorem Ev.fneq (hx : opnd s x = some (.float k a)) (hy : opnd s y = some (.float k b)) : Ev P s (.binOp .neq t x y t') ty w (.bool (k.format.order a b != some .eq)) w :=
  run_bin hx hy (fun _ _ => eqGuard_float _ _ _ _ _ _ _ _) (by simp [binOp, Op.floatCmp])
theorem Ev.fgtr (hx : opnd s x = some (.float k a)) (hy : opnd s y = some (.float k b)) : Ev P s (.binOp .gtr t x y t') ty w (.bool (k.format.order a b == some .gt)) w :=
  run_bin hx hy (fun _ _ => eqGuard_float _ _ _ _ _ _ _ _) (by simp [binOp, Op.floatCmp])
theorem Ev.fneg (hx : opnd s x = some (.float k a)) : Ev P s (.unOp .neg t x) ty w (.float k (Op.negFloat k a)) w := fun ρ d pos af g hρ => by
  have h1 := hρ x _ hx
  simp [execOp, h1, Op.unary]
end

theorem Ev.ext {f : FuncId} {xs : List Operand} {at_ : Array TypeId} {vs : List Value} {v : Value} (hx : opnds s xs = some vs) (h : (callFunc f vs.toArray).run P w = .ok (.value v) w) : Ev P s (.call ⟨.value (.func f), xs.toArray, at_⟩) ty w v w := fun ρ d pos af g hρ => by
  have e1 : ρ (.func f) = .func (.func f) #[] #[] := hρ _ _ rfl
  have e2 := opnds_map hρ xs vs hx
  simp [execOp, resolve, e1, Deferred.ofValue, invoke, e2, h]

/-! ### Memory -/
section
variable {t : TypeId} {d : TypeDesc} {sz by_ : Nat} {z : Value} {a : Addr}
theorem Ev.load {v : Value} [hT : HasT P t d sz by_ z] (hd : aggD d = false) (hx : opnd s x = some (.pointer (some a))) (hc : w.cell? a = some v) : Ev P s (.load t x) ty w v w := fun ρ d' pos af g hρ => by
  have h1 := hρ x _ hx
  simp [execOp, h1, Instr.loadAt, Instr.sureAddr, loadVar, hT.isAgg, hd, hc]
theorem Ev.loadAgg {cs : List Value} [hT : HasT P t d sz by_ z] (hd : aggD d = true) (hl : cs.length = sz) (hx : opnd s x = some (.pointer (some a))) (hc : ∀ j v, cs[j]? = some v → w.cell? (a.add j) = some v) : Ev P s (.load t x) ty w (.agg cs.toArray) w := fun ρ d' pos af g hρ => by
  have h1 := hρ x _ hx
  have h2 := run_loadCells_list (P := P) w a cs hc
  rw [hl] at h2
  simp [execOp, h1, Instr.loadAt, Instr.sureAddr, loadVar, hT.isAgg, hd, hT.sizeOf, h2]
class HasFld (P : Program) (t : TypeId) (i : Nat) (off : outParam Nat) : Prop where
  run : ∀ (a : Addr) (w : World), (Instr.fieldAt t (.pointer (some a)) i).run P w = .ok (.pointer (some (a.add off))) w
theorem add_addr (b o off : Nat) : Addr.add ⟨b, o, none⟩ off = ⟨b, o + off, none⟩ := by
  unfold Addr.add; split
  · rename_i h; subst h; rfl
  · rfl
theorem Ev.fieldAddr {i b o off : Nat} [hF : HasFld P t i off] (hx : opnd s x = some (.pointer (some ⟨b, o, none⟩))) :
    Ev P s (.fieldAddr t x i) ty w (.pointer (some ⟨b, o + off, none⟩)) w := fun ρ d' pos af g hρ => by
  have h1 := hρ x _ hx
  have h2 := hF.run ⟨b, o, none⟩ w
  rw [add_addr] at h2
  simp [execOp, h1, h2]
end
end
end Sx

/- Memory in the engine: new blocks, stores, slices, make, append, copy. No condition. -/
namespace Sx
open Go

theorem New.ge {w w' : World} {b : Nat} {o : Obj} (h : New w b o w') : w.heap.size ≤ b := by have := h.is; omega
theorem cell_at {w : World} {b i : Nat} {l : List Value} {t : TypeId} {fr : Nat × Nat} (h : w.heap[b]? = some (.cells l.toArray t fr)) : w.cell? ⟨b, i, none⟩ = l[i]? := by
  rw [cell_of_row w b i _ t fr h]; simp
theorem cell_at' {w : World} {b i : Nat} {l : Array Value} {t : TypeId} {fr : Nat × Nat} (h : w.heap[b]? = some (.cells l t fr)) : w.cell? ⟨b, i, none⟩ = l[i]? := cell_of_row w b i _ t fr h
theorem Chg.cell {T : List Nat} {w w' : World} (h : Chg T w w') {p : Addr} {v : Value} (hv : w.cell? p = some v) (hn : p.block ∉ T) : w'.cell? p = some v := by
  rw [World.cell?_of_block (w := w) (h.block _ (block_lt_of_cell hv) hn)]; exact hv

theorem upd_setCell (w : World) (b i : Nat) (l : List Value) (t : TypeId) (v : Value) (h : w.heap[b]? = some (.cells l.toArray t (0, 0))) : Upd w b (.cells (l.set i v).toArray t (0, 0)) (w.setCell ⟨b, i, none⟩ v) := by
  refine ⟨⟨rfl, rfl, rfl, by simp, fun k hk hn => ?_⟩, ?_, by simp⟩
  · exact RowKit.Below.heap_setCell _ _ _ _ (by simpa using hn)
  · rw [heap_setCell_same w b i _ t v h]; simp

section
variable {P : Program} {n : Nat} {D : List Deferred} {s : Sl} {w : World} {ty : TypeId} {x y : Operand} {ops : Array Oper} {K : KK} {rest : List Oper} {pos : String} {af : Array Edge} {d : Nat}

theorem WL.box {t : TypeId} {v : Value} {l : List Value} (hx : opnd s x = some v) (hl : v.cells = l.toArray) (hd : Nat.blt d n = true)
    (k : ∀ b w', New w b (.cells l.toArray t) w' → WL P ops K rest n D ((d, .pointer (some ⟨b, 0, none⟩)) :: s) w') : WL P ops K (⟨some d, .box t x, ty, pos, af, none⟩ :: rest) n D s w :=
  WL.ev (v := .pointer (some ⟨w.heap.size, 0, none⟩)) (w' := w.alloc (.cells l.toArray t)) (fun ρ d' pos af g hρ => by
    have h1 := hρ x _ hx
    simp [execOp, h1, Instr.box, newVar, newRow, hl]) hd (k _ _ (new_alloc _ _))
theorem WL.alloc {t : TypeId} {ds : TypeDesc} {sz by_ : Nat} {z : Value} {l : List Value} [hT : HasT P t ds sz by_ z] (hl : z.cells = l.toArray) (hd : Nat.blt d n = true)
    (k : ∀ b w', New w b (.cells l.toArray t) w' → WL P ops K rest n D ((d, .pointer (some ⟨b, 0, none⟩)) :: s) w') : WL P ops K (⟨some d, .alloc t, ty, pos, af, none⟩ :: rest) n D s w :=
  WL.ev (v := .pointer (some ⟨w.heap.size, 0, none⟩)) (w' := w.alloc (.cells l.toArray t)) (fun ρ d' pos af g hρ => by
    simp [execOp, Instr.alloc, hT.zero, newVar, newRow, hl]) hd (k _ _ (new_alloc _ _))

theorem frozen_no {w : World} {b i : Nat} {l : Array Value} {t : TypeId} (h : w.heap[b]? = some (.cells l t (0, 0))) : w.frozen? ⟨b, i, none⟩ = false := by
  simp [World.frozen?, h]

theorem WL.store {t : TypeId} {ds : TypeDesc} {by_ : Nat} {z : Value} {b i : Nat} {l : List Value} {T : TypeId} {v : Value} [hT : HasT P t ds 1 by_ z] (hx : opnd s x = some (.pointer (some ⟨b, i, none⟩))) (hy : opnd s y = some v) (h1 : v.oneCell' = true)
    (hb : w.heap[b]? = some (.cells l.toArray T (0, 0))) (hi : i < l.length) (k : ∀ w', Upd w b (.cells (l.set i v).toArray T (0, 0)) w' → WL P ops K rest n D s w') : WL P ops K (⟨none, .store t x y, ty, pos, af, none⟩ :: rest) n D s w :=
  WL.evs (w' := w.setCell ⟨b, i, none⟩ v) (fun ρ d' pos af g hρ => by
    have e1 := hρ x _ hx
    have e2 := hρ y _ hy
    have e3 : v.cells = #[v] := by cases v <;> first | rfl | cases h1
    have e4 : w.cell? ⟨b, i, none⟩ = some l[i] := by rw [cell_at hb]; simp [hi]
    have e5 : w.frozen? ⟨b, i, none⟩ = false := frozen_no hb
    simp [execOp, e1, e2, Instr.storeAt, Instr.sureAddr, storeVar, hT.sizeOf, e3, storeCells, Addr.add, run_store _ _ _ _ _ h1, e4, e5]) (k _ (upd_setCell w b i l T v hb))

def splice (l : List Value) (i : Nat) : List Value → List Value
  | [] => l
  | v :: r => splice (l.set i v) (i + 1) r
theorem run_storeCells (b : Nat) (T : TypeId) : ∀ (vs : List Value) (l : List Value) (o j : Nat) (w : World), (∀ v ∈ vs, v.oneCell' = true) → w.heap[b]? = some (.cells l.toArray T (0, 0)) → o + j + vs.length ≤ l.length →
    ∃ w', (storeCells ⟨b, o, none⟩ vs j).run P w = .ok () w' ∧ Upd w b (.cells (splice l (o + j) vs).toArray T (0, 0)) w' := by
  intro vs
  induction vs with
  | nil => intro l o j w _ hb _; exact ⟨w, by simp [storeCells], ⟨Chg.refl _ _, hb, rfl⟩⟩
  | cons v r ih =>
    intro l o j w h1 hb hl
    simp only [List.length_cons] at hl
    have ha : (Addr.add ⟨b, o, none⟩ j) = ⟨b, o + j, none⟩ := by
      unfold Addr.add; split
      · rename_i h; subst h; rfl
      · rfl
    have e4 : w.cell? ⟨b, o + j, none⟩ = some l[o + j] := by rw [cell_at hb]; simp
    have e5 : w.frozen? ⟨b, o + j, none⟩ = false := frozen_no hb
    have hu := upd_setCell w b (o + j) l T v hb
    obtain ⟨w', hr, hu'⟩ := ih (l.set (o + j) v) o (j + 1) (w.setCell ⟨b, o + j, none⟩ v) (fun x hx => h1 x (by simp [hx])) hu.at_ (by simp; omega)
    refine ⟨w', ?_, ⟨hu.chg.trans hu'.chg, hu'.at_, by rw [hu'.size, hu.size]⟩⟩
    simp only [storeCells, Sem.run_bind, ha, run_store _ _ _ _ _ (h1 v (by simp)), e4, e5]
    simpa using hr
theorem WL.storeAgg {t : TypeId} {ds : TypeDesc} {sz by_ : Nat} {z : Value} {b i : Nat} {l vs : List Value} {T : TypeId} [hT : HasT P t ds sz by_ z] (hx : opnd s x = some (.pointer (some ⟨b, i, none⟩))) (hy : opnd s y = some (.agg vs.toArray)) (hs : vs.length = sz) (h1 : ∀ v ∈ vs, v.oneCell' = true)
    (hb : w.heap[b]? = some (.cells l.toArray T (0, 0))) (hi : i + vs.length ≤ l.length) (k : ∀ w', Upd w b (.cells (splice l i vs).toArray T (0, 0)) w' → WL P ops K rest n D s w') : WL P ops K (⟨none, .store t x y, ty, pos, af, none⟩ :: rest) n D s w := by
  obtain ⟨w', hr, hu⟩ := run_storeCells (P := P) b T vs l i 0 w h1 hb (by simpa using hi)
  refine WL.evs (w' := w') (fun ρ d' pos af g hρ => ?_) (k _ (by simpa using hu))
  have e1 := hρ x _ hx
  have e2 := hρ y _ hy
  have e3 : (Value.agg vs.toArray).cells = vs.toArray := rfl
  simp [execOp, e1, e2, Instr.storeAt, Instr.sureAddr, storeVar, hT.sizeOf, e3, hs, hr]

/-! ### Pointers held against each other -/
theorem run_eqIn {w : World} {t : TypeId} {u v : Value} {r : Bool} (h : ∀ d, (Op.equalIn (d + 1) t u v).run P w = .ok r w) : (Op.equal t u v).run P w = .ok r w := h 9999
theorem run_eql_ptr {w : World} {t : TypeId} {a b : Option Addr} {r : Bool} (h : ∀ d, (Op.equalIn (d + 1) t (.pointer a) (.pointer b)).run P w = .ok r w) : (binOp .eql t (.pointer a) (.pointer b)).run P w = .ok (.bool r) w := by
  have := run_eqIn h
  simp only [binOp]
  simp [this]
theorem run_neq_ptr {w : World} {t : TypeId} {a b : Option Addr} {r : Bool} (h : ∀ d, (Op.equalIn (d + 1) t (.pointer a) (.pointer b)).run P w = .ok r w) : (binOp .neq t (.pointer a) (.pointer b)).run P w = .ok (.bool (!r)) w := by
  have := run_eqIn h
  simp only [binOp]
  simp [this]
theorem Ev.eqlPtrNil {t t' e : TypeId} {sz by_ : Nat} {z : Value} {a : Option Addr} [hT : HasT P t (.pointer e) sz by_ z] (hx : opnd s x = some (.pointer a)) (hy : opnd s y = some (.pointer none)) : Ev P s (.binOp .eql t x y t') ty w (.bool a.isNone) w :=
  run_bin hx hy (fun _ _ => eqGuard_ptr _ _ _ _ _ _) (run_eql_ptr fun d => by
    cases a <;> simp [Op.equalIn, hT.underlying])
theorem Ev.neqPtrNil {t t' e : TypeId} {sz by_ : Nat} {z : Value} {a : Option Addr} [hT : HasT P t (.pointer e) sz by_ z] (hx : opnd s x = some (.pointer a)) (hy : opnd s y = some (.pointer none)) : Ev P s (.binOp .neq t x y t') ty w (.bool (!a.isNone)) w :=
  run_bin hx hy (fun _ _ => eqGuard_ptr _ _ _ _ _ _) (run_neq_ptr fun d => by
    cases a <;> simp [Op.equalIn, hT.underlying])

/-! ### Results that lie in memory -/
def rdR (tmps : Array Value) : ResultVar → Sem Value
  | .tmp t => pure (tmps.getD t undef)
  | .cell a t => do loadVar t (← asAddr (tmps.getD a undef))
def RVal (P : Program) (n : Nat) (D : List Deferred) (s : Sl) (w : World) (r : ResultVar) (v : Value) : Prop := ∀ a, Fr n D s a → (rdR a.tmps r).run P w = .ok v w
theorem loadVar_one {t : TypeId} {ds : TypeDesc} {sz by_ : Nat} {z v : Value} {a : Addr} [hT : HasT P t ds sz by_ z] (hd : aggD ds = false) (hc : w.cell? a = some v) : (loadVar t a).run P w = .ok v w := by
  simp [loadVar, hT.isAgg, hd, hc]
theorem loadVar_agg {t : TypeId} {ds : TypeDesc} {sz by_ : Nat} {z : Value} {a : Addr} {cs : List Value} [hT : HasT P t ds sz by_ z] (hd : aggD ds = true) (hl : cs.length = sz) (hc : ∀ j v, cs[j]? = some v → w.cell? (a.add j) = some v) : (loadVar t a).run P w = .ok (.agg cs.toArray) w := by
  have h2 := run_loadCells_list (P := P) w a cs hc
  rw [hl] at h2
  simp [loadVar, hT.isAgg, hd, hT.sizeOf, h2]
theorem RVal.tmp {t : Nat} {v : Value} (h : look s t = some v) : RVal P n D s w (.tmp t) v := fun a ha => by
  simp only [rdR, ha.getD h]; rfl
theorem RVal.cell {t a : Nat} {ad : Addr} {v : Value} (h : look s a = some (.pointer (some ad))) (hl : (loadVar t ad).run P w = .ok v w) : RVal P n D s w (.cell a t) v := fun b hb => by
  simp [rdR, hb.getD h, asAddr, hl]
theorem results_rdR (fn : Func) (tmps : Array Value) : results fn tmps = (do let vs ← fn.results.mapM (rdR tmps); pure (if h : vs.size = 1 then vs[0] else .tuple vs)) := rfl
theorem bodyA.retR1 {fn : Func} {R : Value → World → Prop} {r : ResultVar} {v : Value} (hr : fn.results = #[r]) (h : RVal P n [] s w r v) (hR : R v w) : bodyA P fn n R .ret [] s w :=
  bodyA.mk (.inl rfl) (fun a ha => by rw [results_rdR, hr]; simp [h a ha]) hR
theorem bodyA.retR2 {fn : Func} {R : Value → World → Prop} {r q : ResultVar} {v u : Value} (hr : fn.results = #[r, q]) (h : RVal P n [] s w r v) (h2 : RVal P n [] s w q u) (hR : R (.tuple [v, u].toArray) w) : bodyA P fn n R .ret [] s w :=
  bodyA.mk (.inl rfl) (fun a ha => by rw [results_rdR, hr]; simp [h a ha, h2 a ha]) hR
theorem bodyA.retR3 {fn : Func} {R : Value → World → Prop} {r q p : ResultVar} {v u x : Value} (hr : fn.results = #[r, q, p]) (h : RVal P n [] s w r v) (h2 : RVal P n [] s w q u) (h3 : RVal P n [] s w p x) (hR : R (.tuple [v, u, x].toArray) w) : bodyA P fn n R .ret [] s w :=
  bodyA.mk (.inl rfl) (fun a ha => by rw [results_rdR, hr]; simp [h a ha, h2 a ha, h3 a ha]) hR

/-! ### Structs -/
theorem und_inj {P : Program} {t : TypeId} {fs gs : Array Field} (h : P.underlying t = some (.struct fs)) (g : P.underlying t = some (.struct gs)) : gs = fs := by
  rw [h] at g; injection g with g; injection g with g; exact g.symm
class HasB (P : Program) (t : TypeId) (pl : outParam (Array (Nat × Nat))) : Prop where
  run : ∀ (w : World) (fs : Array Field), P.underlying t = some (.struct fs) → (fs.mapM fun f : Field => (do pure (f.offset, ← sizeOf f.type) : Sem (Nat × Nat))).run P w = .ok pl w
def opndP (s : Sl) : List (Nat × Operand) → Option (List (Nat × Value))
  | [] => some []
  | (i, x) :: r => match opnd s x, opndP s r with
    | some v, some vs => some ((i, v) :: vs)
    | _, _ => none
theorem opndP_map {s : Sl} {ρ : Operand → Value} (h : ∀ x u, opnd s x = some u → ρ x = u) : ∀ (l : List (Nat × Operand)) vs, opndP s l = some vs → l.map (fun p => (p.1, ρ p.2)) = vs
  | [], vs, he => by simp only [opndP] at he; cases he; rfl
  | (i, x) :: r, vs, he => by
    simp only [opndP] at he
    split at he
    · rename_i v vs' h1 h2
      cases he
      simp [h x v h1, opndP_map h r vs' h2]
    · cases he
theorem Ev.build {t : TypeId} {fs : Array Field} {sz by_ : Nat} {z : Value} {ps : List (Nat × Operand)} {vs : List (Nat × Value)} {pl : Array (Nat × Nat)} {cs : List Value} [hT : HasT P t (.struct fs) sz by_ z] [hB : HasB P t pl]
    (hx : opndP s ps = some vs) (hf : Instr.fill (pl[·]?) z.cells vs = some cs.toArray) : Ev P s (.build t ps.toArray) ty w (.agg cs.toArray) w := fun ρ d' pos af g hρ => by
  have h1 := opndP_map hρ ps vs hx
  have h2 := hB.run w fs hT.und
  simp only [bind_pure_comp] at h2
  simp [execOp, Instr.build, hT.zero, hT.underlying, h1, h2, hf]
theorem WL.buildSlice {t e : TypeId} {de : TypeDesc} {sz by_ es be : Nat} {z ze : Value} {ps : List (Nat × Operand)} {vs : List (Nat × Value)} {cs : List Value} {m : Nat} {ops : Array Oper} {K : KK} {rest : List Oper} {pos : String} {af : Array Edge} {d : Nat} [hT : HasT P t (.slice e) sz by_ z] [hE : HasT P e de es be ze]
    (hm : m * es ≤ 2 ^ 24) (hp : 0 < m * es) (hx : opndP s ps = some vs) (hf : Instr.fill (fun i => some (i * es, es)) ((Array.range (m * es)).map (ze.cells[· % ze.cells.size]!)) vs = some cs.toArray) (hd : Nat.blt d n = true)
    (k : ∀ b w', New w b (.cells cs.toArray e) w' → WL P ops K rest n D ((d, .slice (some ⟨b, 0, none⟩) m m) :: s) w') : WL P ops K (⟨some d, .buildSlice t m ps.toArray, ty, pos, af, none⟩ :: rest) n D s w :=
  WL.ev (v := .slice (some ⟨w.heap.size, 0, none⟩) m m) (w' := w.alloc (.cells cs.toArray e)) (fun ρ d' pos af g hρ => by
    have h1 := opndP_map hρ ps vs hx
    have h3 : ¬ (16777216 < m * es) := by have : (2 : Nat) ^ 24 = 16777216 := rfl; omega
    have h4 : ¬ (m * es = 0) := by omega
    have h5 : ¬ (m = 0 ∨ es = 0) := by
      intro h; rcases h with h | h <;> simp [h] at hp
    simp [execOp, Instr.buildSlice, hT.underlying, hE.sizeOf, hE.zero, h1, h3, h5, hf, newRow]
    intro h; exact absurd h h4) hd (k _ _ (new_alloc _ _))

/-! ### Slices -/
theorem Ev.len {t : TypeId} {a : Option Addr} {m c e : Nat} {sz by_ : Nat} {z : Value} [hT : HasT P t (.slice e) sz by_ z] (hx : opnd s x = some (.slice a m c)) : Ev P s (.call ⟨.builtin .len, [x].toArray, #[t]⟩) ty w (.int .i64 (m : Int)) w := fun ρ d' pos af g hρ => by
  have e1 := hρ x _ hx
  simp [execOp, resolve, invoke, builtin, e1, Builtin.len_, hT.underlying, goInt]
theorem Ev.indexAddr {t : TypeId} {b o m c e : Nat} {es be : Nat} {k : IntKind} {i : Int} {de : TypeDesc} {ze : Value} {sz by_ : Nat} {z : Value} [hT : HasT P t (.slice e) sz by_ z] [hE : HasT P e de es be ze] (hx : opnd s x = some (.slice (some ⟨b, o, none⟩) m c)) (hy : opnd s y = some (.int k i)) (h0 : 0 ≤ i) (h1 : i < m) :
    Ev P s (.indexAddr t x y) ty w (.pointer (some ⟨b, o + i.toNat * es, none⟩)) w := fun ρ d' pos af g hρ => by
  have e1 := hρ x _ hx
  have e2 := hρ y _ hy
  have ha : (Addr.add ⟨b, o, none⟩ (i.toNat * es)) = ⟨b, o + i.toNat * es, none⟩ := by
    unfold Addr.add; split
    · rename_i h; rw [h]; rfl
    · rfl
  simp [execOp, e1, e2, Instr.indexAt, asIntOf, hT.underlying, h0, h1, hE.sizeOf, ha]
theorem Ev.indexAddrArr {t : TypeId} {b o m e : Nat} {es be : Nat} {k : IntKind} {i : Int} {de : TypeDesc} {ze : Value} {sz by_ : Nat} {z : Value} [hT : HasT P t (.array m e) sz by_ z] [hE : HasT P e de es be ze] (hx : opnd s x = some (.pointer (some ⟨b, o, none⟩))) (hy : opnd s y = some (.int k i)) (h0 : 0 ≤ i) (h1 : i < m) :
    Ev P s (.indexAddr t x y) ty w (.pointer (some ⟨b, o + i.toNat * es, none⟩)) w := fun ρ d' pos af g hρ => by
  have e1 := hρ x _ hx
  have e2 := hρ y _ hy
  have ha : (Addr.add ⟨b, o, none⟩ (i.toNat * es)) = ⟨b, o + i.toNat * es, none⟩ := by
    unfold Addr.add; split
    · rename_i h; rw [h]; rfl
    · rfl
  simp [execOp, e1, e2, Instr.indexAt, Instr.sureAddr, asIntOf, hT.underlying, h0, h1, hE.sizeOf, ha]

def cutAt (a : Option Addr) (l m es : Nat) : Option Addr := if m = l then a else a.map (·.add (l * es))
theorem Ev.sliceL {t : TypeId} {a : Option Addr} {m c e : Nat} {es be : Nat} {k : IntKind} {lo : Int} {de : TypeDesc} {ze : Value} {sz by_ : Nat} {z : Value} {p : Operand} [hT : HasT P t (.slice e) sz by_ z] [hE : HasT P e de es be ze]
    (hx : opnd s x = some (.slice a m c)) (hp : opnd s p = some (.int k lo)) (h0 : 0 ≤ lo) (h1 : lo ≤ m) :
    Ev P s (.slice t x (some p) none none) ty w (.slice (cutAt a lo.toNat c es) (m - lo.toNat) (c - lo.toNat)) w := fun ρ d' pos af g hρ => by
  have e1 := hρ x _ hx
  have e2 := hρ p _ hp
  simp [execOp, e1, e2, Instr.sliceAt, Instr.slice, hT.underlying, Instr.sliceBounds, Instr.sliceBound, asIntOf, h0, h1, hE.sizeOf, cutAt]
theorem Ev.sliceH {t : TypeId} {a : Option Addr} {m c e : Nat} {es be : Nat} {k' : IntKind} {hi : Int} {de : TypeDesc} {ze : Value} {sz by_ : Nat} {z : Value} {q : Operand} [hT : HasT P t (.slice e) sz by_ z] [hE : HasT P e de es be ze]
    (hx : opnd s x = some (.slice a m c)) (hq : opnd s q = some (.int k' hi)) (h1 : 0 ≤ hi) (h2 : hi ≤ c) :
    Ev P s (.slice t x none (some q) none) ty w (.slice a hi.toNat c) w := fun ρ d' pos af g hρ => by
  have e1 := hρ x _ hx
  have e3 := hρ q _ hq
  simp [execOp, e1, e3, Instr.sliceAt, Instr.slice, hT.underlying, Instr.sliceBounds, Instr.sliceBound, asIntOf, h1, h2, hE.sizeOf]
  intro _; cases a <;> simp [Addr.add]

theorem WL.make {t : TypeId} {e es be : Nat} {kl kc : IntKind} {l c : Int} {de : TypeDesc} {ze : Value} {sz by_ : Nat} {z : Value} [hT : HasT P t (.slice e) sz by_ z] [hE : HasT P e de es be ze] (hx : opnd s x = some (.int kl l)) (hy : opnd s y = some (.int kc c))
    (h0 : 0 ≤ l) (hlc : l ≤ c) (hb : (be : Int) * c ≤ 281474976710656) (h63 : c ≤ 9223372036854775807) (hd : Nat.blt d n = true)
    (k : ∀ b w', New w b (.cells (madeCells ze.cells (c.toNat * es)) e) w' → WL P ops K rest n D ((d, .slice (some ⟨b, 0, none⟩) l.toNat c.toNat) :: s) w') : WL P ops K (⟨some d, .makeSlice t x y, ty, pos, af, none⟩ :: rest) n D s w := by
  obtain ⟨i, hi, hi1, hi2, hi3⟩ := hE.inf
  refine WL.ev (v := .slice (some ⟨w.heap.size, 0, none⟩) l.toNat c.toNat) (w' := w.alloc (.cells (madeCells ze.cells (c.toNat * es)) e)) (fun ρ d' pos af g hρ => ?_) hd (k _ _ (new_alloc _ _))
  have e1 := hρ x _ hx
  have e2 := hρ y _ hy
  have := run_make (P := P) w t e i ze hT.und hi hi3 kl kc l c h0 hlc (by rw [hi2]; exact hb) h63
  rw [hi1] at this
  simp [execOp, e1, e2, this]

theorem own_keep {w w' : World} {T : List Nat} {e sz : Nat} {v : Value} {m : Nat} {xs : List Value} (h : w.ownsRow 0 e sz v m xs) (hc : Chg T w w') (hn : ∀ b, v.ownBlock = some b → b ∉ T) : w'.ownsRow 0 e sz v m xs := by
  obtain ⟨h1, h2⟩ := h
  refine ⟨h1, ?_⟩
  rcases h2 with h2 | ⟨g, cap, cur, rfl, a1, a2, a3⟩
  · exact .inl h2
  · exact .inr ⟨g, cap, cur, rfl, a1, hc.heap a2 (hn g rfl), a3⟩
theorem own_form {w : World} {e sz : Nat} {v : Value} {m : Nat} {xs : List Value} (h : w.ownsRow 0 e sz v m xs) : ∃ a cap, v = .slice a m cap := by
  rcases h.2 with ⟨rfl, rfl⟩ | ⟨g, cap, cur, rfl, _⟩
  · exact ⟨_, _, rfl⟩
  · exact ⟨_, _, rfl⟩
theorem own_cell {w : World} {e sz : Nat} {a : Option Addr} {m n cap : Nat} {xs : List Value} (h : w.ownsRow 0 e sz (.slice a n cap) m xs) (hp : 0 < xs.length) : ∃ g, a = some ⟨g, 0, none⟩ ∧ ∀ j x, xs[j]? = some x → w.cell? ⟨g, j, none⟩ = some x := by
  obtain ⟨h1, h2⟩ := h
  rcases h2 with ⟨_, rfl⟩ | ⟨g, cp, cur, hv, _, hh, _, _, hcs, ht⟩
  · simp at h1; rw [h1] at hp; simp at hp
  · injection hv with hv1 hv2 hv3
    refine ⟨g, hv1, fun j x hj => ?_⟩
    rw [cell_at' hh]
    have hjl : j < m * sz := by
      rw [← h1]
      by_cases hlt : j < xs.length
      · exact hlt
      · rw [List.getElem?_eq_none (by omega)] at hj; cases hj
    rw [← ht, List.getElem?_take, if_pos hjl] at hj
    simpa using hj
theorem own_lt {w : World} {e sz : Nat} {v : Value} {m : Nat} {xs : List Value} (h : w.ownsRow 0 e sz v m xs) {b : Nat} (hb : v.ownBlock = some b) : b < w.heap.size := by
  rcases h.2 with ⟨rfl, _⟩ | ⟨g, cap, cur, rfl, _, a2, _⟩
  · cases hb
  · cases hb; exact lt_of_heap a2

theorem WL.append {t e es be : Nat} {de : TypeDesc} {ze : Value} {sz by_ : Nat} {z : Value} {v : Value} {m : Nat} {xs : List Value} {ad : Addr} {mm c : Nat} {news : List Value} [hT : HasT P t (.slice e) sz by_ z] [hE : HasT P e de es be ze]
    (hzs : ze.cells.size = es) (hsz : 0 < es) (hx : opnd s x = some v) (hy : opnd s y = some (.slice (some ad) mm c)) (hown : w.ownsRow 0 e es v m xs) (hl : news.length = mm * es) (hnews : ∀ j u, news[j]? = some u → w.cell? (ad.add j) = some u) (h1 : ∀ u ∈ news, u.oneCell' = true)
    (h63 : m + mm ≤ maxLen) (hbytes : (m + mm) * be ≤ 140737488355328) (hd : Nat.blt d n = true)
    (k : ∀ v' w', w'.ownsRow 0 e es v' (m + mm) (xs ++ news) → Chg v.ownBlock.toList w w' → (v'.ownBlock = v.ownBlock ∨ v'.ownBlock = some w.heap.size) → WL P ops K rest n D ((d, v') :: s) w') :
    WL P ops K (⟨some d, .call ⟨.builtin .append, [x, y].toArray, #[t, t]⟩, ty, pos, af, none⟩ :: rest) n D s w := by
  obtain ⟨i, hi, hi1, hi2, hi3⟩ := hE.inf
  obtain ⟨v', w', hr, ho, hg, _, hloc⟩ := run_append_own_at (P := P) w 0 t ty e i ze es be hT.und hi hi3 hi1 hi2 hzs hsz v m xs hown ad mm c news hl hnews h1 h63 hbytes (Nat.zero_le _)
  refine WL.ev (v := v') (w' := w') (fun ρ d' pos af g hρ => ?_) hd (k _ _ ho ⟨hg.os, hg.tape, hg.output, hg.size, fun j hj hn => hg.block j hj fun he => hn ?_⟩ hloc)
  · have e1 := hρ x _ hx
    have e2 := hρ y _ hy
    simp [execOp, resolve, invoke, builtin, e1, e2, hr]
  · rw [← he]; simp
theorem evS_storeAgg {t : TypeId} {ds : TypeDesc} {sz by_ : Nat} {z : Value} {b i : Nat} {l vs : List Value} {T : TypeId} [hT : HasT P t ds sz by_ z] (hx : opnd s x = some (.pointer (some ⟨b, i, none⟩))) (hy : opnd s y = some (.agg vs.toArray)) (hs : vs.length = sz) (h1 : ∀ v ∈ vs, v.oneCell' = true)
    (hb : w.heap[b]? = some (.cells l.toArray T (0, 0))) (hi : i + vs.length ≤ l.length) : ∃ w', EvS P s (.store t x y) ty w w' ∧ Upd w b (.cells (splice l i vs).toArray T (0, 0)) w' := by
  obtain ⟨w', hr, hu⟩ := run_storeCells (P := P) b T vs l i 0 w h1 hb (by simpa using hi)
  refine ⟨w', fun ρ d' pos af g hρ => ?_, by simpa using hu⟩
  have e1 := hρ x _ hx
  have e2 := hρ y _ hy
  have e3 : (Value.agg vs.toArray).cells = vs.toArray := rfl
  simp [execOp, e1, e2, Instr.storeAt, Instr.sureAddr, storeVar, hT.sizeOf, e3, hs, hr]
theorem own_cases {w : World} {e sz : Nat} {v : Value} {m : Nat} {xs : List Value} (h : w.ownsRow 0 e sz v m xs) : (v = .slice none 0 0 ∧ m = 0 ∧ xs = []) ∨ ∃ g cap, v = .slice (some ⟨g, 0, none⟩) m cap ∧ m ≤ cap ∧ g < w.heap.size ∧ ∀ j x, xs[j]? = some x → w.cell? ⟨g, j, none⟩ = some x := by
  have hf := @own_cell w e sz
  obtain ⟨h1, h2⟩ := h
  rcases h2 with ⟨rfl, rfl⟩ | ⟨g, cp, cur, rfl, a1, a2, a3, a4, a5⟩
  · exact .inl ⟨rfl, rfl, List.length_eq_zero_iff.1 (by omega)⟩
  · refine .inr ⟨g, cp, rfl, a3, lt_of_heap a2, fun j x hj => ?_⟩
    by_cases hp : 0 < xs.length
    · obtain ⟨g', hg, hc⟩ := own_cell (a := some ⟨g, 0, none⟩) (cap := cp) ⟨h1, .inr ⟨g, cp, cur, rfl, a1, a2, a3, a4, a5⟩⟩ hp
      injection hg with hg; injection hg with hg; subst hg
      exact hc j x hj
    · rw [List.getElem?_eq_none (by omega)] at hj; cases hj
theorem ev_append {t e es be : Nat} {de : TypeDesc} {ze : Value} {sz by_ : Nat} {z : Value} {v : Value} {m : Nat} {xs : List Value} {ad : Addr} {mm c : Nat} {news : List Value} [hT : HasT P t (.slice e) sz by_ z] [hE : HasT P e de es be ze]
    (hzs : ze.cells.size = es) (hsz : 0 < es) (hx : opnd s x = some v) (hy : opnd s y = some (.slice (some ad) mm c)) (hown : w.ownsRow 0 e es v m xs) (hl : news.length = mm * es) (hnews : ∀ j u, news[j]? = some u → w.cell? (ad.add j) = some u) (h1 : ∀ u ∈ news, u.oneCell' = true)
    (h63 : m + mm ≤ maxLen) (hbytes : (m + mm) * be ≤ 140737488355328) :
    ∃ v' w', Ev P s (.call ⟨.builtin .append, [x, y].toArray, #[t, t]⟩) ty w v' w' ∧ w'.ownsRow 0 e es v' (m + mm) (xs ++ news) ∧ Chg v.ownBlock.toList w w' ∧ (v'.ownBlock = v.ownBlock ∨ v'.ownBlock = some w.heap.size) := by
  obtain ⟨i, hi, hi1, hi2, hi3⟩ := hE.inf
  obtain ⟨v', w', hr, ho, hg, _, hloc⟩ := run_append_own_at (P := P) w 0 t ty e i ze es be hT.und hi hi3 hi1 hi2 hzs hsz v m xs hown ad mm c news hl hnews h1 h63 hbytes (Nat.zero_le _)
  refine ⟨v', w', fun ρ d' pos af g hρ => ?_, ho, ⟨hg.os, hg.tape, hg.output, hg.size, fun j hj hn => hg.block j hj fun he => hn ?_⟩, hloc⟩
  · have e1 := hρ x _ hx
    have e2 := hρ y _ hy
    simp [execOp, resolve, invoke, builtin, e1, e2, hr]
  · rw [← he]; simp
theorem ev_buildSlice {t e : TypeId} {de : TypeDesc} {sz by_ es be : Nat} {z ze : Value} {ps : List (Nat × Operand)} {vs : List (Nat × Value)} {cs : List Value} {m : Nat} [hT : HasT P t (.slice e) sz by_ z] [hE : HasT P e de es be ze]
    (hm : m * es ≤ 2 ^ 24) (hp : 0 < m * es) (hx : opndP s ps = some vs) (hf : Instr.fill (fun i => some (i * es, es)) ((Array.range (m * es)).map (ze.cells[· % ze.cells.size]!)) vs = some cs.toArray) :
    ∃ b w', Ev P s (.buildSlice t m ps.toArray) ty w (.slice (some ⟨b, 0, none⟩) m m) w' ∧ New w b (.cells cs.toArray e) w' :=
  ⟨w.heap.size, w.alloc (.cells cs.toArray e), fun ρ d' pos af g hρ => by
    have h1 := opndP_map hρ ps vs hx
    have h3 : ¬ (16777216 < m * es) := by have : (2 : Nat) ^ 24 = 16777216 := rfl; omega
    have h4 : ¬ (m * es = 0) := by omega
    have h5 : ¬ (m = 0 ∨ es = 0) := by
      intro h; rcases h with h | h <;> simp [h] at hp
    simp [execOp, Instr.buildSlice, hT.underlying, hE.sizeOf, hE.zero, h1, h3, h5, hf, newRow]
    intro h; exact absurd h h4, new_alloc _ _⟩
theorem Ev.indexAddrG {t : TypeId} {ad : Addr} {m c e : Nat} {es be : Nat} {k : IntKind} {i : Int} {de : TypeDesc} {ze : Value} {sz by_ : Nat} {z : Value} [hT : HasT P t (.slice e) sz by_ z] [hE : HasT P e de es be ze] (hx : opnd s x = some (.slice (some ad) m c)) (hy : opnd s y = some (.int k i)) (h0 : 0 ≤ i) (h1 : i < m) :
    Ev P s (.indexAddr t x y) ty w (.pointer (some (ad.add (i.toNat * es)))) w := fun ρ d' pos af g hρ => by
  have e1 := hρ x _ hx
  have e2 := hρ y _ hy
  simp [execOp, e1, e2, Instr.indexAt, asIntOf, hT.underlying, h0, h1, hE.sizeOf]
theorem Ev.eql_bool {t t' : TypeId} {sz by_ : Nat} {z : Value} {a b : Bool} [hT : HasT P t .bool sz by_ z] (hx : opnd s x = some (.bool a)) (hy : opnd s y = some (.bool b)) : Ev P s (.binOp .eql t x y t') ty w (.bool (a == b)) w :=
  run_bin hx hy (fun _ _ => eqGuard_bool _ _ _ _ _ _) (by
    have := run_eqIn (P := P) (w := w) (t := t) (u := .bool a) (v := .bool b) (r := a == b) fun d => by simp [Op.equalIn, hT.underlying]
    simp only [binOp]
    simp [this])
theorem evS_store {t : TypeId} {ds : TypeDesc} {by_ : Nat} {z : Value} {b i : Nat} {l : List Value} {T : TypeId} {v : Value} [hT : HasT P t ds 1 by_ z] (hx : opnd s x = some (.pointer (some ⟨b, i, none⟩))) (hy : opnd s y = some v) (h1 : v.oneCell' = true)
    (hb : w.heap[b]? = some (.cells l.toArray T (0, 0))) (hi : i < l.length) : EvS P s (.store t x y) ty w (w.setCell ⟨b, i, none⟩ v) ∧ Upd w b (.cells (l.set i v).toArray T (0, 0)) (w.setCell ⟨b, i, none⟩ v) :=
  ⟨fun ρ d' pos af g hρ => by
    have e1 := hρ x _ hx
    have e2 := hρ y _ hy
    have e3 : v.cells = #[v] := by cases v <;> first | rfl | cases h1
    have e4 : w.cell? ⟨b, i, none⟩ = some l[i] := by rw [cell_at hb]; simp [hi]
    have e5 : w.frozen? ⟨b, i, none⟩ = false := frozen_no hb
    simp [execOp, e1, e2, Instr.storeAt, Instr.sureAddr, storeVar, hT.sizeOf, e3, storeCells, Addr.add, run_store _ _ _ _ _ h1, e4, e5], upd_setCell w b i l T v hb⟩
end
end Sx

/- Statements whose order Go leaves open, in the engine. No condition. -/
namespace Sx
open Go

def postS (n : Nat) (K : List Deferred → Sl → Prop) : Act → Prop := fun a => ∃ D s, Fr n D s a ∧ K D s
def WS (P : Program) (ops : Array Oper) (K : List Deferred → Sl → Prop) (l : List Oper) (n : Nat) (D : List Deferred) (s : Sl) (w : World) : Prop := ∀ a, Fr n D s a → wpStill P ops w (postS n K) l a

section
variable {P : Program} {A : AQ} {n : Nat} {D : List Deferred} {s : Sl} {w : World} {ops : Array Oper} {K : List Deferred → Sl → Prop} {rest : List Oper}
variable {op : Op} {ty : TypeId} {pos : String} {af : Array Edge} {dst : Option Tmp} {d j : Nat} {b : Bool} {v : Value}
theorem WS.nil (h : K D s) : WS P ops K [] n D s w := fun a ha => wpStill_nil ⟨D, s, ha, h⟩
theorem still_want {o : Oper} {a : Act} {Q : Act → Prop} (hw : Region.wanted o (yielded ops a.tmps) = true) (h : ∀ K' : Act → Prop, (∀ a, wpStill P ops w Q rest a → K' a) → o.still P a w K') : wpStill P ops w Q (o :: rest) a :=
  wpStill_step fun K' hK => by rw [if_pos hw]; exact h K' hK
theorem WS.ev (he : Ev P s op ty w v w) (hd : Nat.blt d n = true) (k : WS P ops K rest n D ((d, v) :: s) w) : WS P ops K (⟨some d, op, ty, pos, af, none⟩ :: rest) n D s w := fun a ha =>
  still_want (by simp [Region.wanted]) fun K' hK => by
    unfold Oper.still
    rw [he a.eval (some d) pos af none fun x u hx => ha.eval hx, Oper.stillUpon_value]
    exact hK _ (k _ (ha.put hd v))
theorem WS.call {f : FuncId} {xs : List Operand} {at_ : Array TypeId} {vs : List Value} (hF : HasF P f) (hx : opnds s xs = some vs) (hd : Nat.blt d n = true) (h : Ret P f vs w fun u w' => u = v ∧ w = w')
    (k : WS P ops K rest n D ((d, v) :: s) w) : WS P ops K (⟨some d, .call ⟨.value (.func f), xs.toArray, at_⟩, ty, pos, af, none⟩ :: rest) n D s w := fun a ha =>
  still_want (by simp [Region.wanted]) fun K' hK => by
    unfold Oper.still
    rw [exec_call hF rfl hx fun x u hx => ha.eval hx]
    exact ⟨rfl, v, Calls.mono h fun e w' ⟨u, he, hu, hw⟩ => ⟨by rw [he, hu], hw.symm⟩, hK _ (k _ (ha.put hd v))⟩
theorem WS.want {g : Oper} {x : Bool} {t : Nat} (hg : ops[j]? = some g) (ht : g.dst = some t) (hx : look s t = some (.bool x)) (hb : (x == b) = true) (k : WS P ops K (⟨dst, op, ty, pos, af, none⟩ :: rest) n D s w) :
    WS P ops K (⟨dst, op, ty, pos, af, some (j, b)⟩ :: rest) n D s w := fun a ha => by
  have h := k a ha
  unfold wpStill at h ⊢
  rw [if_pos (by rw [yieldedAt ha hg ht hx]; exact hb)]
  rw [if_pos (by simp [Region.wanted])] at h
  exact h
theorem WS.pass {g : Oper} {x : Bool} {t : Nat} (hg : ops[j]? = some g) (ht : g.dst = some t) (hx : look s t = some (.bool x)) (hb : (x == b) = false) (hd : Nat.blt d n = true) (k : WS P ops K rest n D ((d, undef) :: s) w) :
    WS P ops K (⟨some d, op, ty, pos, af, some (j, b)⟩ :: rest) n D s w := fun a ha => by
  unfold wpStill
  rw [if_neg (by rw [yieldedAt ha hg ht hx, hb]; simp)]
  exact k _ (ha.put hd undef)

theorem still_mono {Q Q' : Act → Prop} (h : ∀ a, Q a → Q' a) : ∀ (l : List Oper) (a : Act), wpStill P ops w Q l a → wpStill P ops w Q' l a
  | [], a, hh => h a hh
  | o :: r, a, hh => by
    unfold wpStill at hh ⊢
    split
    · rename_i hw; rw [if_pos hw] at hh; exact Oper.still_mono (still_mono h r) hh
    · rename_i hw; rw [if_neg hw] at hh; exact still_mono h r _ hh

theorem CW.regionS {id : Nat} {l : List Oper} (hm : P.follows .mixedOrders = true) (hB : Region.lexB .any l.toArray = true)
    (h : ∀ K : List Deferred → Sl → Prop, (∀ D s, A .normal D s w.drew → K D s) → WS P l.toArray K l n D s w.drew) : CW P (.region id l.toArray true) A n D s w := fun a ha =>
  wp_region_still_lit hm hB (still_mono (fun a ⟨D, s, hf, hk⟩ => ⟨D, s, hf, hk⟩) l a (h (fun D s => A .normal D s w.drew) (fun _ _ h => h) a ha))

theorem CW.regionT {id : Nat} {l : List Oper} (m : Nat) (hm : P.follows .mixedOrders = true) (hB : Region.lexTailB .any l.toArray m = true)
    (h : ∀ R : KK, (∀ D s w, A .normal D s w → R D s w) → WS P l.toArray (fun D s => WL P l.toArray R (l.drop m) n D s w.drew) (l.take m) n D s w.drew) : CW P (.region id l.toArray true) A n D s w := fun a ha => by
  refine wp_region_still_tail m hm hB (still_mono (fun a ⟨D, s, hf, hk⟩ => ?_) _ a (h (fun D s w => A .normal D s w) (fun _ _ _ h => h) a ha))
  have := hk a hf
  exact wpList_mono (fun e a w hq => post_lift (fun _ _ _ h => h) e a w hq) (l.drop m) a w.drew this
end

/-! ### Whatever order: loads first where nobody writes their cells (a condition S on the world), then one by one -/
def WH (P : Program) (ops : Array Oper) (K : KK) (S : World → Prop) (fuel : Nat) (listed : Array Bool) (n : Nat) (D : List Deferred) (s : Sl) (w : World) : Prop := ∀ a, Fr n D s a → wpAnyH P .any ops (post n K) S fuel listed a w
section
variable {P : Program} {A : AQ} {n : Nat} {D : List Deferred} {s : Sl} {w : World} {ops : Array Oper} {K : KK} {S : World → Prop} {fuel : Nat} {listed : Array Bool}
variable {op : Op} {ty : TypeId} {pos : String} {af : Array Edge} {d : Nat} {v : Value}
theorem CW.regionH {id : Nat} {l : List Oper} (S : World → Prop) (m : Nat) (hz : l.length = m) (hm : P.follows .mixedOrders = true)
    (h : ∀ R : KK, (∀ D s w, A .normal D s w → R D s w) → WH P l.toArray R S m (Array.replicate m false) n D s w.drew) : CW P (.region id l.toArray true) A n D s w := fun a ha => by
  refine wp_mono (wp_region_held (S := S) hm ?_) (post_lift (K := fun D s w => A .normal D s w) fun _ _ _ h => h)
  have := h (fun D s w => A .normal D s w) (fun _ _ _ h => h) a ha
  subst hz
  simpa using this
theorem WH.take (i : Nat) (hi : ops[i]? = some ⟨some d, op, ty, pos, af, none⟩) (hs : Region.noSelect ops = true) (hf : Region.free .any ops listed i = true) (hr : (Region.ready .any ops listed).contains i = true)
    (hS : S w) (he : ∀ w, S w → Ev P s op ty w v w) (hd : Nat.blt d n = true) (k : WH P ops K S fuel (listed.setIfInBounds i true) n D ((d, v) :: s) w) : WH P ops K S (fuel + 1) listed n D s w := fun a ha =>
  wpAnyH_take hi hs hf hr (fun c a w h => h.elim) (.inl ⟨by simp [Region.wanted], fun w' hw' => he w' hw' a.eval (some d) pos af none fun x u hx => ha.eval hx⟩) hS (k _ (ha.put hd v))
theorem WH.one (i : Nat) {w' : World} (hi : ops[i]? = some ⟨some d, op, ty, pos, af, none⟩) (hr : Region.ready .any ops listed = [i]) (he : Ev P s op ty w v w') (hS : S w') (hd : Nat.blt d n = true)
    (k : WH P ops K S fuel (listed.setIfInBounds i true) n D ((d, v) :: s) w') : WH P ops K S (fuel + 1) listed n D s w := fun a ha =>
  wpAnyH_all hr (by simp) fun j hj => by
    obtain rfl : j = i := by simpa using hj
    unfold wpOp
    simp only [hi]
    rw [if_pos (by simp [Region.wanted])]
    refine .inl ?_
    unfold Oper.wp
    rw [he a.eval (some d) pos af none fun x u hx => ha.eval hx]
    exact ⟨hS, k _ (ha.put hd v)⟩
theorem WH.oneS (i : Nat) {w' : World} (hi : ops[i]? = some ⟨none, op, ty, pos, af, none⟩) (hr : Region.ready .any ops listed = [i]) (he : EvS P s op ty w w') (hS : S w')
    (k : WH P ops K S fuel (listed.setIfInBounds i true) n D s w') : WH P ops K S (fuel + 1) listed n D s w := fun a ha =>
  wpAnyH_all hr (by simp) fun j hj => by
    obtain rfl : j = i := by simpa using hj
    unfold wpOp
    simp only [hi]
    rw [if_pos (by simp [Region.wanted])]
    refine .inl ?_
    unfold Oper.wp
    rw [he a.eval none pos af none fun x u hx => ha.eval hx]
    exact ⟨hS, k _ ha⟩
theorem WH.oneCall (i : Nat) {f : FuncId} {xs : List Operand} {at_ : Array TypeId} {vs : List Value} {R : Value → World → Prop} (hi : ops[i]? = some ⟨some d, .call ⟨.value (.func f), xs.toArray, at_⟩, ty, pos, af, none⟩) (hr : Region.ready .any ops listed = [i]) (hF : HasF P f) (hx : opnds s xs = some vs) (hd : Nat.blt d n = true) (h : Ret P f vs w R)
    (k : ∀ v w', R v w' → S w' ∧ WH P ops K S fuel (listed.setIfInBounds i true) n D ((d, v) :: s) w') : WH P ops K S (fuel + 1) listed n D s w := fun a ha =>
  wpAnyH_all hr (by simp) fun j hj => by
    obtain rfl : j = i := by simpa using hj
    unfold wpOp
    simp only [hi]
    rw [if_pos (by simp [Region.wanted])]
    refine .inl ?_
    unfold Oper.wp
    rw [exec_call hF rfl hx fun x u hx => ha.eval hx]
    exact Calls.mono h fun e w' ⟨v, he, hR⟩ => by subst he; exact ⟨(k v w' hR).1, (k v w' hR).2 _ (ha.put hd v)⟩
theorem WH.takeG (i : Nat) {j : Nat} {b : Bool} {g : Oper} {x : Bool} {t : Nat} (hi : ops[i]? = some ⟨some d, op, ty, pos, af, some (j, b)⟩) (hs : Region.noSelect ops = true) (hf : Region.free .any ops listed i = true) (hr : (Region.ready .any ops listed).contains i = true)
    (hg : ops[j]? = some g) (ht : g.dst = some t) (hx : look s t = some (.bool x)) (hb : (x == b) = true)
    (hS : S w) (he : ∀ w, S w → Ev P s op ty w v w) (hd : Nat.blt d n = true) (k : WH P ops K S fuel (listed.setIfInBounds i true) n D ((d, v) :: s) w) : WH P ops K S (fuel + 1) listed n D s w := fun a ha =>
  wpAnyH_take hi hs hf hr (fun c a w h => h.elim) (.inl ⟨by rw [yieldedAt ha hg ht hx]; exact hb, fun w' hw' => he w' hw' a.eval (some d) pos af _ fun x u hx => ha.eval hx⟩) hS (k _ (ha.put hd v))
theorem WH.oneCallG (i : Nat) {j : Nat} {b : Bool} {g : Oper} {x : Bool} {t : Nat} {f : FuncId} {xs : List Operand} {at_ : Array TypeId} {vs : List Value} {R : Value → World → Prop} (hi : ops[i]? = some ⟨some d, .call ⟨.value (.func f), xs.toArray, at_⟩, ty, pos, af, some (j, b)⟩) (hr : Region.ready .any ops listed = [i])
    (hg : ops[j]? = some g) (ht : g.dst = some t) (hx0 : look s t = some (.bool x)) (hb : (x == b) = true) (hF : HasF P f) (hx : opnds s xs = some vs) (hd : Nat.blt d n = true) (h : Ret P f vs w R)
    (k : ∀ v w', R v w' → S w' ∧ WH P ops K S fuel (listed.setIfInBounds i true) n D ((d, v) :: s) w') : WH P ops K S (fuel + 1) listed n D s w := fun a ha =>
  wpAnyH_all hr (by simp) fun j' hj => by
    obtain rfl : j' = i := by simpa using hj
    unfold wpOp
    simp only [hi]
    rw [if_pos (by rw [yieldedAt ha hg ht hx0]; exact hb)]
    refine .inl ?_
    unfold Oper.wp
    rw [exec_call hF rfl hx fun x u hx => ha.eval hx]
    exact Calls.mono h fun e w' ⟨v, he, hR⟩ => by subst he; exact ⟨(k v w' hR).1, (k v w' hR).2 _ (ha.put hd v)⟩
theorem WH.done (hr : Region.ready .any ops listed = []) (h : K D s w) : WH P ops K S fuel listed n D s w := fun a ha => wpAnyH_done hr ⟨D, s, ha, h⟩ fuel
end
end Sx

/- append on an own row: in place, or into a new block where the old one stays. No condition. -/
namespace Sx
open Go

section
variable {P : Program} {n : Nat} {D : List Deferred} {s : Sl} {w : World} {ops : Array Oper} {K : KK} {rest : List Oper} {ty : TypeId} {pos : String} {af : Array Edge} {d : Nat} {x y : Operand}
end
end Sx

/- Whatever order, where the last operation z turns what others have read: the condition S is asked up to z alone. No condition. -/
namespace Sx
open Go

def anyK (P : Program) (ops : Array Oper) (Q : Exit → Act → World → Prop) (S : World → Prop) (z : Nat) : Nat → Array Bool → Act → World → Prop
  | 0, listed, a, w => Region.ready .any ops listed = [] ∧ Q .normal a w
  | fuel + 1, listed, a, w => (Region.ready .any ops listed = [] → Q .normal a w) ∧
    ∀ i ∈ Region.ready .any ops listed, wpOp P ops Q i (fun a' w' => ((listed.setIfInBounds i true).getD z false = false → S w') ∧ anyK P ops Q S z fuel (listed.setIfInBounds i true) a' w') a w
section
variable {P : Program} {ops : Array Oper} {Q : Exit → Act → World → Prop} {S : World → Prop} {z : Nat}
theorem any_of_K : ∀ (fuel : Nat) (listed : Array Bool) (a : Act) (w : World), anyK P ops Q S z fuel listed a w → wpAny P .any ops Q fuel listed a w
  | 0, _, _, _, h => h
  | fuel + 1, _, _, _, h => ⟨h.1, fun i hi => wpOp_mono (fun a' w' k => any_of_K fuel _ a' w' k.2) (h.2 i hi)⟩
theorem anyK_first {i : Nat} {oi : Oper} {v : Value} (hi : ops[i]? = some oi) (hsel : Region.noSelect ops = true) (hQ : ∀ c a w, Q (.panic c) (a.put oi.dst v) w → Q (.panic c) a w) (hz : Region.waitsFor .any ops z i = true) (hzi : z ≠ i) :
    ∀ (fuel : Nat) (listed : Array Bool) (a : Act) (w : World), (∀ j oj, ops[j]? = some oj → j ≠ i → listed.getD j true = false → (∀ e ∈ oj.after, Region.binds .any e = true → e.on ≠ i) → oi.apart ops oj = true) →
      i ∈ Region.ready .any ops listed → listed.getD z false = false → YieldsIf P ops S oi v a → S w → anyK P ops Q S z fuel (listed.setIfInBounds i true) (a.put oi.dst v) w → anyK P ops Q S z (fuel + 1) listed a w := by
  obtain ⟨oz, hoz, ez, hez, hezb, hezi⟩ := Region.waitsFor_spec hz
  have noz : ∀ (listed : Array Bool) j, i ∈ Region.ready .any ops listed → j ∈ Region.ready .any ops listed → j ≠ z := fun listed j hr hj e => by
    subst e
    obtain ⟨_, o, ho, hall⟩ := mem_ready.1 hj
    rw [hoz] at ho; cases ho
    have h1 := hall ez hez hezb
    rw [hezi] at h1
    have h0 := (mem_ready.1 hr).1
    rcases Nat.lt_or_ge i listed.size with q | q
    · simp [q] at h0 h1; rw [h0] at h1; cases h1
    · simp [Array.getElem?_eq_none q] at h1
  intro fuel
  induction fuel with
  | zero =>
    intro listed a w _ hr hl hy hS H
    refine ⟨fun h => (by rw [h] at hr; cases hr), fun j hj => ?_⟩
    by_cases e : j = i
    · subst e; exact hy.wpOp hi hS ⟨fun _ => hS, H⟩
    · have := ready_mono hj e
      rw [H.1] at this; cases this
  | succ fuel ih =>
    intro listed a w hfree hr hl hy hS H
    refine ⟨fun h => (by rw [h] at hr; cases hr), fun j hj => ?_⟩
    by_cases e : j = i
    · subst e; exact hy.wpOp hi hS ⟨fun _ => hS, H⟩
    · have h1 := H.2 j (ready_mono hj e)
      have hjz := noz listed j hr hj
      obtain ⟨hjun, oj, hoj, hall⟩ := mem_ready.1 hj
      have hnot : ∀ e ∈ oj.after, Region.binds .any e = true → e.on ≠ i := fun e he hb heq => by
        have h1 := hall e he hb
        have h0 := (mem_ready.1 hr).1
        rw [heq] at h1
        rcases Nat.lt_or_ge i listed.size with q | q
        · simp [q] at h0 h1; rw [h0] at h1; cases h1
        · simp [Array.getElem?_eq_none q] at h1
      have h2 := wpOp_putIf hoj (hfree j oj hoj e hjun hnot) (fun cs b => Region.noSelect_spec hsel i oi cs b hi) (fun cs b => Region.noSelect_spec hsel j oj cs b hoj) hQ hy h1
      have lz : (listed.setIfInBounds j true).getD z false = false := by rw [getD_set_ne false hjz]; exact hl
      have lz2 : ((listed.setIfInBounds i true).setIfInBounds j true).getD z false = false := by rw [getD_set_ne false hjz, getD_set_ne false (Ne.symm hzi)]; exact hl
      refine wpOp_mono (fun a' w' h3 => ⟨fun _ => h3.2.1 lz2, ih (listed.setIfInBounds j true) a' w' (fun k ok hk hki hun hno => hfree k ok hk hki ?_ hno) (ready_mono hr (Ne.symm e)) lz h3.1 (h3.2.1 lz2) ?_⟩) h2
      · by_cases hjk : j = k
        · subst hjk; exact hjun
        · rw [getD_set_ne true hjk] at hun; exact hun
      · rw [Array.setIfInBounds_comm _ _ e]
        exact h3.2.2
end
def WK (P : Program) (ops : Array Oper) (K : KK) (S : World → Prop) (z : Nat) (fuel : Nat) (listed : Array Bool) (n : Nat) (D : List Deferred) (s : Sl) (w : World) : Prop := ∀ a, Fr n D s a → anyK P ops (post n K) S z fuel listed a w
section
variable {P : Program} {A : AQ} {n : Nat} {D : List Deferred} {s : Sl} {w : World} {ops : Array Oper} {K : KK} {S : World → Prop} {z : Nat} {fuel : Nat} {listed : Array Bool}
variable {op : Op} {ty : TypeId} {pos : String} {af : Array Edge} {d : Nat} {v : Value}
theorem CW.regionK {id : Nat} {l : List Oper} (S : World → Prop) (z m : Nat) (hz : l.length = m) (hm : P.follows .mixedOrders = true)
    (h : ∀ R : KK, (∀ D s w, A .normal D s w → R D s w) → WK P l.toArray R S z m (Array.replicate m false) n D s w.drew) : CW P (.region id l.toArray true) A n D s w := fun a ha => by
  refine wp_mono (wp_region_any hm (any_of_K _ _ _ _ (S := S) (z := z) ?_)) (post_lift (K := fun D s w => A .normal D s w) fun _ _ _ h => h)
  have := h (fun D s w => A .normal D s w) (fun _ _ _ h => h) a ha
  subst hz
  simpa using this
theorem WK.take (i : Nat) (hi : ops[i]? = some ⟨some d, op, ty, pos, af, none⟩) (hs : Region.noSelect ops = true) (hf : Region.free .any ops listed i = true) (hr : (Region.ready .any ops listed).contains i = true) (hw : Region.waitsFor .any ops z i = true) (hzi : Nat.beq z i = false) (hlz : listed.getD z false = false)
    (hS : S w) (he : ∀ w, S w → Ev P s op ty w v w) (hd : Nat.blt d n = true) (k : WK P ops K S z fuel (listed.setIfInBounds i true) n D ((d, v) :: s) w) : WK P ops K S z (fuel + 1) listed n D s w := fun a ha =>
  anyK_first hi hs (fun c a w h => h.elim) hw (fun e => by rw [e] at hzi; simp at hzi) fuel listed a w (Region.free_spec hi hf) (by simpa using hr) hlz (.inl ⟨by simp [Region.wanted], fun w' hw' => he w' hw' a.eval (some d) pos af none fun x u hx => ha.eval hx⟩) hS (k _ (ha.put hd v))
theorem WK.one (i : Nat) {w' : World} (hi : ops[i]? = some ⟨some d, op, ty, pos, af, none⟩) (hr : Region.ready .any ops listed = [i]) (he : Ev P s op ty w v w') (hS : (listed.setIfInBounds i true).getD z false = false → S w') (hd : Nat.blt d n = true)
    (k : WK P ops K S z fuel (listed.setIfInBounds i true) n D ((d, v) :: s) w') : WK P ops K S z (fuel + 1) listed n D s w := fun a ha => by
  refine ⟨fun h => (by rw [hr] at h; cases h), fun j hj => ?_⟩
  rw [hr] at hj
  obtain rfl : j = i := by simpa using hj
  unfold wpOp
  simp only [hi]
  rw [if_pos (by simp [Region.wanted])]
  refine .inl ?_
  unfold Oper.wp
  rw [he a.eval (some d) pos af none fun x u hx => ha.eval hx]
  exact ⟨hS, k _ (ha.put hd v)⟩
theorem WK.oneS (i : Nat) {w' : World} (hi : ops[i]? = some ⟨none, op, ty, pos, af, none⟩) (hr : Region.ready .any ops listed = [i]) (he : EvS P s op ty w w') (hS : (listed.setIfInBounds i true).getD z false = false → S w')
    (k : WK P ops K S z fuel (listed.setIfInBounds i true) n D s w') : WK P ops K S z (fuel + 1) listed n D s w := fun a ha => by
  refine ⟨fun h => (by rw [hr] at h; cases h), fun j hj => ?_⟩
  rw [hr] at hj
  obtain rfl : j = i := by simpa using hj
  unfold wpOp
  simp only [hi]
  rw [if_pos (by simp [Region.wanted])]
  refine .inl ?_
  unfold Oper.wp
  rw [he a.eval none pos af none fun x u hx => ha.eval hx]
  exact ⟨hS, k _ ha⟩
theorem WK.oneCall (i : Nat) {f : FuncId} {xs : List Operand} {at_ : Array TypeId} {vs : List Value} {R : Value → World → Prop} (hi : ops[i]? = some ⟨some d, .call ⟨.value (.func f), xs.toArray, at_⟩, ty, pos, af, none⟩) (hr : Region.ready .any ops listed = [i]) (hF : HasF P f) (hx : opnds s xs = some vs) (hd : Nat.blt d n = true) (h : Ret P f vs w R)
    (k : ∀ v w', R v w' → S w' ∧ WK P ops K S z fuel (listed.setIfInBounds i true) n D ((d, v) :: s) w') : WK P ops K S z (fuel + 1) listed n D s w := fun a ha => by
  refine ⟨fun h => (by rw [hr] at h; cases h), fun j hj => ?_⟩
  rw [hr] at hj
  obtain rfl : j = i := by simpa using hj
  unfold wpOp
  simp only [hi]
  rw [if_pos (by simp [Region.wanted])]
  refine .inl ?_
  unfold Oper.wp
  rw [exec_call hF rfl hx fun x u hx => ha.eval hx]
  exact Calls.mono h fun e w' ⟨v, he, hR⟩ => by subst he; exact ⟨fun _ => (k v w' hR).1, (k v w' hR).2 _ (ha.put hd v)⟩
theorem WK.buildSlice (i : Nat) {t e : TypeId} {de : TypeDesc} {sz by_ es be : Nat} {z0 ze : Value} {ps : List (Nat × Operand)} {vs : List (Nat × Value)} {cs : List Value} {m : Nat} [hT : HasT P t (.slice e) sz by_ z0] [hE : HasT P e de es be ze]
    (hi : ops[i]? = some ⟨some d, .buildSlice t m ps.toArray, ty, pos, af, none⟩) (hr : Region.ready .any ops listed = [i])
    (hm : m * es ≤ 2 ^ 24) (hp : 0 < m * es) (hx : opndP s ps = some vs) (hf : Instr.fill (fun i => some (i * es, es)) ((Array.range (m * es)).map (ze.cells[· % ze.cells.size]!)) vs = some cs.toArray) (hd : Nat.blt d n = true)
    (k : ∀ b w', New w b (.cells cs.toArray e) w' → S w' ∧ WK P ops K S z fuel (listed.setIfInBounds i true) n D ((d, .slice (some ⟨b, 0, none⟩) m m) :: s) w') : WK P ops K S z (fuel + 1) listed n D s w := by
  obtain ⟨b, w', he, hn⟩ := ev_buildSlice (P := P) (ty := ty) (w := w) (t := t) (hT := hT) (hE := hE) hm hp hx hf
  exact WK.one i hi hr he (fun _ => (k b w' hn).1) hd (k b w' hn).2
theorem WK.storeLast (i : Nat) {t : TypeId} {ds : TypeDesc} {by_ : Nat} {z0 : Value} {b o : Nat} {l : List Value} {T : TypeId} {u : Value} {x y : Operand} [hT : HasT P t ds 1 by_ z0] (hi : ops[i]? = some ⟨none, .store t x y, ty, pos, af, none⟩) (hr : Region.ready .any ops listed = [i]) (hlast : (listed.setIfInBounds i true).getD z false = true)
    (hx : opnd s x = some (.pointer (some ⟨b, o, none⟩))) (hy : opnd s y = some u) (h1 : u.oneCell' = true)
    (hb : w.heap[b]? = some (.cells l.toArray T (0, 0))) (ho : o < l.length) (k : ∀ w', Upd w b (.cells (l.set o u).toArray T (0, 0)) w' → WK P ops K S z fuel (listed.setIfInBounds i true) n D s w') : WK P ops K S z (fuel + 1) listed n D s w :=
  have h := evS_store (P := P) (ty := ty) (t := t) (hT := hT) hx hy h1 hb ho
  WK.oneS i hi hr h.1 (fun e => by rw [hlast] at e; cases e) (k _ h.2)
theorem WK.done (hr : Region.ready .any ops listed = []) (h : K D s w) : WK P ops K S z fuel listed n D s w := fun a ha => by
  cases fuel with
  | zero => exact ⟨hr, D, s, ha, h⟩
  | succ f => exact ⟨fun _ => ⟨D, s, ha, h⟩, fun j hj => by rw [hr] at hj; cases hj⟩
end
end Sx

/- The engine at whole numbers without a sign, and at slices that are read. No condition. -/
namespace Sx
open Go

/-! ### Numbers of 64, 32 and 8 bits without a sign, as plain numbers -/
theorem in_i64 {i : Int} (h : -9223372036854775808 ≤ i ∧ i ≤ 9223372036854775807) : IntKind.i64.min ≤ i ∧ i ≤ IntKind.i64.max := by simp only [IntKind.min, IntKind.max, IntKind.signed, IntKind.bits]; simp; omega
theorem in_u64 {i : Int} (h : 0 ≤ i ∧ i ≤ 18446744073709551615) : IntKind.u64.min ≤ i ∧ i ≤ IntKind.u64.max := by simp only [IntKind.min, IntKind.max, IntKind.signed, IntKind.bits]; simp; omega
theorem in_u32 {i : Int} (h : 0 ≤ i ∧ i ≤ 4294967295) : IntKind.u32.min ≤ i ∧ i ≤ IntKind.u32.max := by simp only [IntKind.min, IntKind.max, IntKind.signed, IntKind.bits]; simp; omega
theorem wrap_u64 (n : Nat) : IntKind.u64.wrap (n : Int) = ((n % 18446744073709551616 : Nat) : Int) := by
  simp [IntKind.wrap, IntKind.signed, IntKind.bits]
theorem wrap_u32 (n : Nat) : IntKind.u32.wrap (n : Int) = ((n % 4294967296 : Nat) : Int) := by
  simp [IntKind.wrap, IntKind.signed, IntKind.bits]
theorem wrap_u8 (n : Nat) : IntKind.u8.wrap (n : Int) = ((n % 256 : Nat) : Int) := by
  simp [IntKind.wrap, IntKind.signed, IntKind.bits]
theorem wrap_u64i (n : Int) : IntKind.u64.wrap n = n % 18446744073709551616 := by
  simp [IntKind.wrap, IntKind.signed, IntKind.bits]
theorem wrap_u32i (n : Int) : IntKind.u32.wrap n = n % 4294967296 := by
  simp [IntKind.wrap, IntKind.signed, IntKind.bits]
theorem wrap_i64m (n : Int) : IntKind.i64.wrap n = (n + 9223372036854775808) % 18446744073709551616 - 9223372036854775808 := by
  simp [IntKind.wrap, IntKind.signed, IntKind.bits]
  split <;> omega
section
variable {P : Program} {n : Nat} {D : List Deferred} {s : Sl} {w : World} {ty : TypeId} {x y : Operand} {ops : Array Oper} {K : KK} {rest : List Oper} {pos : String} {af : Array Edge} {d : Nat}
section
variable {t t' : TypeId} {a b : Nat}
theorem Ev.add64 (hx : opnd s x = some (.int .u64 (a : Int))) (hy : opnd s y = some (.int .u64 (b : Int))) : Ev P s (.binOp .add t x y t') ty w (.int .u64 (((a + b) % 18446744073709551616 : Nat) : Int)) w := by
  have := Ev.add (P := P) (w := w) (ty := ty) (t := t) (t' := t') hx hy
  rwa [← Int.natCast_add, wrap_u64] at this
theorem Ev.add64In (hx : opnd s x = some (.int .u64 (a : Int))) (hy : opnd s y = some (.int .u64 (b : Int))) (h : a + b < 18446744073709551616) : Ev P s (.binOp .add t x y t') ty w (.int .u64 ((a + b : Nat) : Int)) w := by
  have := Ev.add64 (P := P) (w := w) (ty := ty) (t := t) (t' := t') hx hy
  rwa [Nat.mod_eq_of_lt h] at this
theorem Ev.sub64 (hx : opnd s x = some (.int .u64 (a : Int))) (hy : opnd s y = some (.int .u64 (b : Int))) (hb : b ≤ 18446744073709551616) : Ev P s (.binOp .sub t x y t') ty w (.int .u64 (((a + (18446744073709551616 - b)) % 18446744073709551616 : Nat) : Int)) w := by
  have := Ev.sub (P := P) (w := w) (ty := ty) (t := t) (t' := t') hx hy
  rw [wrap_u64i] at this
  rwa [show ((a : Int) - (b : Int)) % 18446744073709551616 = (((a + (18446744073709551616 - b)) % 18446744073709551616 : Nat) : Int) by omega] at this
theorem Ev.sub64In (hx : opnd s x = some (.int .u64 (a : Int))) (hy : opnd s y = some (.int .u64 (b : Int))) (h : b ≤ a) (ha : a < 18446744073709551616) : Ev P s (.binOp .sub t x y t') ty w (.int .u64 ((a - b : Nat) : Int)) w := by
  have := Ev.sub (P := P) (w := w) (ty := ty) (t := t) (t' := t') hx hy
  rw [wrap_u64i] at this
  rwa [show ((a : Int) - (b : Int)) % 18446744073709551616 = ((a - b : Nat) : Int) by omega] at this
theorem Ev.mul64 (hx : opnd s x = some (.int .u64 (a : Int))) (hy : opnd s y = some (.int .u64 (b : Int))) : Ev P s (.binOp .mul t x y t') ty w (.int .u64 (((a * b) % 18446744073709551616 : Nat) : Int)) w := by
  have := Ev.mul (P := P) (w := w) (ty := ty) (t := t) (t' := t') hx hy
  rwa [← Int.natCast_mul, wrap_u64] at this
theorem Ev.mul64In (hx : opnd s x = some (.int .u64 (a : Int))) (hy : opnd s y = some (.int .u64 (b : Int))) (h : a * b < 18446744073709551616) : Ev P s (.binOp .mul t x y t') ty w (.int .u64 ((a * b : Nat) : Int)) w := by
  have := Ev.mul64 (P := P) (w := w) (ty := ty) (t := t) (t' := t') hx hy
  rwa [Nat.mod_eq_of_lt h] at this
theorem Ev.sub32 (hx : opnd s x = some (.int .u32 (a : Int))) (hy : opnd s y = some (.int .u32 (b : Int))) (hb : b ≤ 4294967296) : Ev P s (.binOp .sub t x y t') ty w (.int .u32 (((a + (4294967296 - b)) % 4294967296 : Nat) : Int)) w := by
  have := Ev.sub (P := P) (w := w) (ty := ty) (t := t) (t' := t') hx hy
  rw [wrap_u32i] at this
  rwa [show ((a : Int) - (b : Int)) % 4294967296 = (((a + (4294967296 - b)) % 4294967296 : Nat) : Int) by omega] at this
theorem Ev.mul32 (hx : opnd s x = some (.int .u32 (a : Int))) (hy : opnd s y = some (.int .u32 (b : Int))) : Ev P s (.binOp .mul t x y t') ty w (.int .u32 (((a * b) % 4294967296 : Nat) : Int)) w := by
  have := Ev.mul (P := P) (w := w) (ty := ty) (t := t) (t' := t') hx hy
  rwa [← Int.natCast_mul, wrap_u32] at this
theorem Ev.quoU {k : IntKind} (hx : opnd s x = some (.int k (a : Int))) (hy : opnd s y = some (.int k (b : Int))) (h : b ≠ 0) (ha : (a : Int) ≤ k.max) : Ev P s (.binOp .quo t x y t') ty w (.int k ((a / b : Nat) : Int)) w := by
  have := Ev.quoIn (P := P) (w := w) (ty := ty) (t := t) (t' := t') hx hy (by omega) ha (by omega)
  simpa using this
theorem Ev.remU {k : IntKind} (hx : opnd s x = some (.int k (a : Int))) (hy : opnd s y = some (.int k (b : Int))) (h : b ≠ 0) : Ev P s (.binOp .rem t x y t') ty w (.int k ((a % b : Nat) : Int)) w := by
  have := Ev.remIn (P := P) (w := w) (ty := ty) (t := t) (t' := t') hx hy (by omega) (by omega)
  simpa using this
theorem ofInt_nat (k a : Nat) : BitVec.ofInt k (a : Int) = BitVec.ofNat k a := BitVec.ofInt_natCast k a
theorem bits_u (k : IntKind) (hs : k.signed = false) (a : Nat) (h : a < 2 ^ k.bits) : k.wrap (a : Int) = (a : Int) := by
  cases k <;> first | (simp [IntKind.signed] at hs; done) | (simp [IntKind.bits] at h; simp [IntKind.wrap, IntKind.signed, IntKind.bits]; omega)
theorem Ev.andU {k : IntKind} (hs : k.signed = false) (hx : opnd s x = some (.int k (a : Int))) (hy : opnd s y = some (.int k (b : Int))) (ha : a < 2 ^ k.bits) (hb : b < 2 ^ k.bits) : Ev P s (.binOp .and t x y t') ty w (.int k ((a &&& b : Nat) : Int)) w := by
  have := Ev.and (P := P) (w := w) (ty := ty) (t := t) (t' := t') hx hy
  have e : bits2 .and k (a : Int) (b : Int) = ((a &&& b : Nat) : Int) := by
    simp only [bits2, ofInt_nat, BitVec.toNat_and, BitVec.toNat_ofNat, Nat.mod_eq_of_lt ha, Nat.mod_eq_of_lt hb]
    exact bits_u k hs _ (Nat.and_lt_two_pow _ hb)
  rwa [e] at this
theorem Ev.orU {k : IntKind} (hs : k.signed = false) (hx : opnd s x = some (.int k (a : Int))) (hy : opnd s y = some (.int k (b : Int))) (ha : a < 2 ^ k.bits) (hb : b < 2 ^ k.bits) : Ev P s (.binOp .or t x y t') ty w (.int k ((a ||| b : Nat) : Int)) w := by
  have := Ev.or (P := P) (w := w) (ty := ty) (t := t) (t' := t') hx hy
  have e : bits2 .or k (a : Int) (b : Int) = ((a ||| b : Nat) : Int) := by
    simp only [bits2, ofInt_nat, BitVec.toNat_or, BitVec.toNat_ofNat, Nat.mod_eq_of_lt ha, Nat.mod_eq_of_lt hb]
    exact bits_u k hs _ (Nat.or_lt_two_pow ha hb)
  rwa [e] at this
theorem Ev.xorU {k : IntKind} (hs : k.signed = false) (hx : opnd s x = some (.int k (a : Int))) (hy : opnd s y = some (.int k (b : Int))) (ha : a < 2 ^ k.bits) (hb : b < 2 ^ k.bits) : Ev P s (.binOp .xor t x y t') ty w (.int k ((a ^^^ b : Nat) : Int)) w := by
  have := Ev.xor (P := P) (w := w) (ty := ty) (t := t) (t' := t') hx hy
  have e : bits2 .xor k (a : Int) (b : Int) = ((a ^^^ b : Nat) : Int) := by
    simp only [bits2, ofInt_nat, BitVec.toNat_xor, BitVec.toNat_ofNat, Nat.mod_eq_of_lt ha, Nat.mod_eq_of_lt hb]
    exact bits_u k hs _ (Nat.xor_lt_two_pow ha hb)
  rwa [e] at this
theorem Ev.andNotU {k : IntKind} (hs : k.signed = false) (hx : opnd s x = some (.int k (a : Int))) (hy : opnd s y = some (.int k (b : Int))) (ha : a < 2 ^ k.bits) (hb : b < 2 ^ k.bits) : Ev P s (.binOp .andNot t x y t') ty w (.int k ((a &&& (2 ^ k.bits - 1 - b) : Nat) : Int)) w := by
  have := Ev.andNot (P := P) (w := w) (ty := ty) (t := t) (t' := t') hx hy
  have e : bits2 .andNot k (a : Int) (b : Int) = ((a &&& (2 ^ k.bits - 1 - b) : Nat) : Int) := by
    simp only [bits2, ofInt_nat, BitVec.toNat_and, BitVec.toNat_not, BitVec.toNat_ofNat, Nat.mod_eq_of_lt ha, Nat.mod_eq_of_lt hb]
    exact bits_u k hs _ (Nat.and_lt_two_pow _ (by omega))
  rwa [e] at this
theorem Ev.complU {k : IntKind} (hs : k.signed = false) (hx : opnd s x = some (.int k (a : Int))) (ha : a < 2 ^ k.bits) : Ev P s (.unOp .xor t x) ty w (.int k ((2 ^ k.bits - 1 - a : Nat) : Int)) w := by
  have := Ev.compl (P := P) (w := w) (ty := ty) (t := t) hx
  have hp := Nat.two_pow_pos k.bits
  have hm : (if k.signed = true then (-1 : Int) else k.max) = ((2 ^ k.bits - 1 : Nat) : Int) := by
    rw [hs]; cases k <;> first | rfl | (simp [IntKind.signed] at hs)
  have e : bits2 .xor k (if k.signed = true then (-1 : Int) else k.max) (a : Int) = ((2 ^ k.bits - 1 - a : Nat) : Int) := by
    rw [hm]
    simp only [bits2, ofInt_nat, BitVec.toNat_xor, BitVec.toNat_ofNat, Nat.mod_eq_of_lt ha, Nat.mod_eq_of_lt (show 2 ^ k.bits - 1 < 2 ^ k.bits by omega)]
    have h2 : (2 ^ k.bits - 1) ^^^ a = 2 ^ k.bits - 1 - a := by
      have := BitVec.toNat_not (x := BitVec.ofNat k.bits a)
      rw [← BitVec.allOnes_xor, BitVec.toNat_xor, BitVec.toNat_allOnes, BitVec.toNat_ofNat, Nat.mod_eq_of_lt ha] at this
      exact this
    rw [h2]
    exact bits_u k hs _ (by omega)
  rwa [e] at this
theorem Ev.shlU64 {k' : IntKind} (hx : opnd s x = some (.int .u64 (a : Int))) (hy : opnd s y = some (.int k' (b : Int))) : Ev P s (.binOp .shl t x y t') ty w (.int .u64 ((a * 2 ^ b % 18446744073709551616 : Nat) : Int)) w := by
  have := Ev.shl (P := P) (w := w) (ty := ty) (t := t) (t' := t') hx hy (by omega)
  have e : IntKind.u64.wrap ((a : Int) * 2 ^ (min (b : Int).toNat IntKind.u64.bits)) = ((a * 2 ^ b % 18446744073709551616 : Nat) : Int) := by
    have hb : (b : Int).toNat = b := by omega
    rw [hb, show ((a : Int) * 2 ^ (min b IntKind.u64.bits)) = ((a * 2 ^ (min b IntKind.u64.bits) : Nat) : Int) by simp, wrap_u64]
    congr 1
    show a * 2 ^ (min b 64) % _ = _
    by_cases h : b ≤ 64
    · rw [Nat.min_eq_left h]
    · rw [Nat.min_eq_right (by omega)]
      obtain ⟨q, rfl⟩ : ∃ q, b = 64 + q := ⟨b - 64, by omega⟩
      rw [Nat.pow_add, ← Nat.mul_assoc]
      have e64 : (2 : Nat) ^ 64 = 18446744073709551616 := by decide
      rw [e64, Nat.mul_mod_left, Nat.mul_right_comm, Nat.mul_mod_left]
  rwa [e] at this
theorem Ev.shlU32 {k' : IntKind} (hx : opnd s x = some (.int .u32 (a : Int))) (hy : opnd s y = some (.int k' (b : Int))) : Ev P s (.binOp .shl t x y t') ty w (.int .u32 ((a * 2 ^ b % 4294967296 : Nat) : Int)) w := by
  have := Ev.shl (P := P) (w := w) (ty := ty) (t := t) (t' := t') hx hy (by omega)
  have e : IntKind.u32.wrap ((a : Int) * 2 ^ (min (b : Int).toNat IntKind.u32.bits)) = ((a * 2 ^ b % 4294967296 : Nat) : Int) := by
    have hb : (b : Int).toNat = b := by omega
    rw [hb, show ((a : Int) * 2 ^ (min b IntKind.u32.bits)) = ((a * 2 ^ (min b IntKind.u32.bits) : Nat) : Int) by simp, wrap_u32]
    congr 1
    show a * 2 ^ (min b 32) % _ = _
    by_cases h : b ≤ 32
    · rw [Nat.min_eq_left h]
    · rw [Nat.min_eq_right (by omega)]
      obtain ⟨q, rfl⟩ : ∃ q, b = 32 + q := ⟨b - 32, by omega⟩
      rw [Nat.pow_add, ← Nat.mul_assoc]
      have e64 : (2 : Nat) ^ 32 = 4294967296 := by decide
      rw [e64, Nat.mul_mod_left, Nat.mul_right_comm, Nat.mul_mod_left]
  rwa [e] at this
theorem div_pow_min {a b k : Nat} (h : a < 2 ^ k) : a / 2 ^ (min b k) = a / 2 ^ b := by
  by_cases hb : b ≤ k
  · rw [Nat.min_eq_left hb]
  · rw [Nat.min_eq_right (by omega), Nat.div_eq_of_lt h, Nat.div_eq_of_lt (Nat.lt_of_lt_of_le h (Nat.pow_le_pow_right (by decide) (by omega)))]
theorem Ev.shrU {k k' : IntKind} (hx : opnd s x = some (.int k (a : Int))) (hy : opnd s y = some (.int k' (b : Int))) (ha : a < 2 ^ k.bits) : Ev P s (.binOp .shr t x y t') ty w (.int k ((a / 2 ^ b : Nat) : Int)) w := by
  have := Ev.shr (P := P) (w := w) (ty := ty) (t := t) (t' := t') hx hy (by omega)
  have e : (a : Int).fdiv (2 ^ (min (b : Int).toNat k.bits)) = ((a / 2 ^ b : Nat) : Int) := by
    have hb : (b : Int).toNat = b := by omega
    rw [hb, show ((2 : Int) ^ (min b k.bits)) = ((2 ^ (min b k.bits) : Nat) : Int) by simp, Int.fdiv_eq_ediv_of_nonneg _ (Int.natCast_nonneg _), ← Int.natCast_ediv, div_pow_min ha]
  rwa [e] at this
theorem Ev.convIn {src dst : TypeId} {d0 d' : TypeDesc} {sz by_ sz' by' : Nat} {z z' : Value} {k k' : IntKind} {i : Int} [hs : HasT P src d0 sz by_ z] [hd : HasT P dst d' sz' by' z'] (hk : d' = .int k') (hx : opnd s x = some (.int k i)) (h : k'.min ≤ i ∧ i ≤ k'.max) :
    Ev P s (.convert src dst x) ty w (.int k' i) w := by
  have := Ev.conv (P := P) (w := w) (ty := ty) (src := src) (dst := dst) hk hx
  rwa [wrap_in h] at this
theorem Ev.conv32 {src dst : TypeId} {d0 d' : TypeDesc} {sz by_ sz' by' : Nat} {z z' : Value} {k : IntKind} [hs : HasT P src d0 sz by_ z] [hd : HasT P dst d' sz' by' z'] (hk : d' = .int .u32) (hx : opnd s x = some (.int k (a : Int))) :
    Ev P s (.convert src dst x) ty w (.int .u32 ((a % 4294967296 : Nat) : Int)) w := by
  have := Ev.conv (P := P) (w := w) (ty := ty) (src := src) (dst := dst) hk hx
  rwa [wrap_u32] at this
theorem Ev.conv8 {src dst : TypeId} {d0 d' : TypeDesc} {sz by_ sz' by' : Nat} {z z' : Value} {k : IntKind} [hs : HasT P src d0 sz by_ z] [hd : HasT P dst d' sz' by' z'] (hk : d' = .int .u8) (hx : opnd s x = some (.int k (a : Int))) :
    Ev P s (.convert src dst x) ty w (.int .u8 ((a % 256 : Nat) : Int)) w := by
  have := Ev.conv (P := P) (w := w) (ty := ty) (src := src) (dst := dst) hk hx
  rwa [wrap_u8] at this
theorem Ev.mulIn {a b : Int} (hx : opnd s x = some (.int .i64 a)) (hy : opnd s y = some (.int .i64 b)) (h : -9223372036854775808 ≤ a * b ∧ a * b ≤ 9223372036854775807) : Ev P s (.binOp .mul t x y t') ty w (.int .i64 (a * b)) w := by
  have := Ev.mul (P := P) (w := w) (ty := ty) (t := t) (t' := t') hx hy
  rwa [wrap_i64 h] at this
theorem Ev.negIn {a : Int} (hx : opnd s x = some (.int .i64 a)) (h : -9223372036854775807 ≤ a ∧ a ≤ 9223372036854775807) : Ev P s (.unOp .neg t x) ty w (.int .i64 (-a)) w := by
  have := Ev.neg (P := P) (w := w) (ty := ty) (t := t) hx
  rwa [Int.zero_sub, wrap_i64 (by omega)] at this
end

/-! ### Rows that are read -/
def RW (w : World) (a : Option Addr) (xs : List Value) : Prop := ∀ (i : Nat) (v : Value), xs[i]? = some v → ∃ ad, a = some ad ∧ w.cell? (ad.add i) = some v
theorem addr_blk (ad : Addr) (i : Nat) : (ad.add i).block = ad.block := by unfold Addr.add; split <;> rfl
theorem addr_add2 (a : Addr) (m n : Nat) : (a.add m).add n = a.add (m + n) := by
  cases a with
  | mk b o f => simp only [Addr.add]; split <;> split <;> simp_all <;> omega
def adr (a : Option Addr) (j : Nat) : Addr := (a.getD ⟨0, 0, none⟩).add j
theorem RW.at_ {a : Option Addr} {xs : List Value} {j : Nat} {v : Value} (h : RW w a xs) (hv : xs[j]? = some v) : w.cell? (adr a j) = some v := by
  obtain ⟨ad, rfl, hc⟩ := h j v hv
  exact hc
theorem RW.some_ {a : Option Addr} {xs : List Value} (h : RW w a xs) (hv : 0 < xs.length) : ∃ ad, a = some ad := by
  obtain ⟨ad, rfl, hc⟩ := h 0 _ (List.getElem?_eq_getElem hv)
  exact ⟨ad, rfl⟩
theorem RW.nil {a : Option Addr} : RW w a [] := fun i v h => by simp at h
theorem RW.keep {a : Option Addr} {xs : List Value} {T : List Nat} {w' : World} (h : RW w a xs) (hc : Chg T w w') (hT : ∀ b ∈ T, w.heap.size ≤ b) : RW w' a xs := fun i v hv => by
  obtain ⟨ad, rfl, h2⟩ := h i v hv
  refine ⟨ad, rfl, hc.cell h2 fun hm => ?_⟩
  have := hT _ hm
  have := block_lt_of_cell h2
  omega
theorem RW.keep0 {a : Option Addr} {xs : List Value} {w' : World} (h : RW w a xs) (hc : Chg [] w w') : RW w' a xs := h.keep hc (by simp)
theorem RW.keepB {a : Option Addr} {xs : List Value} {T : List Nat} {w' : World} (h : RW w a xs) (hc : Chg T w w') (hT : ∀ ad, a = some ad → ad.block ∉ T) : RW w' a xs := fun i v hv => by
  obtain ⟨ad, rfl, h2⟩ := h i v hv
  exact ⟨ad, rfl, hc.cell h2 (by rw [addr_blk]; exact hT ad rfl)⟩
theorem RW.take {a : Option Addr} {xs : List Value} (h : RW w a xs) (k : Nat) : RW w a (xs.take k) := fun i v hv => by
  rw [List.getElem?_take] at hv
  split at hv
  · exact h i v hv
  · cases hv
theorem RW.drop {a : Option Addr} {xs : List Value} (h : RW w a xs) (k : Nat) : RW w (a.map (·.add k)) (xs.drop k) := fun i v hv => by
  rw [List.getElem?_drop] at hv
  obtain ⟨ad, rfl, h2⟩ := h _ v hv
  exact ⟨ad.add k, rfl, by rw [addr_add2]; exact h2⟩
theorem RW.cut {a : Option Addr} {xs : List Value} (h : RW w a xs) (k c : Nat) (hk : k ≤ xs.length) (hc : xs.length ≤ c) : RW w (cutAt a k c 1) (xs.drop k) := by
  unfold cutAt
  split
  · rename_i e
    rw [List.drop_eq_nil_of_le (by omega)]
    exact RW.nil
  · rw [Nat.mul_one]; exact h.drop k
theorem RW.of_heap {b : Nat} {xs : List Value} {E : TypeId} {fr : Nat × Nat} (h : w.heap[b]? = some (.cells xs.toArray E fr)) : RW w (some ⟨b, 0, none⟩) xs := fun i v hv => ⟨_, rfl, by rw [add_addr, Nat.zero_add, cell_at h]; exact hv⟩
theorem RW.of_own {e sz : Nat} {a : Option Addr} {m c : Nat} {xs : List Value} (h : w.ownsRow 0 e sz (.slice a m c) m xs) : RW w a xs := fun i v hv => by
  have hp : 0 < xs.length := by
    cases xs with
    | nil => simp at hv
    | cons x xs => simp
  obtain ⟨g, rfl, hc⟩ := own_cell h hp
  exact ⟨_, rfl, by rw [add_addr, Nat.zero_add]; exact hc _ _ hv⟩

theorem Ev.ixR (j : Nat) {t : TypeId} {a : Option Addr} {m c e be : Nat} {k : IntKind} {i : Int} {de : TypeDesc} {ze : Value} {sz by_ : Nat} {z : Value} {xs : List Value} [hT : HasT P t (.slice e) sz by_ z] [hE : HasT P e de 1 be ze] (hx : opnd s x = some (.slice a m c)) (hy : opnd s y = some (.int k i)) (hr : RW w a xs) (hij : i = (j : Int)) (hm : j < m) (hl : j < xs.length) :
    Ev P s (.indexAddr t x y) ty w (.pointer (some (adr a j))) w := by
  obtain ⟨ad, rfl⟩ := hr.some_ (by omega)
  subst hij
  have := Ev.indexAddrG (P := P) (s := s) (w := w) (ty := ty) (t := t) (hT := hT) (hE := hE) hx hy (by omega) (by omega)
  rwa [show ((j : Int)).toNat * 1 = j by omega] at this
theorem Ev.ixB (j : Nat) {t : TypeId} {b m c e be : Nat} {k : IntKind} {i : Int} {de : TypeDesc} {ze : Value} {sz by_ : Nat} {z : Value} [hT : HasT P t (.slice e) sz by_ z] [hE : HasT P e de 1 be ze] (hx : opnd s x = some (.slice (some ⟨b, 0, none⟩) m c)) (hy : opnd s y = some (.int k i)) (hij : i = (j : Int)) (hm : j < m) :
    Ev P s (.indexAddr t x y) ty w (.pointer (some ⟨b, j, none⟩)) w := by
  subst hij
  have := Ev.indexAddr (P := P) (s := s) (w := w) (ty := ty) (t := t) (hT := hT) (hE := hE) hx hy (by omega) (by omega)
  rwa [show 0 + ((j : Int)).toNat * 1 = j by omega] at this

/-! ### Parts of slices, by plain numbers -/
theorem Ev.sliceHn (j : Nat) {t : TypeId} {a : Option Addr} {m c e : Nat} {es be : Nat} {k' : IntKind} {hi : Int} {de : TypeDesc} {ze : Value} {sz by_ : Nat} {z : Value} {q : Operand} [hT : HasT P t (.slice e) sz by_ z] [hE : HasT P e de es be ze]
    (hx : opnd s x = some (.slice a m c)) (hq : opnd s q = some (.int k' hi)) (hj : hi = (j : Int)) (h2 : j ≤ c) : Ev P s (.slice t x none (some q) none) ty w (.slice a j c) w := by
  subst hj
  exact Ev.sliceH (hT := hT) (hE := hE) hx hq (by omega) (by omega)
theorem Ev.sliceLn (j : Nat) {t : TypeId} {a : Option Addr} {m c e : Nat} {es be : Nat} {k' : IntKind} {lo : Int} {de : TypeDesc} {ze : Value} {sz by_ : Nat} {z : Value} {q : Operand} [hT : HasT P t (.slice e) sz by_ z] [hE : HasT P e de es be ze]
    (hx : opnd s x = some (.slice a m c)) (hq : opnd s q = some (.int k' lo)) (hj : lo = (j : Int)) (h2 : j ≤ m) : Ev P s (.slice t x (some q) none none) ty w (.slice (cutAt a j c es) (m - j) (c - j)) w := by
  subst hj
  exact Ev.sliceL (hT := hT) (hE := hE) hx hq (by omega) (by omega)
theorem Ev.slice3n (j i : Nat) {t : TypeId} {a : Option Addr} {m c e : Nat} {es be : Nat} {k k' : IntKind} {hi mx : Int} {de : TypeDesc} {ze : Value} {sz by_ : Nat} {z : Value} {p q : Operand} [hT : HasT P t (.slice e) sz by_ z] [hE : HasT P e de es be ze]
    (hx : opnd s x = some (.slice a m c)) (hq : opnd s q = some (.int k' hi)) (hp : opnd s p = some (.int k mx)) (hj : hi = (j : Int)) (hi' : mx = (i : Int)) (h1 : j ≤ i) (h2 : i ≤ c) : Ev P s (.slice t x none (some q) (some p)) ty w (.slice a j i) w := fun ρ d' pos af g hρ => by
  subst hi'; subst hj
  have e1 := hρ x _ hx
  have e2 := hρ q _ hq
  have e3 := hρ p _ hp
  have e4 : (0 : Int) ≤ (j : Int) := by omega
  have e5 : (0 : Int) ≤ (i : Int) := by omega
  simp [execOp, e1, e2, e3, Instr.sliceAt, Instr.slice, hT.underlying, Instr.sliceBounds, Instr.sliceBound, asIntOf, h1, h2, hE.sizeOf]
  intro _; cases a <;> simp [Addr.add]

/-! ### Results -/
theorem bodyA.ret3 {fn : Func} {R : Value → World → Prop} {t u q : Nat} {v x z : Value} (hr : fn.results = #[.tmp t, .tmp u, .tmp q]) (ht : look s t = some v) (hu : look s u = some x) (hq : look s q = some z) (h : R (.tuple [v, x, z].toArray) w) : bodyA P fn n R .ret [] s w :=
  bodyA.retR3 hr (RVal.tmp ht) (RVal.tmp hu) (RVal.tmp hq) h
/-! ### Bools that part -/
theorem WL.boolCase {b : Bool} (ht : b = true → WL P ops K rest n D ((d, .bool true) :: s) w) (hf : b = false → WL P ops K rest n D ((d, .bool false) :: s) w) : WL P ops K rest n D ((d, .bool b) :: s) w := by
  cases b
  · exact hf rfl
  · exact ht rfl
theorem Subs.consB {s s' : Sl} {t : Nat} {b b' : Bool} (h : look s t = some (.bool b')) (hb : b' = b) (hs : Subs s' s) : Subs ((t, .bool b) :: s') s := by
  subst hb; exact Subs.cons h hs
theorem Subs.consI {s s' : Sl} {t : Nat} {k : IntKind} {i i' : Int} (h : look s t = some (.int k i')) (hi : i' = i) (hs : Subs s' s) : Subs ((t, .int k i) :: s') s := by
  subst hi; exact Subs.cons h hs
theorem Subs.drop1 {s s' : Sl} {k : Nat} {v : Value} (h : look s' k = none) (hs : Subs s' s) : Subs s' ((k, v) :: s) := fun t x hx => by
  rw [look_cons]
  by_cases e : k = t
  · subst e; rw [h] at hx; cases hx
  · rw [if_neg e]; exact hs t x hx
theorem CW.seqM {A : AQ} {x y : Code} (c : Nat) (b : Bool) (hx : CW P x (thenK (fun D' s' w' => D' = D ∧ w' = w ∧ Subs ((c, .bool b) :: s) s') A) n D s w) (hy : CW P y A n D ((c, .bool b) :: s) w) : CW P (.seq x y) A n D s w :=
  CW.seqJ _ hx fun D' s' w' ⟨h1, h2, h3⟩ => by subst h1; subst h2; exact hy.sub h3

/-! ### Lists as cells -/
section
variable {α : Type}
theorem map_at (f : α → Value) {l : List α} {i : Nat} (d0 : α) (h : i < l.length) : (l.map f)[i]? = some (f (l.getD i d0)) := by
  rw [List.getElem?_map, List.getD_eq_getElem?_getD, List.getElem?_eq_getElem h]; rfl
end
def u32v (n : Nat) : Value := .int .u32 (n : Int)
def u64v (n : Nat) : Value := .int .u64 (n : Int)
def u8v (n : Nat) : Value := .int .u8 (n : Int)
def f64v (n : Nat) : Value := .float .f64 n
theorem u32_one (l : List Nat) : ∀ v ∈ l.map u32v, v.oneCell' = true := fun v hv => by obtain ⟨x, _, rfl⟩ := List.mem_map.1 hv; rfl
theorem RW.u32 {a : Option Addr} {l : List Nat} {j : Nat} (h : RW w a (l.map u32v)) (hj : j < l.length) : w.cell? (adr a j) = some (.int .u32 ((l.getD j 0 : Nat) : Int)) := h.at_ (map_at u32v 0 hj)
theorem RW.f64 {a : Option Addr} {l : List Nat} {j : Nat} (h : RW w a (l.map f64v)) (hj : j < l.length) : w.cell? (adr a j) = some (.float .f64 (l.getD j 0)) := h.at_ (map_at f64v 0 hj)
def OB (w : World) (b : Nat) (E : TypeId) (l : List Nat) : Prop := w.heap[b]? = some (.cells (l.map u32v).toArray E (0, 0))
theorem OB.u32 {b : Nat} {E : TypeId} {l : List Nat} {j : Nat} (h : OB w b E l) (hj : j < l.length) : w.cell? ⟨b, j, none⟩ = some (.int .u32 ((l.getD j 0 : Nat) : Int)) := by
  rw [cell_at h]; exact map_at u32v 0 hj
theorem OB.row {b : Nat} {E : TypeId} {l : List Nat} (h : OB w b E l) : RW w (some ⟨b, 0, none⟩) (l.map u32v) := RW.of_heap h
theorem OB.keep {b : Nat} {E : TypeId} {l : List Nat} {T : List Nat} {w' : World} (h : OB w b E l) (hc : Chg T w w') (hT : b ∉ T) : OB w' b E l := hc.heap h hT
theorem OB.keep0 {b : Nat} {E : TypeId} {l : List Nat} {w' : World} (h : OB w b E l) (hc : Chg [] w w') : OB w' b E l := hc.heap h (by simp)
theorem OB.lt {b : Nat} {E : TypeId} {l : List Nat} (h : OB w b E l) : b < w.heap.size := lt_of_heap h
theorem WL.storeU {t : TypeId} {ds : TypeDesc} {by_ : Nat} {z : Value} {b i v : Nat} {l : List Nat} {E : TypeId} [hT : HasT P t ds 1 by_ z] (hx : opnd s x = some (.pointer (some ⟨b, i, none⟩))) (hy : opnd s y = some (.int .u32 (v : Int)))
    (hb : OB w b E l) (hi : i < l.length) (k : ∀ w', OB w' b E (l.set i v) → Chg [b] w w' → WL P ops K rest n D s w') : WL P ops K (⟨none, .store t x y, ty, pos, af, none⟩ :: rest) n D s w :=
  WL.store (l := l.map u32v) (v := u32v v) hx hy rfl hb (by simpa using hi) fun w' hu => k w' (by have := hu.at_; rw [← List.map_set] at this; exact this) hu.chg
theorem Chg.step {T T' : List Nat} {a b c : World} (h : Chg T a b) (k : Chg T' b c) (hT : ∀ x, x ∈ T' → x ∈ T ∨ a.heap.size ≤ x) : Chg T a c :=
  ⟨k.os.trans h.os, k.tape.trans h.tape, k.output.trans h.output, Nat.le_trans h.size k.size, fun i hi hn => (k.block i (Nat.lt_of_lt_of_le hi h.size) fun hm => by
    rcases hT i hm with q | q
    · exact hn q
    · omega).trans (h.block i hi hn)⟩
theorem madeU {z : Value} (hz : z.cells = #[.int .u32 0]) (n : Nat) : madeCells z.cells (n * 1) = ((List.replicate n 0).map u32v).toArray := by
  rw [hz, Nat.mul_one]
  apply Array.ext'
  simp [madeCells, List.map_replicate, u32v, Nat.mod_one, List.map_const']
theorem WL.makeU (j i : Nat) {t : TypeId} {e be : Nat} {kl kc : IntKind} {l c : Int} {sz by_ : Nat} {z : Value} [hT : HasT P t (.slice e) sz by_ z] [hE : HasT P e (.int .u32) 1 be (.int .u32 0)] (hx : opnd s x = some (.int kl l)) (hy : opnd s y = some (.int kc c))
    (hl : l = (j : Int)) (hc : c = (i : Int)) (hlc : j ≤ i) (hb : be * i ≤ 281474976710656) (h63 : i ≤ 281474976710656) (hd : Nat.blt d n = true)
    (k : ∀ b w', OB w' b e (List.replicate i 0) → Chg [] w w' → w.heap.size ≤ b → WL P ops K rest n D ((d, .slice (some ⟨b, 0, none⟩) j i) :: s) w') : WL P ops K (⟨some d, .makeSlice t x y, ty, pos, af, none⟩ :: rest) n D s w := by
  subst hl; subst hc
  refine WL.make (hT := hT) (hE := hE) hx hy (by omega) (by omega) (by rw [show (be : Int) * (i : Int) = ((be * i : Nat) : Int) by simp]; omega) (by omega) hd fun b w' hn => ?_
  have h1 := hn.at_
  rw [show (i : Int).toNat = i by omega, madeU (by rfl)] at h1
  exact k b w' h1 hn.chg hn.ge
theorem WL.copyU {t t' : TypeId} {e be : Nat} {b m c n' c2 : Nat} {a : Option Addr} {l xs : List Nat} {sz by_ : Nat} {z ze : Value} {de : TypeDesc} [hT : HasT P t (.slice e) sz by_ z] [hE : HasT P e de 1 be ze] (hx : opnd s x = some (.slice (some ⟨b, 0, none⟩) m c)) (hy : opnd s y = some (.slice a n' c2)) (hb : OB w b e l) (hr : RW w a (xs.map u32v)) (hn : n' ≤ xs.length) (hm : m ≤ l.length) (hd : Nat.blt d n = true)
    (k : ∀ w', OB w' b e (xs.take (min n' m) ++ l.drop (min n' m)) → Chg [b] w w' → WL P ops K rest n D ((d, .int .i64 ((min n' m : Nat) : Int)) :: s) w') : WL P ops K (⟨some d, .call ⟨.builtin .copy, [x, y].toArray, #[t, t']⟩, ty, pos, af, none⟩ :: rest) n D s w := by
  obtain ⟨i, hi, hi1, hi2, hi3⟩ := hE.inf
  have hsz : (P.info? e).map (·.size) = some 1 := by rw [hi]; simp [hi1]
  by_cases h0 : min n' m = 0
  · refine WL.ev (v := goInt 0) (w' := w) (fun ρ d' pos af g hρ => ?_) hd ?_
    · have e1 := hρ x _ hx
      have e2 := hρ y _ hy
      have := run_copy_none (P := P) w t t' ty e (some ⟨b, 0, none⟩) a m c n' c2 hT.und hsz h0
      simp [execOp, resolve, invoke, builtin, e1, e2, this]
    · have := k w (by rw [h0]; simpa using hb) (Chg.refl _ _)
      rw [h0] at this
      exact this
  · obtain ⟨ad, rfl⟩ := hr.some_ (by simp; omega)
    have hlen : ((xs.take (min n' m)).map u32v).length = Nat.min n' m := by
      show _ = min n' m
      simp; omega
    have hrun := run_copy_row (P := P) w t t' ty e b 0 m c ad n' c2 (l.map u32v).toArray e ((xs.take (min n' m)).map u32v) hT.und hsz hb hlen
      (fun j v hv => by
        obtain ⟨ad', e0, h2⟩ := (by rw [List.map_take]; exact hr.take (min n' m) : RW w (some ad) ((xs.take (min n' m)).map u32v)) j v hv
        cases e0; exact h2)
      (by simp; omega) (u32_one _)
    obtain ⟨Wn, hWn⟩ : ∃ Wn, Wn = w.setRow b ((l.map u32v).toArray.toList.take 0 ++ (xs.take (min n' m)).map u32v ++ (l.map u32v).toArray.toList.drop (0 + ((xs.take (min n' m)).map u32v).length)).toArray := ⟨_, rfl⟩
    rw [← hWn] at hrun
    refine WL.ev (v := goInt ((xs.take (min n' m)).map u32v).length) (w' := Wn) (fun ρ d' pos af g hρ => ?_) hd ?_
    · have e1 := hρ x _ hx
      have e2 := hρ y _ hy
      simp [execOp, resolve, invoke, builtin, e1, e2, hrun]
    · rw [hlen]
      refine k _ ?_ ?_
      · have := setRow_heap w b _ ((l.map u32v).toArray.toList.take 0 ++ (xs.take (min n' m)).map u32v ++ (l.map u32v).toArray.toList.drop (0 + ((xs.take (min n' m)).map u32v).length)).toArray e (0, 0) hb
        rw [← hWn] at this
        unfold OB
        rw [this, hlen]
        simp [List.map_drop]
      · subst hWn
        exact ⟨rfl, rfl, rfl, by simp [World.setRow], fun q hq hnq => setRow_other w b q _ (by simpa using hnq)⟩
theorem Ev.neq_bool {t t' : TypeId} {sz by_ : Nat} {z : Value} {a b : Bool} [hT : HasT P t .bool sz by_ z] (hx : opnd s x = some (.bool a)) (hy : opnd s y = some (.bool b)) : Ev P s (.binOp .neq t x y t') ty w (.bool (a != b)) w :=
  run_bin hx hy (fun _ _ => eqGuard_bool _ _ _ _ _ _) (by
    have := run_eqIn (P := P) (w := w) (t := t) (u := .bool a) (v := .bool b) (r := a == b) fun d => by simp [Op.equalIn, hT.underlying]
    simp only [binOp]
    simp [this, bne])
theorem Ev.maxI {a b : Int} {t1 t2 : TypeId} (hx : opnd s x = some (.int .i64 a)) (hy : opnd s y = some (.int .i64 b)) : Ev P s (.call ⟨.builtin .max, [x, y].toArray, #[t1, t2]⟩) ty w (.int .i64 (max a b)) w := fun ρ d' pos af g hρ => by
  have e1 := hρ x _ hx
  have e2 := hρ y _ hy
  simp [execOp, resolve, invoke, builtin, e1, e2, Builtin.max_, Builtin.max2]
  by_cases h : a ≤ b
  · rw [Int.max_eq_right h]; simp [h]; try omega
  · rw [Int.max_eq_left (by omega)]; simp [h]; try omega
theorem Ev.minI {a b : Int} {t1 t2 : TypeId} (hx : opnd s x = some (.int .i64 a)) (hy : opnd s y = some (.int .i64 b)) : Ev P s (.call ⟨.builtin .min, [x, y].toArray, #[t1, t2]⟩) ty w (.int .i64 (min a b)) w := fun ρ d' pos af g hρ => by
  have e1 := hρ x _ hx
  have e2 := hρ y _ hy
  simp [execOp, resolve, invoke, builtin, e1, e2, Builtin.min_, Builtin.min2]
  by_cases h : a ≤ b
  · rw [Int.min_eq_left h]; simp [h]; try omega
  · rw [Int.min_eq_right (by omega)]; simp [h]; try omega
/-! ### Blocks of known cells -/
def BK (w : World) (b : Nat) (T : TypeId) (l : List Value) : Prop := w.heap[b]? = some (.cells l.toArray T (0, 0))
theorem BK.keep {b : Nat} {T : TypeId} {l : List Value} {U : List Nat} {w' : World} (h : BK w b T l) (hc : Chg U w w') (hT : b ∉ U) : BK w' b T l := hc.heap h hT
theorem BK.keep0 {b : Nat} {T : TypeId} {l : List Value} {w' : World} (h : BK w b T l) (hc : Chg [] w w') : BK w' b T l := hc.heap h (by simp)
theorem BK.lt {b : Nat} {T : TypeId} {l : List Value} (h : BK w b T l) : b < w.heap.size := lt_of_heap h
theorem BK.at_ {b : Nat} {T : TypeId} {l : List Value} {i : Nat} {v : Value} (h : BK w b T l) (hv : l[i]? = some v) : w.cell? ⟨b, i, none⟩ = some v := by rw [cell_at h]; exact hv
theorem BK.sub {b : Nat} {T : TypeId} {l cs : List Value} {o m : Nat} (h : BK w b T l) (hc : (l.drop o).take m = cs) : ∀ j v, cs[j]? = some v → w.cell? (Addr.add ⟨b, o, none⟩ j) = some v := fun j v hj => by
  subst hc
  rw [add_addr]
  refine h.at_ ?_
  rw [List.getElem?_take] at hj
  split at hj
  · rwa [List.getElem?_drop] at hj
  · cases hj
theorem Ev.loadB {t : TypeId} {ds : TypeDesc} {sz by_ b o : Nat} {z : Value} {T : TypeId} {l cs : List Value} [hT : HasT P t ds sz by_ z] (hd : aggD ds = true) (hx : opnd s x = some (.pointer (some ⟨b, o, none⟩))) (hb : BK w b T l) (hc : (l.drop o).take sz = cs) (hl : cs.length = sz) : Ev P s (.load t x) ty w (.agg cs.toArray) w :=
  Ev.loadAgg hd hl hx (hb.sub hc)
theorem Ev.loadA {t : TypeId} {ds : TypeDesc} {sz by_ b : Nat} {z : Value} {T : TypeId} {l : List Value} [hT : HasT P t ds sz by_ z] (hd : aggD ds = true) (hx : opnd s x = some (.pointer (some ⟨b, 0, none⟩))) (hb : BK w b T l) (hl : l.length = sz) : Ev P s (.load t x) ty w (.agg l.toArray) w :=
  Ev.loadAgg hd hl hx (hb.sub (m := l.length) (by simp))
theorem BK.varA {t : TypeId} {ds : TypeDesc} {sz by_ b : Nat} {z : Value} {T : TypeId} {l : List Value} [hT : HasT P t ds sz by_ z] (hb : BK w b T l) (hd : aggD ds = true) (hl : l.length = sz) : (loadVar t ⟨b, 0, none⟩).run P w = .ok (.agg l.toArray) w :=
  loadVar_agg hd hl (hb.sub (m := l.length) (by simp))
theorem BK.var1 {t : TypeId} {ds : TypeDesc} {sz by_ b o : Nat} {z v : Value} {T : TypeId} {l : List Value} [hT : HasT P t ds sz by_ z] (hb : BK w b T l) (hd : aggD ds = false) (hc : l[o]? = some v) : (loadVar t ⟨b, o, none⟩).run P w = .ok v w :=
  loadVar_one hd (hb.at_ hc)
theorem WL.allocB {t : TypeId} {ds : TypeDesc} {sz by_ : Nat} {z : Value} {l : List Value} [hT : HasT P t ds sz by_ z] (hl : z.cells = l.toArray) (hd : Nat.blt d n = true)
    (k : ∀ b w', BK w' b t l → Chg [] w w' → w.heap.size ≤ b → WL P ops K rest n D ((d, .pointer (some ⟨b, 0, none⟩)) :: s) w') : WL P ops K (⟨some d, .alloc t, ty, pos, af, none⟩ :: rest) n D s w :=
  WL.alloc hl hd fun b w' hn => k b w' hn.at_ hn.chg hn.ge
theorem WL.boxB {t : TypeId} {v : Value} {l : List Value} (hx : opnd s x = some v) (hl : v.cells = l.toArray) (hd : Nat.blt d n = true)
    (k : ∀ b w', BK w' b t l → Chg [] w w' → w.heap.size ≤ b → WL P ops K rest n D ((d, .pointer (some ⟨b, 0, none⟩)) :: s) w') : WL P ops K (⟨some d, .box t x, ty, pos, af, none⟩ :: rest) n D s w :=
  WL.box hx hl hd fun b w' hn => k b w' hn.at_ hn.chg hn.ge
theorem WL.storeB {t : TypeId} {ds : TypeDesc} {sz by_ : Nat} {z : Value} {b i : Nat} {l l' vs : List Value} {T : TypeId} [hT : HasT P t ds sz by_ z] (hx : opnd s x = some (.pointer (some ⟨b, i, none⟩))) (hy : opnd s y = some (.agg vs.toArray)) (hs : vs.length = sz) (h1 : ∀ v ∈ vs, v.oneCell' = true)
    (hb : BK w b T l) (hi : i + vs.length ≤ l.length) (he : splice l i vs = l') (k : ∀ w', BK w' b T l' → Chg [b] w w' → WL P ops K rest n D s w') : WL P ops K (⟨none, .store t x y, ty, pos, af, none⟩ :: rest) n D s w := by
  subst he
  exact WL.storeAgg hx hy hs h1 hb hi fun w' hu => k w' hu.at_ hu.chg
theorem WL.storeC {t : TypeId} {ds : TypeDesc} {by_ : Nat} {z : Value} {b i : Nat} {l l' : List Value} {T : TypeId} {v : Value} [hT : HasT P t ds 1 by_ z] (hx : opnd s x = some (.pointer (some ⟨b, i, none⟩))) (hy : opnd s y = some v) (h1 : v.oneCell' = true)
    (hb : BK w b T l) (hi : i < l.length) (he : l.set i v = l') (k : ∀ w', BK w' b T l' → Chg [b] w w' → WL P ops K rest n D s w') : WL P ops K (⟨none, .store t x y, ty, pos, af, none⟩ :: rest) n D s w := by
  subst he
  exact WL.store hx hy h1 hb hi fun w' hu => k w' hu.at_ hu.chg
/-! ### Whatever order, where nothing old turns -/
theorem CW.regionHC {A : AQ} {id : Nat} {l : List Oper} (m : Nat) (hz : l.length = m) (hm : P.follows .mixedOrders = true)
    (h : ∀ R : KK, (∀ D s w, A .normal D s w → R D s w) → Chg [] w.drew w.drew → Chg [] w w.drew → WH P l.toArray R (Chg [] w.drew) m (Array.replicate m false) n D s w.drew) : CW P (.region id l.toArray true) A n D s w :=
  CW.regionH (Chg [] w.drew) m hz hm fun R hR => h R hR (Chg.refl _ _) (Chg.drew _ _)
theorem CW.regionSC {A : AQ} {id : Nat} {l : List Oper} (hm : P.follows .mixedOrders = true) (hB : Region.lexB .any l.toArray = true)
    (h : ∀ K : List Deferred → Sl → Prop, (∀ D s, A .normal D s w.drew → K D s) → Chg [] w w.drew → WS P l.toArray K l n D s w.drew) : CW P (.region id l.toArray true) A n D s w :=
  CW.regionS hm hB fun K hK => h K hK (Chg.drew _ _)
theorem CW.regionKC {A : AQ} {id : Nat} {l : List Oper} (z m : Nat) (hz : l.length = m) (hm : P.follows .mixedOrders = true)
    (h : ∀ R : KK, (∀ D s w, A .normal D s w → R D s w) → Chg [] w.drew w.drew → Chg [] w w.drew → WK P l.toArray R (Chg [] w.drew) z m (Array.replicate m false) n D s w.drew) : CW P (.region id l.toArray true) A n D s w :=
  CW.regionK (Chg [] w.drew) z m hz hm fun R hR => h R hR (Chg.refl _ _) (Chg.drew _ _)
/-! ### Two blocks that are stored as they are -/
theorem splice_same : ∀ (r l : List Value), splice (l ++ r) l.length r = l ++ r
  | [], l => by simp [splice]
  | x :: r, l => by
    have h := splice_same r (l ++ [x])
    simp only [splice]
    rw [show (l ++ x :: r).set l.length x = l ++ x :: r by simp]
    simpa using h
def S2 (b : Nat) (T : TypeId) (l : List Value) (b2 : Nat) (T2 : TypeId) (l2 : List Value) (w : World) : Prop := BK w b T l ∧ BK w b2 T2 l2
theorem CW.regionS2 {A : AQ} {id : Nat} {l : List Oper} (m : Nat) {b b2 : Nat} {T T2 : TypeId} {l1 l2 : List Value} (hb : BK w b T l1) (hb2 : BK w b2 T2 l2) (hz : l.length = m) (hm : P.follows .mixedOrders = true)
    (h : ∀ R : KK, (∀ D s w, A .normal D s w → R D s w) → S2 b T l1 b2 T2 l2 w.drew → Chg [] w w.drew → WH P l.toArray R (S2 b T l1 b2 T2 l2) m (Array.replicate m false) n D s w.drew) : CW P (.region id l.toArray true) A n D s w :=
  CW.regionH (S2 b T l1 b2 T2 l2) m hz hm fun R hR => h R hR ⟨hb.keep0 (Chg.drew _ _), hb2.keep0 (Chg.drew _ _)⟩ (Chg.drew _ _)
section
variable {fuel : Nat} {listed : Array Bool} {b b2 : Nat} {T T2 : TypeId} {l1 l2 : List Value}
theorem WH.same1 (i : Nat) {t : TypeId} {ds : TypeDesc} {sz by_ : Nat} {z0 : Value} {x y : Operand} [hT : HasT P t ds sz by_ z0] (hi : ops[i]? = some ⟨none, .store t x y, ty, pos, af, none⟩) (hr : Region.ready .any ops listed = [i])
    (hx : opnd s x = some (.pointer (some ⟨b, 0, none⟩))) (hy : opnd s y = some (.agg l1.toArray)) (hs : l1.length = sz) (h1 : ∀ v ∈ l1, v.oneCell' = true) (hne : b ≠ b2) (hS : S2 b T l1 b2 T2 l2 w)
    (k : ∀ w', S2 b T l1 b2 T2 l2 w' → Chg [b] w w' → WH P ops K (S2 b T l1 b2 T2 l2) fuel (listed.setIfInBounds i true) n D s w') : WH P ops K (S2 b T l1 b2 T2 l2) (fuel + 1) listed n D s w := by
  obtain ⟨w', he, hu⟩ := evS_storeAgg (P := P) (ty := ty) (t := t) (hT := hT) hx hy hs h1 hS.1 (by simp)
  have e := splice_same l1 []
  simp only [List.nil_append, List.length_nil] at e
  have h3 := hu.at_
  rw [e] at h3
  have h4 : S2 b T l1 b2 T2 l2 w' := ⟨h3, hS.2.keep hu.chg (by simpa using Ne.symm hne)⟩
  exact WH.oneS i hi hr he h4 (k w' h4 hu.chg)
theorem WH.same2 (i : Nat) {t : TypeId} {ds : TypeDesc} {sz by_ : Nat} {z0 : Value} {x y : Operand} [hT : HasT P t ds sz by_ z0] (hi : ops[i]? = some ⟨none, .store t x y, ty, pos, af, none⟩) (hr : Region.ready .any ops listed = [i])
    (hx : opnd s x = some (.pointer (some ⟨b2, 0, none⟩))) (hy : opnd s y = some (.agg l2.toArray)) (hs : l2.length = sz) (h1 : ∀ v ∈ l2, v.oneCell' = true) (hne : b ≠ b2) (hS : S2 b T l1 b2 T2 l2 w)
    (k : ∀ w', S2 b T l1 b2 T2 l2 w' → Chg [b2] w w' → WH P ops K (S2 b T l1 b2 T2 l2) fuel (listed.setIfInBounds i true) n D s w') : WH P ops K (S2 b T l1 b2 T2 l2) (fuel + 1) listed n D s w := by
  obtain ⟨w', he, hu⟩ := evS_storeAgg (P := P) (ty := ty) (t := t) (hT := hT) hx hy hs h1 hS.2 (by simp)
  have e := splice_same l2 []
  simp only [List.nil_append, List.length_nil] at e
  have h3 := hu.at_
  rw [e] at h3
  have h4 : S2 b T l1 b2 T2 l2 w' := ⟨hS.1.keep hu.chg (by simpa using hne), h3⟩
  exact WH.oneS i hi hr he h4 (k w' h4 hu.chg)
end
section
variable {A : AQ} {S : World → Prop} {z : Nat} {fuel : Nat} {listed : Array Bool} {op : Op}
theorem WK.storeB (i : Nat) {t : TypeId} {ds : TypeDesc} {sz by_ : Nat} {z0 : Value} {b o : Nat} {l l' vs : List Value} {T : TypeId} {x y : Operand} [hT : HasT P t ds sz by_ z0] (hi : ops[i]? = some ⟨none, .store t x y, ty, pos, af, none⟩) (hr : Region.ready .any ops listed = [i]) (hlast : (listed.setIfInBounds i true).getD z false = true)
    (hx : opnd s x = some (.pointer (some ⟨b, o, none⟩))) (hy : opnd s y = some (.agg vs.toArray)) (hs : vs.length = sz) (h1 : ∀ v ∈ vs, v.oneCell' = true)
    (hb : BK w b T l) (ho : o + vs.length ≤ l.length) (he : splice l o vs = l') (k : ∀ w', BK w' b T l' → Chg [b] w w' → WK P ops K S z fuel (listed.setIfInBounds i true) n D s w') : WK P ops K S z (fuel + 1) listed n D s w := by
  subst he
  obtain ⟨w', he, hu⟩ := evS_storeAgg (P := P) (ty := ty) (t := t) (hT := hT) hx hy hs h1 hb ho
  exact WK.oneS i hi hr he (fun e => by rw [hlast] at e; cases e) (k w' hu.at_ hu.chg)
theorem WK.storeC (i : Nat) {t : TypeId} {ds : TypeDesc} {by_ : Nat} {z0 : Value} {b o : Nat} {l l' : List Value} {T : TypeId} {u : Value} {x y : Operand} [hT : HasT P t ds 1 by_ z0] (hi : ops[i]? = some ⟨none, .store t x y, ty, pos, af, none⟩) (hr : Region.ready .any ops listed = [i]) (hlast : (listed.setIfInBounds i true).getD z false = true)
    (hx : opnd s x = some (.pointer (some ⟨b, o, none⟩))) (hy : opnd s y = some u) (h1 : u.oneCell' = true)
    (hb : BK w b T l) (ho : o < l.length) (he : l.set o u = l') (k : ∀ w', BK w' b T l' → Chg [b] w w' → WK P ops K S z fuel (listed.setIfInBounds i true) n D s w') : WK P ops K S z (fuel + 1) listed n D s w := by
  subst he
  exact WK.storeLast i hi hr hlast hx hy h1 hb ho fun w' hu => k w' hu.at_ hu.chg
theorem WK.storeU (i : Nat) {t : TypeId} {ds : TypeDesc} {by_ : Nat} {z0 : Value} {b o v : Nat} {l : List Nat} {E : TypeId} {x y : Operand} [hT : HasT P t ds 1 by_ z0] (hi : ops[i]? = some ⟨none, .store t x y, ty, pos, af, none⟩) (hr : Region.ready .any ops listed = [i]) (hlast : (listed.setIfInBounds i true).getD z false = true)
    (hx : opnd s x = some (.pointer (some ⟨b, o, none⟩))) (hy : opnd s y = some (.int .u32 (v : Int)))
    (hb : OB w b E l) (ho : o < l.length) (k : ∀ w', OB w' b E (l.set o v) → Chg [b] w w' → WK P ops K S z fuel (listed.setIfInBounds i true) n D s w') : WK P ops K S z (fuel + 1) listed n D s w :=
  WK.storeLast (l := l.map u32v) (u := u32v v) i hi hr hlast hx hy rfl hb (by simpa using ho) fun w' hu => k w' (by have := hu.at_; rw [← List.map_set] at this; exact this) hu.chg
theorem WK.after (i : Nat) {d : Nat} {v : Value} (hi : ops[i]? = some ⟨some d, op, ty, pos, af, none⟩) (hr : Region.ready .any ops listed = [i]) (hlast : (listed.setIfInBounds i true).getD z false = true) (he : Ev P s op ty w v w) (hd : Nat.blt d n = true)
    (k : WK P ops K S z fuel (listed.setIfInBounds i true) n D ((d, v) :: s) w) : WK P ops K S z (fuel + 1) listed n D s w :=
  WK.one i hi hr he (fun e => by rw [hlast] at e; cases e) hd k
end
theorem Ev.indexS {t : TypeId} {bs : ByteArray} {k : IntKind} {i : Nat} {c : UInt8} {sz by_ : Nat} {z : Value} [hT : HasT P t .string sz by_ z] (hx : opnd s x = some (.string bs)) (hy : opnd s y = some (.int k (i : Int))) (hc : bs[i]? = some c) : Ev P s (.index t x y) ty w (.int .u8 (c.toNat : Int)) w := fun ρ d' pos af g hρ => by
  have e1 := hρ x _ hx
  have e2 := hρ y _ hy
  have e3 : (0 : Int) ≤ (i : Int) := by omega
  simp [execOp, e1, e2, Instr.index, asIntOf, hT.underlying, hc]
end
end Sx

/- Short names for what the walks say most often. No condition. -/
namespace Sx
open Go

theorem qs : (∀ (p : Prop) [Decidable p], (decide p = true) = p) ∧ (∀ (p : Prop) [Decidable p], (decide p = false) = ¬ p) ∧ (∀ (p : Prop) [Decidable p], (¬ ¬ p) = p) ∧ (∀ a b : Bool, ((a && b) = true) = (a = true ∧ b = true)) ∧ (∀ a b : Bool, ((a || b) = true) = (a = true ∨ b = true)) ∧ (∀ b : Bool, ((!b) = true) = (b = false)) ∧ (∀ b : Bool, ((!b) = false) = (b = true)) ∧ (∀ (α : Type) (a b : α), (a ≠ b) = ¬ a = b) ∧ (∀ a b : Int, (¬ a < b) = (b ≤ a)) ∧ (∀ a b : Int, (¬ a ≤ b) = (b < a)) :=
  ⟨fun p _ => by simp, fun p _ => by simp, fun p _ => by simp [Decidable.not_not], fun a b => by simp, fun a b => by simp, fun b => by simp, fun b => by simp, fun _ a b => rfl, fun a b => propext Int.not_lt, fun a b => propext Int.not_le⟩
theorem qt : (∀ (x y : Value) (l : List Value), (x :: l).set 0 y = y :: l) ∧ (∀ (x y : Value) (l : List Value) (i : Nat), (x :: l).set (i + 1) y = x :: l.set i y) ∧ (∀ n : Nat, 0 + n = n) := ⟨fun _ _ _ => rfl, fun _ _ _ _ => rfl, Nat.zero_add⟩
theorem Chg.s1 {T : List Nat} {b : Nat} {w0 w w' : World} (h : Chg T w0 w) (k : Chg [b] w w') (hb : b ∈ T ∨ w0.heap.size ≤ b := by first | exact .inr (by first | assumption | omega) | exact .inl (by simp)) : Chg T w0 w' :=
  h.step k fun y hy => by simp only [List.mem_singleton] at hy; subst hy; exact hb
section
variable {P : Program} {n : Nat} {D : List Deferred} {s : Sl} {w : World} {ops : Array Oper} {K : KK} {rest : List Oper} {ty : TypeId} {pos : String} {af : Array Edge} {d : Nat} {x : Operand} {v : Value}
theorem Mv (h : opnd s x = some v) (hd : Nat.blt d n = true) (k : WL P ops K rest n D ((d, v) :: s) w) : WL P ops K (⟨some d, .move x, ty, pos, af, none⟩ :: rest) n D s w := WL.ev (Ev.move h) hd k
theorem As (h : opnd s x = some v) (hd : Nat.blt d n = true) (k : WL P ops K rest n D ((d, v) :: s) w) : WL P ops K (⟨some d, .assign x, ty, pos, af, none⟩ :: rest) n D s w := WL.ev (Ev.assign h) hd k
theorem Sq {A : AQ} {id : Nat} {l : List Oper} {y : Code} (h : ∀ K : KK, (∀ D s w, CW P y A n D s w → K D s w) → ∀ R : KK, (∀ D s w, thenK K A .normal D s w → R D s w) → WL P l.toArray R l n D s w) : CW P (.seq (.region id l.toArray false) y) A n D s w :=
  CW.seq fun K kh => CW.region fun R kr => h K kh R kr
end
end Sx

/- The engine, more operations. No condition. -/
namespace Sx
open Go
section
variable {P : Program} {n : Nat} {D : List Deferred} {s : Sl} {w : World} {ty : TypeId} {x y : Operand} {ops : Array Oper} {K : KK} {rest : List Oper} {pos : String} {af : Array Edge} {d : Nat}
theorem Ev.shlI {t t' : TypeId} {a b c : Int} {k' : IntKind} (hx : opnd s x = some (.int .i64 a)) (hy : opnd s y = some (.int k' b)) (hb : 0 ≤ b) (hc : IntKind.i64.wrap (a * 2 ^ (min b.toNat 64)) = c) : Ev P s (.binOp .shl t x y t') ty w (.int .i64 c) w := by
  subst hc
  exact Ev.shl (P := P) (w := w) (ty := ty) (t := t) (t' := t') hx hy hb
theorem Ev.andI {t t' : TypeId} {a b : Nat} (hx : opnd s x = some (.int .i64 (a : Int))) (hy : opnd s y = some (.int .i64 (b : Int))) (ha : a < 9223372036854775808) (hb : b < 9223372036854775808) : Ev P s (.binOp .and t x y t') ty w (.int .i64 ((a &&& b : Nat) : Int)) w := by
  have := Ev.and (P := P) (w := w) (ty := ty) (t := t) (t' := t') hx hy
  have ha' : a < 2 ^ IntKind.i64.bits := by show a < 2 ^ 64; omega
  have hb' : b < 2 ^ IntKind.i64.bits := by show b < 2 ^ 64; omega
  have e : bits2 .and .i64 (a : Int) (b : Int) = ((a &&& b : Nat) : Int) := by
    simp only [bits2, ofInt_nat, BitVec.toNat_and, BitVec.toNat_ofNat, Nat.mod_eq_of_lt ha', Nat.mod_eq_of_lt hb']
    have : a &&& b < 2 ^ 63 := Nat.and_lt_two_pow _ hb
    exact wrap_i64 (by omega)
  rwa [e] at this
theorem Ev.indexAr {t e m be : Nat} {l : List Value} {k : IntKind} {i : Nat} {v : Value} {de : TypeDesc} {ze : Value} {sz by_ : Nat} {z : Value} [hT : HasT P t (.array m e) sz by_ z] [hE : HasT P e de 1 be ze] (hx : opnd s x = some (.agg l.toArray)) (hy : opnd s y = some (.int k (i : Int))) (hi : i < m) (hd : aggD de = false) (hv : l[i]? = some v) : Ev P s (.index t x y) ty w v w := fun ρ d' pos af g hρ => by
  have e1 := hρ x _ hx
  have e2 := hρ y _ hy
  have e3 : (0 : Int) ≤ (i : Int) := by omega
  have e4 : (i : Int) < (m : Int) := by omega
  simp [execOp, e1, e2, Instr.index, asIntOf, hT.underlying, e3, e4, hE.sizeOf, part, hE.isAgg, hd, hv, hi]
theorem Ev.buildA {t e m : Nat} {ee : TypeDesc} {es eb : Nat} {ze : Value} {sz by_ : Nat} {z : Value} {ps : List (Nat × Operand)} {vs : List (Nat × Value)} {cs : List Value} [hT : HasT P t (.array m e) sz by_ z] [hE : HasT P e ee es eb ze]
    (hx : opndP s ps = some vs) (hf : Instr.fill (fun i => some (i * es, es)) z.cells vs = some cs.toArray) : Ev P s (.build t ps.toArray) ty w (.agg cs.toArray) w := fun ρ d' pos af g hρ => by
  have h1 := opndP_map hρ ps vs hx
  simp [execOp, Instr.build, hT.zero, hT.underlying, hE.sizeOf, h1, hf]
/-! ### Blocks of numbers of 64 bits -/
def FB (w : World) (b : Nat) (E : TypeId) (l : List Nat) : Prop := w.heap[b]? = some (.cells (l.map f64v).toArray E (0, 0))
theorem FB.row {b : Nat} {E : TypeId} {l : List Nat} (h : FB w b E l) : RW w (some ⟨b, 0, none⟩) (l.map f64v) := RW.of_heap h
theorem FB.keep {b : Nat} {E : TypeId} {l : List Nat} {T : List Nat} {w' : World} (h : FB w b E l) (hc : Chg T w w') (hT : b ∉ T) : FB w' b E l := hc.heap h hT
theorem FB.keep0 {b : Nat} {E : TypeId} {l : List Nat} {w' : World} (h : FB w b E l) (hc : Chg [] w w') : FB w' b E l := hc.heap h (by simp)
theorem FB.lt {b : Nat} {E : TypeId} {l : List Nat} (h : FB w b E l) : b < w.heap.size := lt_of_heap h
theorem madeF {z : Value} (hz : z.cells = #[.float .f64 0]) (n : Nat) : madeCells z.cells (n * 1) = ((List.replicate n 0).map f64v).toArray := by
  rw [hz, Nat.mul_one]
  apply Array.ext'
  simp [madeCells, List.map_replicate, f64v, Nat.mod_one, List.map_const']
theorem WL.makeF (j i : Nat) {t : TypeId} {e be : Nat} {kl kc : IntKind} {l c : Int} {sz by_ : Nat} {z : Value} [hT : HasT P t (.slice e) sz by_ z] [hE : HasT P e (.float .f64) 1 be (.float .f64 0)] (hx : opnd s x = some (.int kl l)) (hy : opnd s y = some (.int kc c))
    (hl : l = (j : Int)) (hc : c = (i : Int)) (hlc : j ≤ i) (hb : be * i ≤ 281474976710656) (h63 : i ≤ 281474976710656) (hd : Nat.blt d n = true)
    (k : ∀ b w', FB w' b e (List.replicate i 0) → Chg [] w w' → w.heap.size ≤ b → WL P ops K rest n D ((d, .slice (some ⟨b, 0, none⟩) j i) :: s) w') : WL P ops K (⟨some d, .makeSlice t x y, ty, pos, af, none⟩ :: rest) n D s w := by
  subst hl; subst hc
  refine WL.make (hT := hT) (hE := hE) hx hy (by omega) (by omega) (by rw [show (be : Int) * (i : Int) = ((be * i : Nat) : Int) by simp]; omega) (by omega) hd fun b w' hn => ?_
  have h1 := hn.at_
  rw [show (i : Int).toNat = i by omega, madeF (by rfl)] at h1
  exact k b w' h1 hn.chg hn.ge
theorem WL.storeF {t : TypeId} {ds : TypeDesc} {by_ : Nat} {z : Value} {b i v : Nat} {l : List Nat} {E : TypeId} [hT : HasT P t ds 1 by_ z] (hx : opnd s x = some (.pointer (some ⟨b, i, none⟩))) (hy : opnd s y = some (.float .f64 v))
    (hb : FB w b E l) (hi : i < l.length) (k : ∀ w', FB w' b E (l.set i v) → Chg [b] w w' → WL P ops K rest n D s w') : WL P ops K (⟨none, .store t x y, ty, pos, af, none⟩ :: rest) n D s w :=
  WL.store (l := l.map f64v) (v := f64v v) hx hy rfl hb (by simpa using hi) fun w' hu => k w' (by have := hu.at_; rw [← List.map_set] at this; exact this) hu.chg
theorem WL.appendF {t e be : Nat} {ze : Value} {sz by_ : Nat} {z : Value} {b m cap c2 : Nat} {l : List Nat} {v : Nat} {ad : Addr} [hT : HasT P t (.slice e) sz by_ z] [hE : HasT P e (.float .f64) 1 be ze]
    (hx : opnd s x = some (.slice (some ⟨b, 0, none⟩) m cap)) (hy : opnd s y = some (.slice (some ad) 1 c2)) (hb : FB w b e l) (hc : w.cell? ad = some (.float .f64 v)) (hroom : m + 1 ≤ cap) (hfit : m < l.length) (hd : Nat.blt d n = true)
    (k : ∀ w', FB w' b e (l.set m v) → Chg [b] w w' → WL P ops K rest n D ((d, .slice (some ⟨b, 0, none⟩) (m + 1) cap) :: s) w') : WL P ops K (⟨some d, .call ⟨.builtin .append, [x, y].toArray, #[t, t]⟩, ty, pos, af, none⟩ :: rest) n D s w := by
  obtain ⟨i, hi, hi1, hi2, hi3⟩ := hE.inf
  have hu := upd_setCell w b m (l.map f64v) e (f64v v) hb
  have hrun := run_append_room_cells (P := P) w t ty e i hT.und hi b 0 m cap ad 1 c2 [f64v v] (by simp [hi1]) (fun j u hu => by
      cases j with
      | zero => simp at hu; subst hu; simpa [Addr.add, f64v] using hc
      | succ j => simp at hu) (by simp; rfl) hroom (fun j hj => by
      have : j = 0 := by simpa using hj
      subst this
      rw [hi1, cell_at hb]; simp; omega) (fun j hj => frozen_no hb)
  have hw : w.setCells b (0 + m * i.size) [f64v v] = w.setCell ⟨b, m, none⟩ (f64v v) := by
    rw [hi1]; simp [World.setCells]
  rw [hw] at hrun
  refine WL.ev (v := .slice (some ⟨b, 0, none⟩) (m + 1) cap) (w' := w.setCell ⟨b, m, none⟩ (f64v v)) (fun ρ d' pos af g hρ => ?_) hd (k _ ?_ hu.chg)
  · have e1 := hρ x _ hx
    have e2 := hρ y _ hy
    simp [execOp, resolve, invoke, builtin, e1, e2, hrun]
  · have := hu.at_; rw [← List.map_set] at this; exact this
/-! ### An operation that reads no memory, and for which the last one does not wait -/
section
variable {P : Program} {ops : Array Oper} {Q : Exit → Act → World → Prop} {S : World → Prop} {z : Nat}
theorem anyK_firstT {i : Nat} {oi : Oper} {v : Value} (hi : ops[i]? = some oi) (hsel : Region.noSelect ops = true) (hQ : ∀ c a w, Q (.panic c) (a.put oi.dst v) w → Q (.panic c) a w) (hzi : z ≠ i) :
    ∀ (fuel : Nat) (listed : Array Bool) (a : Act) (w : World), (∀ j oj, ops[j]? = some oj → j ≠ i → listed.getD j true = false → (∀ e ∈ oj.after, Region.binds .any e = true → e.on ≠ i) → oi.apart ops oj = true) →
      i ∈ Region.ready .any ops listed → YieldsIf P ops (fun _ => True) oi v a → (listed.getD z false = false → S w) → anyK P ops Q S z fuel (listed.setIfInBounds i true) (a.put oi.dst v) w → anyK P ops Q S z (fuel + 1) listed a w := by
  have hset : ∀ (listed : Array Bool), (listed.setIfInBounds i true).getD z false = listed.getD z false := fun listed => getD_set_ne false (Ne.symm hzi)
  intro fuel
  induction fuel with
  | zero =>
    intro listed a w _ hr hy hS H
    refine ⟨fun h => (by rw [h] at hr; cases hr), fun j hj => ?_⟩
    by_cases e : j = i
    · subst e; exact hy.wpOp hi trivial ⟨fun q => hS (by rw [← hset]; exact q), H⟩
    · have := ready_mono hj e
      rw [H.1] at this; cases this
  | succ fuel ih =>
    intro listed a w hfree hr hy hS H
    refine ⟨fun h => (by rw [h] at hr; cases hr), fun j hj => ?_⟩
    by_cases e : j = i
    · subst e; exact hy.wpOp hi trivial ⟨fun q => hS (by rw [← hset]; exact q), H⟩
    · have h1 := H.2 j (ready_mono hj e)
      obtain ⟨hjun, oj, hoj, hall⟩ := mem_ready.1 hj
      have hnot : ∀ e ∈ oj.after, Region.binds .any e = true → e.on ≠ i := fun e he hb heq => by
        have h1 := hall e he hb
        have h0 := (mem_ready.1 hr).1
        rw [heq] at h1
        rcases Nat.lt_or_ge i listed.size with q | q
        · simp [q] at h0 h1; rw [h0] at h1; cases h1
        · simp [Array.getElem?_eq_none q] at h1
      have h2 := wpOp_putIf hoj (hfree j oj hoj e hjun hnot) (fun cs b => Region.noSelect_spec hsel i oi cs b hi) (fun cs b => Region.noSelect_spec hsel j oj cs b hoj) hQ hy h1
      have hcm : ((listed.setIfInBounds i true).setIfInBounds j true).getD z false = (listed.setIfInBounds j true).getD z false := by
        rw [Array.setIfInBounds_comm _ _ (Ne.symm e)]; exact hset _
      refine wpOp_mono (fun a' w' h3 => ⟨fun q => h3.2.1 (by rw [hcm]; exact q), ih (listed.setIfInBounds j true) a' w' (fun k ok hk hki hun hno => hfree k ok hk hki ?_ hno) (ready_mono hr (Ne.symm e)) h3.1 (fun q => h3.2.1 (by rw [hcm]; exact q)) ?_⟩) h2
      · by_cases hjk : j = k
        · subst hjk; exact hjun
        · rw [getD_set_ne true hjk] at hun; exact hun
      · rw [Array.setIfInBounds_comm _ _ e]
        exact h3.2.2
end
theorem WK.takeT {S : World → Prop} {z fuel : Nat} {listed : Array Bool} {op : Op} {v : Value} (i : Nat) (hi : ops[i]? = some ⟨some d, op, ty, pos, af, none⟩) (hs : Region.noSelect ops = true) (hf : Region.free .any ops listed i = true) (hr : (Region.ready .any ops listed).contains i = true) (hzi : Nat.beq z i = false)
    (hS : listed.getD z false = false → S w) (he : ∀ w, Ev P s op ty w v w) (hd : Nat.blt d n = true) (k : WK P ops K S z fuel (listed.setIfInBounds i true) n D ((d, v) :: s) w) : WK P ops K S z (fuel + 1) listed n D s w := fun a ha =>
  anyK_firstT hi hs (fun c a w h => h.elim) (fun e => by rw [e] at hzi; simp at hzi) fuel listed a w (Region.free_spec hi hf) (by simpa using hr) (.inl ⟨by simp [Region.wanted], fun w' hw' => he w' a.eval (some d) pos af none fun x u hx => ha.eval hx⟩) hS (k _ (ha.put hd v))
/-! ### A row of words of 64 bits at the head of a block -/
def TB (w : World) (b : Nat) (T : TypeId) (L : List Nat) (R : List Value) : Prop := BK w b T (L.map u64v ++ R)
section
variable {b : Nat} {T : TypeId} {L : List Nat} {R : List Value}
theorem TB.keep {U : List Nat} {w' : World} (h : TB w b T L R) (hc : Chg U w w') (hT : b ∉ U) : TB w' b T L R := hc.heap h hT
theorem TB.keep0 {w' : World} (h : TB w b T L R) (hc : Chg [] w w') : TB w' b T L R := hc.heap h (by simp)
theorem TB.lt (h : TB w b T L R) : b < w.heap.size := lt_of_heap h
theorem TB.t64 {j : Nat} (h : TB w b T L R) (hj : j < L.length) : w.cell? ⟨b, j, none⟩ = some (.int .u64 ((L.getD j 0 : Nat) : Int)) :=
  BK.at_ h (by rw [List.getElem?_append_left (by simpa using hj)]; exact map_at u64v 0 hj)
theorem TB.tail_ {j : Nat} {v : Value} (h : TB w b T L R) (hv : R[j]? = some v) : w.cell? ⟨b, L.length + j, none⟩ = some v :=
  BK.at_ h (by rw [List.getElem?_append_right (by simp), List.length_map, Nat.add_sub_cancel_left]; exact hv)
theorem TB.set_ {L : List Nat} {R : List Value} {i v : Nat} (hi : i < L.length) : (L.map u64v ++ R).set i (u64v v) = (L.set i v).map u64v ++ R := by
  rw [List.set_append_left _ _ (by simpa using hi), List.map_set]
end
theorem Ev.ixT (j : Nat) {t : TypeId} {b m e be : Nat} {k : IntKind} {i : Int} {de : TypeDesc} {ze : Value} {sz by_ : Nat} {z : Value} [hT : HasT P t (.array m e) sz by_ z] [hE : HasT P e de 1 be ze] (hx : opnd s x = some (.pointer (some ⟨b, 0, none⟩))) (hy : opnd s y = some (.int k i)) (hij : i = (j : Int)) (hm : j < m) :
    Ev P s (.indexAddr t x y) ty w (.pointer (some ⟨b, j, none⟩)) w := by
  subst hij
  have := Ev.indexAddrArr (P := P) (s := s) (w := w) (ty := ty) (t := t) (hT := hT) (hE := hE) hx hy (by omega) (by omega)
  rwa [show 0 + ((j : Int)).toNat * 1 = j by omega] at this
theorem WK.storeT {S : World → Prop} {z fuel : Nat} {listed : Array Bool} {T : TypeId} {L : List Nat} {R : List Value} (i : Nat) {t : TypeId} {ds : TypeDesc} {by_ : Nat} {z0 : Value} {b o v : Nat} {x y : Operand} [hT : HasT P t ds 1 by_ z0] (hi : ops[i]? = some ⟨none, .store t x y, ty, pos, af, none⟩) (hr : Region.ready .any ops listed = [i]) (hlast : (listed.setIfInBounds i true).getD z false = true)
    (hx : opnd s x = some (.pointer (some ⟨b, o, none⟩))) (hy : opnd s y = some (.int .u64 (v : Int)))
    (hb : TB w b T L R) (ho : o < L.length) (k : ∀ w', TB w' b T (L.set o v) R → Chg [b] w w' → WK P ops K S z fuel (listed.setIfInBounds i true) n D s w') : WK P ops K S z (fuel + 1) listed n D s w :=
  WK.storeC i (l' := (L.set o v).map u64v ++ R) hi hr hlast hx hy rfl hb (by simp; omega) (TB.set_ ho) k
theorem CW.regionTC {A : AQ} {id : Nat} {l : List Oper} (m : Nat) (hm : P.follows .mixedOrders = true) (hB : Region.lexTailB .any l.toArray m = true)
    (h : ∀ R : KK, (∀ D s w, A .normal D s w → R D s w) → Chg [] w w.drew → WS P l.toArray (fun D s => WL P l.toArray R (l.drop m) n D s w.drew) (l.take m) n D s w.drew) : CW P (.region id l.toArray true) A n D s w :=
  CW.regionT m hm hB fun R hR => h R hR (Chg.drew _ _)
theorem WS.boolCase {K' : List Deferred → Sl → Prop} {b : Bool} (ht : b = true → WS P ops K' rest n D ((d, .bool true) :: s) w) (hf : b = false → WS P ops K' rest n D ((d, .bool false) :: s) w) : WS P ops K' rest n D ((d, .bool b) :: s) w := by
  cases b
  · exact hf rfl
  · exact ht rfl
end
end Sx

/- A condition's region that may touch the world, and ends in one answer. No condition. -/
namespace Sx
open Go
section
variable {P : Program} {n : Nat} {D : List Deferred} {s : Sl} {w : World}
theorem CW.seqMC {A : AQ} {x y : Code} (c : Nat) (b : Bool) (hx : Chg [] w w → CW P x (thenK (fun D' s' w' => D' = D ∧ Chg [] w w' ∧ Subs ((c, .bool b) :: s) s') A) n D s w) (hy : ∀ w', Chg [] w w' → CW P y A n D ((c, .bool b) :: s) w') : CW P (.seq x y) A n D s w :=
  CW.seqJ _ (hx (Chg.refl _ _)) fun D' s' w' ⟨h1, h2, h3⟩ => by subst h1; exact (hy w' h2).sub h3
end
section
variable {P : Program} {n : Nat} {D : List Deferred} {s : Sl} {w : World} {ops : Array Oper} {K : KK} {S : World → Prop} {fuel : Nat} {listed : Array Bool}
variable {op : Op} {ty : TypeId} {pos : String} {af : Array Edge} {d : Nat}
theorem WH.passG (i : Nat) {j : Nat} {b : Bool} {g : Oper} {x : Bool} {t : Nat} (hi : ops[i]? = some ⟨some d, op, ty, pos, af, some (j, b)⟩) (hs : Region.noSelect ops = true) (hf : Region.free .any ops listed i = true) (hr : (Region.ready .any ops listed).contains i = true)
    (hg : ops[j]? = some g) (ht : g.dst = some t) (hx : look s t = some (.bool x)) (hb : (x == b) = false)
    (hS : S w) (hd : Nat.blt d n = true) (k : WH P ops K S fuel (listed.setIfInBounds i true) n D ((d, undef) :: s) w) : WH P ops K S (fuel + 1) listed n D s w := fun a ha =>
  wpAnyH_take hi hs hf hr (fun c a w h => h.elim) (.inr ⟨by rw [yieldedAt ha hg ht hx]; exact hb, rfl⟩) hS (k _ (ha.put hd undef))
theorem WH.passG1 (i : Nat) {j : Nat} {b : Bool} {g : Oper} {x : Bool} {t : Nat} (hi : ops[i]? = some ⟨some d, op, ty, pos, af, some (j, b)⟩) (hr : Region.ready .any ops listed = [i])
    (hg : ops[j]? = some g) (ht : g.dst = some t) (hx : look s t = some (.bool x)) (hb : (x == b) = false)
    (hS : S w) (hd : Nat.blt d n = true) (k : WH P ops K S fuel (listed.setIfInBounds i true) n D ((d, undef) :: s) w) : WH P ops K S (fuel + 1) listed n D s w := fun a ha =>
  wpAnyH_all hr (by simp) fun j' hj => by
    obtain rfl : j' = i := by simpa using hj
    unfold wpOp
    simp only [hi]
    rw [if_neg (by rw [yieldedAt ha hg ht hx, hb]; simp)]
    exact ⟨hS, k _ (ha.put hd undef)⟩
end
end Sx

/- Short names for the plain steps of a walk. No condition. -/
namespace Sx
open Go
section
variable {P : Program} {A : AQ} {n : Nat} {D : List Deferred} {s : Sl} {w : World} {ops : Array Oper} {K : KK} {rest : List Oper} {ty t t' : TypeId} {pos : String} {af : Array Edge} {dst : Option Tmp} {d j i : Nat} {b : Bool} {v : Value} {x y c : Operand} {op : Op}
theorem zm (h : opnd s x = some v) (k : WL P ops K rest n D ((d, v) :: s) w) (hd : Nat.blt d n = true := by rfl) : WL P ops K (⟨some d, .move x, ty, pos, af, none⟩ :: rest) n D s w := WL.ev (Ev.move h) hd k
theorem za (h : opnd s x = some v) (k : WL P ops K rest n D ((d, v) :: s) w) (hd : Nat.blt d n = true := by rfl) : WL P ops K (⟨some d, .assign x, ty, pos, af, none⟩ :: rest) n D s w := WL.ev (Ev.assign h) hd k
theorem zx {l : List Value} (h : opnd s x = some (.tuple l.toArray)) (hv : l[i]? = some v) (k : WL P ops K rest n D ((d, v) :: s) w) (hd : Nat.blt d n = true := by rfl) : WL P ops K (⟨some d, .extract x i, ty, pos, af, none⟩ :: rest) n D s w := WL.ev (Ev.extract h hv) hd k
theorem zf {b o off : Nat} [hF : HasFld P t i off] (hx : opnd s x = some (.pointer (some ⟨b, o, none⟩))) (k : WL P ops K rest n D ((d, .pointer (some ⟨b, o + off, none⟩)) :: s) w) (hd : Nat.blt d n = true := by rfl) : WL P ops K (⟨some d, .fieldAddr t x i, ty, pos, af, none⟩ :: rest) n D s w := WL.ev (Ev.fieldAddr hx) hd k
theorem zl {ds : TypeDesc} {sz by_ b : Nat} {z : Value} {T : TypeId} {l : List Value} {o : Nat} [hT : HasT P t ds sz by_ z] (hb : BK w b T l) (hx : opnd s x = some (.pointer (some ⟨b, o, none⟩))) (hv : l[o]? = some v) (k : WL P ops K rest n D ((d, v) :: s) w) (hg : aggD ds = false := by rfl) (hd : Nat.blt d n = true := by rfl) : WL P ops K (⟨some d, .load t x, ty, pos, af, none⟩ :: rest) n D s w := WL.ev (Ev.load hg hx (hb.at_ hv)) hd k
theorem zg {ds : TypeDesc} {sz by_ b : Nat} {z : Value} {T : TypeId} {l : List Value} [hT : HasT P t ds sz by_ z] (hb : BK w b T l) (hx : opnd s x = some (.pointer (some ⟨b, 0, none⟩))) (k : WL P ops K rest n D ((d, .agg l.toArray) :: s) w) (hg : aggD ds = true := by rfl) (hl : l.length = sz := by rfl) (hd : Nat.blt d n = true := by rfl) : WL P ops K (⟨some d, .load t x, ty, pos, af, none⟩ :: rest) n D s w := WL.ev (Ev.loadA hg hx hb hl) hd k
theorem zt {p q : Operand} (hc : opnd s c = some (.bool true)) (ha : opnd s p = some v) (k : WL P ops K rest n D ((d, v) :: s) w) (hd : Nat.blt d n = true := by rfl) : WL P ops K (⟨some d, .pick c p q, ty, pos, af, none⟩ :: rest) n D s w := WL.ev (Ev.pickT hc rfl ha) hd k
theorem ze {p q : Operand} (hc : opnd s c = some (.bool false)) (ha : opnd s q = some v) (k : WL P ops K rest n D ((d, v) :: s) w) (hd : Nat.blt d n = true := by rfl) : WL P ops K (⟨some d, .pick c p q, ty, pos, af, none⟩ :: rest) n D s w := WL.ev (Ev.pickF hc rfl ha) hd k
theorem zn {a : Option Addr} {m c e : Nat} {sz by_ : Nat} {z : Value} [hT : HasT P t (.slice e) sz by_ z] (hx : opnd s x = some (.slice a m c)) (k : WL P ops K rest n D ((d, .int .i64 (m : Int)) :: s) w) (hd : Nat.blt d n = true := by rfl) : WL P ops K (⟨some d, .call ⟨.builtin .len, [x].toArray, #[t]⟩, ty, pos, af, none⟩ :: rest) n D s w := WL.ev (Ev.len hx) hd k
theorem zq {q : IntKind} {a b : Int} (hx : opnd s x = some (.int q a)) (hy : opnd s y = some (.int q b)) (k : WL P ops K rest n D ((d, .bool (decide (a = b))) :: s) w) (hd : Nat.blt d n = true := by rfl) : WL P ops K (⟨some d, .binOp .eql t x y t', ty, pos, af, none⟩ :: rest) n D s w := WL.ev (Ev.eql hx hy) hd k
theorem zL {q : IntKind} {a b : Int} (hx : opnd s x = some (.int q a)) (hy : opnd s y = some (.int q b)) (k : WL P ops K rest n D ((d, .bool (decide (a < b))) :: s) w) (hd : Nat.blt d n = true := by rfl) : WL P ops K (⟨some d, .binOp .lss t x y t', ty, pos, af, none⟩ :: rest) n D s w := WL.ev (Ev.lss hx hy) hd k
theorem zG {q : IntKind} {a b : Int} (hx : opnd s x = some (.int q a)) (hy : opnd s y = some (.int q b)) (k : WL P ops K rest n D ((d, .bool (decide (b < a))) :: s) w) (hd : Nat.blt d n = true := by rfl) : WL P ops K (⟨some d, .binOp .gtr t x y t', ty, pos, af, none⟩ :: rest) n D s w := WL.ev (Ev.gtr hx hy) hd k
theorem zN {q : IntKind} {a b : Int} (hx : opnd s x = some (.int q a)) (hy : opnd s y = some (.int q b)) (k : WL P ops K rest n D ((d, .bool (decide (a ≠ b))) :: s) w) (hd : Nat.blt d n = true := by rfl) : WL P ops K (⟨some d, .binOp .neq t x y t', ty, pos, af, none⟩ :: rest) n D s w := WL.ev (Ev.neq hx hy) hd k
theorem zQ {q : IntKind} {a b : Int} (hx : opnd s x = some (.int q a)) (hy : opnd s y = some (.int q b)) (k : WL P ops K rest n D ((d, .bool (decide (a ≤ b))) :: s) w) (hd : Nat.blt d n = true := by rfl) : WL P ops K (⟨some d, .binOp .leq t x y t', ty, pos, af, none⟩ :: rest) n D s w := WL.ev (Ev.leq hx hy) hd k
theorem zP {a : Addr} (h : opnd s x = some (.pointer (some a))) (k : WL P ops K rest n D ((d, .pointer (some a)) :: s) w) (hd : Nat.blt d n = true := by rfl) : WL P ops K (⟨some d, .nilCheck x, ty, pos, af, none⟩ :: rest) n D s w := WL.ev (Ev.nilPtr h) hd k
theorem zT {b : Bool} (h : opnd s x = some (.bool b)) (k : WL P ops K rest n D ((d, .bool !b) :: s) w) (hd : Nat.blt d n = true := by rfl) : WL P ops K (⟨some d, .unOp .not t x, ty, pos, af, none⟩ :: rest) n D s w := WL.ev (Ev.not h) hd k
def gdOf (ops : Array Oper) (j : Nat) (s : Sl) : Option Value :=
  match ops[j]? with
  | some g => match g.dst with
    | some t => look s t
    | none => none
  | none => none
theorem gdOf_some (h : gdOf ops j s = some v) : ∃ g t, ops[j]? = some g ∧ g.dst = some t ∧ look s t = some v := by
  unfold gdOf at h
  split at h
  · rename_i g hg
    split at h
    · rename_i t ht; exact ⟨g, t, hg, ht, h⟩
    · cases h
  · cases h
theorem zw {q : Bool} (h : gdOf ops j s = some (.bool q)) (k : WL P ops K (⟨dst, op, ty, pos, af, none⟩ :: rest) n D s w) (hb : (q == b) = true := by rfl) : WL P ops K (⟨dst, op, ty, pos, af, some (j, b)⟩ :: rest) n D s w := by
  obtain ⟨g, t, h1, h2, h3⟩ := gdOf_some h
  exact WL.want h1 h2 h3 hb k
theorem zv {q : Bool} (h : gdOf ops j s = some (.bool q)) (k : WL P ops K rest n D ((d, undef) :: s) w) (hb : (q == b) = false := by rfl) (hd : Nat.blt d n = true := by rfl) : WL P ops K (⟨some d, op, ty, pos, af, some (j, b)⟩ :: rest) n D s w := by
  obtain ⟨g, t, h1, h2, h3⟩ := gdOf_some h
  exact WL.pass h1 h2 h3 hb hd k
theorem zu (h : gdOf ops j s = some undef) (k : WL P ops K rest n D ((d, undef) :: s) w) (hd : Nat.blt d n = true := by rfl) : WL P ops K (⟨some d, op, ty, pos, af, some (j, b)⟩ :: rest) n D s w := by
  obtain ⟨g, t, h1, h2, h3⟩ := gdOf_some h
  exact WL.passU h1 h2 h3 hd k
theorem zz (h : K D s w) : WL P ops K [] n D s w := WL.nil h
theorem Sr {id : Nat} {l : List Oper} {y : Code} (h : ∀ R : KK, (∀ {D s w}, CW P y A n D s w → R D s w) → WL P l.toArray R l n D s w) : CW P (.seq (.region id l.toArray false) y) A n D s w :=
  CW.seq fun K kh => CW.region fun R kr => h R fun hc => kr _ _ _ (kh _ _ _ hc)
theorem zc {x y : Code} (h : ∀ K : KK, (∀ {D s w}, CW P y A n D s w → K D s w) → CW P x (thenK K A) n D s w) : CW P (.seq x y) A n D s w := CW.seq fun K kh => h K fun hc => kh _ _ _ hc
theorem BK.kq {b : Nat} {T : TypeId} {l : List Value} {U : List Nat} {w' : World} (h : BK w b T l) (hc : Chg U w w') (hT : b ∉ U := by simp; omega) : BK w' b T l := h.keep hc hT
theorem OB.kq {b : Nat} {E : TypeId} {l : List Nat} {U : List Nat} {w' : World} (h : OB w b E l) (hc : Chg U w w') (hT : b ∉ U := by simp; omega) : OB w' b E l := h.keep hc hT
theorem FB.kq {b : Nat} {E : TypeId} {l : List Nat} {U : List Nat} {w' : World} (h : FB w b E l) (hc : Chg U w w') (hT : b ∉ U := by simp; omega) : FB w' b E l := h.keep hc hT
theorem TB.kq {b : Nat} {T : TypeId} {L : List Nat} {R : List Value} {U : List Nat} {w' : World} (h : TB w b T L R) (hc : Chg U w w') (hT : b ∉ U := by simp; omega) : TB w' b T L R := h.keep hc hT
theorem Chg.s2 {T : List Nat} {b : Nat} {w0 w w' : World} (h : Chg T w0 w) (k : Chg [b] w w') (hb : w0.heap.size ≤ b := by first | assumption | omega) : Chg T w0 w' := h.s1 k (.inr hb)
theorem crf (w : World) : Chg [] w w := Chg.refl _ _
theorem Chg.ta {T : List Nat} {w' w'' : World} (h : Chg T w w') (hc : Chg [] w' w'') : Chg T w w'' := h.trans (Chg.any hc)
theorem zdd {a b q : Nat} (h1 : a < q) (h2 : q ≤ b) : a ≠ b := by omega
theorem zi {a b : Int} (hx : opnd s x = some (.int .i64 a)) (hy : opnd s y = some (.int .i64 b)) (k : WL P ops K rest n D ((d, .int .i64 (a + b)) :: s) w) (h : -9223372036854775808 ≤ a + b ∧ a + b ≤ 9223372036854775807 := by omega) (hd : Nat.blt d n = true := by rfl) : WL P ops K (⟨some d, .binOp .add t x y t', ty, pos, af, none⟩ :: rest) n D s w := WL.ev (Ev.addIn hx hy h) hd k
theorem zo {q : IntKind} {a b : Int} (hx : opnd s x = some (.int q a)) (hy : opnd s y = some (.int q b)) (k : WL P ops K rest n D ((d, .int q (q.wrap (a + b))) :: s) w) (hd : Nat.blt d n = true := by rfl) : WL P ops K (⟨some d, .binOp .add t x y t', ty, pos, af, none⟩ :: rest) n D s w := WL.ev (Ev.add hx hy) hd k
theorem zy {x y : Code} {b : Bool} (hc : opnd s c = some (.bool b)) (ht : b = true → CW P x A n D s w) (hf : b = false → CW P y A n D s w) : CW P (.cond c x y) A n D s w := CW.cond hc ht hf
theorem zr (h : A .ret D s w) : CW P .ret A n D s w := CW.ret h
theorem zr1 {fn : Func} {R : Value → World → Prop} {t : Nat} {v : Value} (hr : fn.results = #[.tmp t]) (ht : look s t = some v) (h : R v w) : bodyA P fn n R .ret [] s w := bodyA.ret1 hr ht h
theorem zr2 {fn : Func} {R : Value → World → Prop} {t u : Nat} {v x : Value} (hr : fn.results = #[.tmp t, .tmp u]) (ht : look s t = some v) (hu : look s u = some x) (h : R (.tuple #[v, x]) w) : bodyA P fn n R .ret [] s w := bodyA.ret2 hr ht hu h
theorem BK.k0 {b : Nat} {T : TypeId} {l : List Value} {w' : World} (h : BK w b T l) (hc : Chg [] w w') : BK w' b T l := h.keep0 hc
theorem OB.k0 {b : Nat} {E : TypeId} {l : List Nat} {w' : World} (h : OB w b E l) (hc : Chg [] w w') : OB w' b E l := h.keep0 hc
theorem FB.k0 {b : Nat} {E : TypeId} {l : List Nat} {w' : World} (h : FB w b E l) (hc : Chg [] w w') : FB w' b E l := h.keep0 hc
theorem TB.k0 {b : Nat} {T : TypeId} {L : List Nat} {R : List Value} {w' : World} (h : TB w b T L R) (hc : Chg [] w w') : TB w' b T L R := h.keep0 hc
theorem zss {ds : TypeDesc} {sz by_ : Nat} {z : Value} {b i : Nat} {l l' vs : List Value} {T : TypeId} [hT : HasT P t ds sz by_ z] (hx : opnd s x = some (.pointer (some ⟨b, i, none⟩))) (hy : opnd s y = some (.agg vs.toArray)) (h1 : ∀ v ∈ vs, v.oneCell' = true) (hb : BK w b T l) (he : splice l i vs = l') (k : ∀ w', BK w' b T l' → Chg [b] w w' → WL P ops K rest n D s w') (hs : vs.length = sz := by rfl) (hi : i + vs.length ≤ l.length := by simp) : WL P ops K (⟨none, .store t x y, ty, pos, af, none⟩ :: rest) n D s w := WL.storeB hx hy hs h1 hb hi he k
theorem zS {id : Nat} {l : List Oper} (h : ∀ R : KK, (∀ {D s w}, A .normal D s w → R D s w) → WL P l.toArray R l n D s w) : CW P (.region id l.toArray false) A n D s w := CW.region fun R kr => h R fun hc => kr _ _ _ hc
theorem zkk (h : A .normal D s w) : CW P .skip A n D s w := CW.skip h
theorem zb {b : Bool} (ht : b = true → WL P ops K rest n D ((d, .bool true) :: s) w) (hf : b = false → WL P ops K rest n D ((d, .bool false) :: s) w) : WL P ops K rest n D ((d, .bool b) :: s) w := WL.boolCase ht hf
theorem zR {id : Nat} {l : List Oper} (h : ∀ R : KK, (∀ D s w, A .normal D s w → R D s w) → WL P l.toArray R l n D s w) : CW P (.region id l.toArray false) A n D s w := CW.region h
variable {S : World → Prop} {z : Nat} {fuel : Nat} {listed : Array Bool} {R : KK}
theorem wk (i : Nat) (hi : ops[i]? = some ⟨some d, op, ty, pos, af, none⟩) (hS : S w) (he : ∀ w, S w → Ev P s op ty w v w) (k : WK P ops R S z fuel (listed.setIfInBounds i true) n D ((d, v) :: s) w) (hs : Region.noSelect ops = true := by kernel_rfl) (hf : Region.free .any ops listed i = true := by kernel_rfl) (hr : (Region.ready .any ops listed).contains i = true := by kernel_rfl) (hw : Region.waitsFor .any ops z i = true := by kernel_rfl) (hzi : Nat.beq z i = false := by kernel_rfl) (hlz : listed.getD z false = false := by kernel_rfl) (hd : Nat.blt d n = true := by rfl) : WK P ops R S z (fuel + 1) listed n D s w :=
  WK.take i hi hs hf hr hw hzi hlz hS he hd k
theorem wh (i : Nat) (hi : ops[i]? = some ⟨some d, op, ty, pos, af, none⟩) (hS : S w) (he : ∀ w, S w → Ev P s op ty w v w) (k : WH P ops R S fuel (listed.setIfInBounds i true) n D ((d, v) :: s) w) (hs : Region.noSelect ops = true := by kernel_rfl) (hf : Region.free .any ops listed i = true := by kernel_rfl) (hr : (Region.ready .any ops listed).contains i = true := by kernel_rfl) (hd : Nat.blt d n = true := by rfl) : WH P ops R S (fuel + 1) listed n D s w :=
  WH.take i hi hs hf hr hS he hd k
theorem wt (i : Nat) (hi : ops[i]? = some ⟨some d, op, ty, pos, af, none⟩) (hS : listed.getD z false = false → S w) (he : ∀ w, Ev P s op ty w v w) (k : WK P ops R S z fuel (listed.setIfInBounds i true) n D ((d, v) :: s) w) (hs : Region.noSelect ops = true := by kernel_rfl) (hf : Region.free .any ops listed i = true := by kernel_rfl) (hr : (Region.ready .any ops listed).contains i = true := by kernel_rfl) (hzi : Nat.beq z i = false := by kernel_rfl) (hd : Nat.blt d n = true := by rfl) : WK P ops R S z (fuel + 1) listed n D s w :=
  WK.takeT i hi hs hf hr hzi hS he hd k
theorem wg (i : Nat) {j : Nat} {b : Bool} {g : Oper} {x : Bool} {t : Nat} (hi : ops[i]? = some ⟨some d, op, ty, pos, af, some (j, b)⟩) (hg : ops[j]? = some g) (ht : g.dst = some t) (hx : look s t = some (.bool x)) (hb : (x == b) = true) (hS : S w) (he : ∀ w, S w → Ev P s op ty w v w) (k : WH P ops R S fuel (listed.setIfInBounds i true) n D ((d, v) :: s) w) (hs : Region.noSelect ops = true := by kernel_rfl) (hf : Region.free .any ops listed i = true := by kernel_rfl) (hr : (Region.ready .any ops listed).contains i = true := by kernel_rfl) (hd : Nat.blt d n = true := by rfl) : WH P ops R S (fuel + 1) listed n D s w :=
  WH.takeG i hi hs hf hr hg ht hx hb hS he hd k
theorem wp (i : Nat) {j : Nat} {b : Bool} {g : Oper} {x : Bool} {t : Nat} (hi : ops[i]? = some ⟨some d, op, ty, pos, af, some (j, b)⟩) (hg : ops[j]? = some g) (ht : g.dst = some t) (hx : look s t = some (.bool x)) (hb : (x == b) = false) (hS : S w) (k : WH P ops R S fuel (listed.setIfInBounds i true) n D ((d, undef) :: s) w) (hs : Region.noSelect ops = true := by kernel_rfl) (hf : Region.free .any ops listed i = true := by kernel_rfl) (hr : (Region.ready .any ops listed).contains i = true := by kernel_rfl) (hd : Nat.blt d n = true := by rfl) : WH P ops R S (fuel + 1) listed n D s w :=
  WH.passG i hi hs hf hr hg ht hx hb hS hd k
variable {K' : List Deferred → Sl → Prop}
theorem yf {b o off : Nat} [hF : HasFld P t i off] (hx : opnd s x = some (.pointer (some ⟨b, o, none⟩))) (k : WS P ops K' rest n D ((d, .pointer (some ⟨b, o + off, none⟩)) :: s) w) (hd : Nat.blt d n = true := by rfl) : WS P ops K' (⟨some d, .fieldAddr t x i, ty, pos, af, none⟩ :: rest) n D s w := WS.ev (Ev.fieldAddr hx) hd k
theorem yP {a : Addr} (h : opnd s x = some (.pointer (some a))) (k : WS P ops K' rest n D ((d, .pointer (some a)) :: s) w) (hd : Nat.blt d n = true := by rfl) : WS P ops K' (⟨some d, .nilCheck x, ty, pos, af, none⟩ :: rest) n D s w := WS.ev (Ev.nilPtr h) hd k
theorem eM (h : opnd s x = some v) : ∀ w, S w → Ev P s (.move x) ty w v w := fun _ _ => Ev.move h
theorem eA (h : opnd s x = some v) : ∀ w, S w → Ev P s (.assign x) ty w v w := fun _ _ => Ev.assign h
theorem eP {a : Addr} (h : opnd s x = some (.pointer (some a))) : ∀ w, S w → Ev P s (.nilCheck x) ty w (.pointer (some a)) w := fun _ _ => Ev.nilPtr h
theorem eF {b o off : Nat} [hF : HasFld P t i off] (hx : opnd s x = some (.pointer (some ⟨b, o, none⟩))) : ∀ w, S w → Ev P s (.fieldAddr t x i) ty w (.pointer (some ⟨b, o + off, none⟩)) w := fun _ _ => Ev.fieldAddr hx
theorem eX {l : List Value} (h : opnd s x = some (.tuple l.toArray)) (hv : l[i]? = some v) : ∀ w, S w → Ev P s (.extract x i) ty w v w := fun _ _ => Ev.extract h hv
theorem ym (h : opnd s x = some v) (k : WS P ops K' rest n D ((d, v) :: s) w) (hd : Nat.blt d n = true := by rfl) : WS P ops K' (⟨some d, .move x, ty, pos, af, none⟩ :: rest) n D s w := WS.ev (Ev.move h) hd k
theorem ya (h : opnd s x = some v) (k : WS P ops K' rest n D ((d, v) :: s) w) (hd : Nat.blt d n = true := by rfl) : WS P ops K' (⟨some d, .assign x, ty, pos, af, none⟩ :: rest) n D s w := WS.ev (Ev.assign h) hd k
theorem yt {p q : Operand} (hc : opnd s c = some (.bool true)) (ha : opnd s p = some v) (k : WS P ops K' rest n D ((d, v) :: s) w) (hd : Nat.blt d n = true := by rfl) : WS P ops K' (⟨some d, .pick c p q, ty, pos, af, none⟩ :: rest) n D s w := WS.ev (Ev.pickT hc rfl ha) hd k
theorem ye {p q : Operand} (hc : opnd s c = some (.bool false)) (ha : opnd s q = some v) (k : WS P ops K' rest n D ((d, v) :: s) w) (hd : Nat.blt d n = true := by rfl) : WS P ops K' (⟨some d, .pick c p q, ty, pos, af, none⟩ :: rest) n D s w := WS.ev (Ev.pickF hc rfl ha) hd k
theorem yn {a : Option Addr} {m c e : Nat} {sz by_ : Nat} {z : Value} [hT : HasT P t (.slice e) sz by_ z] (hx : opnd s x = some (.slice a m c)) (k : WS P ops K' rest n D ((d, .int .i64 (m : Int)) :: s) w) (hd : Nat.blt d n = true := by rfl) : WS P ops K' (⟨some d, .call ⟨.builtin .len, [x].toArray, #[t]⟩, ty, pos, af, none⟩ :: rest) n D s w := WS.ev (Ev.len hx) hd k
theorem yw {q : Bool} (h : gdOf ops j s = some (.bool q)) (k : WS P ops K' (⟨dst, op, ty, pos, af, none⟩ :: rest) n D s w) (hb : (q == b) = true := by rfl) : WS P ops K' (⟨dst, op, ty, pos, af, some (j, b)⟩ :: rest) n D s w := by
  obtain ⟨g, t, h1, h2, h3⟩ := gdOf_some h
  exact WS.want h1 h2 h3 hb k
theorem yv {q : Bool} (h : gdOf ops j s = some (.bool q)) (k : WS P ops K' rest n D ((d, undef) :: s) w) (hb : (q == b) = false := by rfl) (hd : Nat.blt d n = true := by rfl) : WS P ops K' (⟨some d, op, ty, pos, af, some (j, b)⟩ :: rest) n D s w := by
  obtain ⟨g, t, h1, h2, h3⟩ := gdOf_some h
  exact WS.pass h1 h2 h3 hb hd k
end
section
variable {P : Program} {n : Nat} {D : List Deferred} {s : Sl} {w w0 : World} {ops : Array Oper} {K : KK} {rest : List Oper} {ty : TypeId} {pos : String} {af : Array Edge} {d : Nat} {x : Operand} {fn : Func} {R : Value → World → Prop} {f : FuncId} {c : Code} {T : List Nat}
theorem zE0 (hf : P.funcs[f]? = some fn) (hb : fn.body = some c) (h : CW P c (bodyA P fn fn.ntmps R) fn.ntmps [] [] w) (hn : Nat.ble 0 fn.ntmps = true := by rfl) : Ret P f [] w R := Ret.enter hf hb hn h
theorem zE1 {a : Value} (hf : P.funcs[f]? = some fn) (hb : fn.body = some c) (h : CW P c (bodyA P fn fn.ntmps R) fn.ntmps [] [(0, a)] w) (hn : Nat.ble 1 fn.ntmps = true := by rfl) : Ret P f [a] w R := Ret.enter hf hb hn h
theorem zE2 {a b : Value} (hf : P.funcs[f]? = some fn) (hb : fn.body = some c) (h : CW P c (bodyA P fn fn.ntmps R) fn.ntmps [] [(0, a), (1, b)] w) (hn : Nat.ble 2 fn.ntmps = true := by rfl) : Ret P f [a, b] w R := Ret.enter hf hb hn h
theorem zE3 {a b e : Value} (hf : P.funcs[f]? = some fn) (hb : fn.body = some c) (h : CW P c (bodyA P fn fn.ntmps R) fn.ntmps [] [(0, a), (1, b), (2, e)] w) (hn : Nat.ble 3 fn.ntmps = true := by rfl) : Ret P f [a, b, e] w R := Ret.enter hf hb hn h
theorem zE4 {a b e g : Value} (hf : P.funcs[f]? = some fn) (hb : fn.body = some c) (h : CW P c (bodyA P fn fn.ntmps R) fn.ntmps [] [(0, a), (1, b), (2, e), (3, g)] w) (hn : Nat.ble 4 fn.ntmps = true := by rfl) : Ret P f [a, b, e, g] w R := Ret.enter hf hb hn h
theorem zE5 {a b e g p : Value} (hf : P.funcs[f]? = some fn) (hb : fn.body = some c) (h : CW P c (bodyA P fn fn.ntmps R) fn.ntmps [] [(0, a), (1, b), (2, e), (3, g), (4, p)] w) (hn : Nat.ble 5 fn.ntmps = true := by rfl) : Ret P f [a, b, e, g, p] w R := Ret.enter hf hb hn h
theorem zAh {t : TypeId} {ds : TypeDesc} {sz by_ : Nat} {z : Value} [hT : HasT P t ds sz by_ z] (hl : z.cells = [Value.bool false, .slice none 0 0, .int .i64 0].toArray) (hd : Nat.blt d n = true) (h : Chg T w0 w)
    (k : ∀ b w', BK w' b t [.bool false, .slice none 0 0, .int .i64 0] → Chg [] w w' → w.heap.size ≤ b → w0.heap.size ≤ b → Chg T w0 w' → WL P ops K rest n D ((d, .pointer (some ⟨b, 0, none⟩)) :: s) w') : WL P ops K (⟨some d, .alloc t, ty, pos, af, none⟩ :: rest) n D s w :=
  WL.allocB hl hd fun b w' h1 h2 h3 => k b w' h1 h2 h3 (Nat.le_trans h.size h3) (h.ta h2)
theorem zBh {t : TypeId} {v : Value} {l : List Value} (hx : opnd s x = some v) (hl : v.cells = l.toArray) (hd : Nat.blt d n = true) (h : Chg T w0 w)
    (k : ∀ b w', BK w' b t l → Chg [] w w' → w.heap.size ≤ b → w0.heap.size ≤ b → Chg T w0 w' → WL P ops K rest n D ((d, .pointer (some ⟨b, 0, none⟩)) :: s) w') : WL P ops K (⟨some d, .box t x, ty, pos, af, none⟩ :: rest) n D s w :=
  WL.boxB hx hl hd fun b w' h1 h2 h3 => k b w' h1 h2 h3 (Nat.le_trans h.size h3) (h.ta h2)
end
end Sx

/- The closed facts on this seat: types, functions. No condition. -/
section
open Go Sx
set_option maxRecDepth 100000
instance ti2 : HasT Tryz.prog 2 (.int .i64) 1 8 (.int .i64 0) := ⟨Tryz.underlying2, by kernel_rfl⟩
instance ti3 : HasT Tryz.prog 3 (.int .i64) 1 8 (.int .i64 0) := ⟨Tryz.underlying3, by kernel_rfl⟩
instance ti4 : HasT Tryz.prog 4 (.bool) 1 1 (.bool false) := ⟨Tryz.underlying4, by kernel_rfl⟩
instance ti5 : HasT Tryz.prog 5 (.int .u8) 1 1 (.int .u8 0) := ⟨Tryz.underlying5, by kernel_rfl⟩
instance ti9 : HasT Tryz.prog 9 (.string) 1 16 (.string ⟨#[]⟩) := ⟨Tryz.underlying9, by kernel_rfl⟩
instance ti31 : HasT Tryz.prog 31 (.float .f64) 1 8 (.float .f64 0) := ⟨Tryz.underlying31, by kernel_rfl⟩
instance ti32 : HasT Tryz.prog 32 (.slice 31) 1 24 (.slice none 0 0) := ⟨Tryz.underlying32, by kernel_rfl⟩
instance ti34 : HasT Tryz.prog 34 (.struct #[⟨"NaN", 3, 0, false, "", "", 0⟩, ⟨"Inf", 3, 1, false, "", "", 8⟩]) 2 16 (.agg #[.int .i64 0, .int .i64 0]) := ⟨Tryz.underlying34, by kernel_rfl⟩
instance ti35 : HasT Tryz.prog 35 (.slice 5) 1 24 (.slice none 0 0) := ⟨Tryz.underlying35, by kernel_rfl⟩
instance ti39 : HasT Tryz.prog 39 (.pointer 109) 1 8 (.pointer none) := ⟨Tryz.underlying39, by kernel_rfl⟩
instance ti47 : HasT Tryz.prog 47 (.int .i64) 1 8 (.int .i64 0) := ⟨Tryz.underlying47, by kernel_rfl⟩
instance ti65 : HasT Tryz.prog 65 (.slice 39) 1 24 (.slice none 0 0) := ⟨Tryz.underlying65, by kernel_rfl⟩
instance ti103 : HasT Tryz.prog 103 (.struct #[⟨"NaN", 3, 0, false, "", "", 0⟩, ⟨"Up", 3, 1, false, "", "", 8⟩, ⟨"Down", 3, 2, false, "", "", 16⟩, ⟨"Minus", 3, 3, false, "", "", 24⟩, ⟨"Plus", 3, 4, false, "", "", 32⟩, ⟨"All", 3, 5, false, "", "", 40⟩]) 6 48 (.agg #[.int .i64 0, .int .i64 0, .int .i64 0, .int .i64 0, .int .i64 0, .int .i64 0]) := ⟨Tryz.underlying103, by kernel_rfl⟩
instance ti105 : HasT Tryz.prog 105 (.slice 209) 1 24 (.slice none 0 0) := ⟨Tryz.underlying105, by kernel_rfl⟩
instance ti107 : HasT Tryz.prog 107 (.struct #[⟨"Neg", 4, 0, false, "", "", 0⟩, ⟨"Mag", 105, 1, false, "", "", 8⟩, ⟨"Exp", 3, 2, false, "", "", 32⟩]) 3 40 (.agg #[.bool false, .slice none 0 0, .int .i64 0]) := ⟨Tryz.underlying107, by kernel_rfl⟩
instance ti109 : HasT Tryz.prog 109 (.struct #[⟨"has", 103, 0, false, "", "steelyard/shard", 0⟩, ⟨"sum", 107, 6, false, "", "steelyard/shard", 48⟩, ⟨"squares", 107, 9, false, "", "steelyard/shard", 88⟩, ⟨"least", 31, 12, false, "", "steelyard/shard", 128⟩, ⟨"most", 31, 13, false, "", "steelyard/shard", 136⟩]) 14 144 (.agg #[.int .i64 0, .int .i64 0, .int .i64 0, .int .i64 0, .int .i64 0, .int .i64 0, .bool false, .slice none 0 0, .int .i64 0, .bool false, .slice none 0 0, .int .i64 0, .float .f64 0, .float .f64 0]) := ⟨Tryz.underlying109, by kernel_rfl⟩
instance ti110 : HasT Tryz.prog 110 (.array 6 3) 6 48 (.agg #[.int .i64 0, .int .i64 0, .int .i64 0, .int .i64 0, .int .i64 0, .int .i64 0]) := ⟨Tryz.underlying110, by kernel_rfl⟩
instance ti112 : HasT Tryz.prog 112 (.int .u64) 1 8 (.int .u64 0) := ⟨Tryz.underlying112, by kernel_rfl⟩
instance ti145 : HasT Tryz.prog 145 (.struct #[⟨"rest", 35, 0, false, "", "steelyard/shard", 0⟩, ⟨"bad", 4, 1, false, "", "steelyard/shard", 24⟩]) 2 32 (.agg #[.slice none 0 0, .bool false]) := ⟨Tryz.underlying145, by kernel_rfl⟩
instance ti146 : HasT Tryz.prog 146 (.pointer 3) 1 8 (.pointer none) := ⟨Tryz.underlying146, by kernel_rfl⟩
instance ti147 : HasT Tryz.prog 147 (.slice 146) 1 24 (.slice none 0 0) := ⟨Tryz.underlying147, by kernel_rfl⟩
instance ti174 : HasT Tryz.prog 174 (.pointer 180) 1 8 (.pointer none) := ⟨Tryz.underlying174, by kernel_rfl⟩
instance ti178 : HasT Tryz.prog 178 (.slice 3) 1 24 (.slice none 0 0) := ⟨Tryz.underlying178, by kernel_rfl⟩
instance ti180 : HasT Tryz.prog 180 (.struct #[⟨"l", 32, 0, false, "", "steelyard/rank", 0⟩, ⟨"at", 178, 1, false, "", "steelyard/rank", 24⟩]) 2 48 (.agg #[.slice none 0 0, .slice none 0 0]) := ⟨Tryz.underlying180, by kernel_rfl⟩
instance ti208 : HasT Tryz.prog 208 (.struct #[⟨"Num", 107, 0, false, "", "", 0⟩, ⟨"Den", 107, 3, false, "", "", 40⟩]) 6 80 (.agg #[.bool false, .slice none 0 0, .int .i64 0, .bool false, .slice none 0 0, .int .i64 0]) := ⟨Tryz.underlying208, by kernel_rfl⟩
instance ti209 : HasT Tryz.prog 209 (.int .u32) 1 4 (.int .u32 0) := ⟨Tryz.underlying209, by kernel_rfl⟩
instance ti245 : HasT Tryz.prog 245 (.struct #[⟨"digits", 3, 0, false, "", "steelyard/dyad", 0⟩, ⟨"least", 3, 1, false, "", "steelyard/dyad", 8⟩, ⟨"endless", 112, 2, false, "", "steelyard/dyad", 16⟩]) 3 24 (.agg #[.int .i64 0, .int .i64 0, .int .u64 0]) := ⟨Tryz.underlying245, by kernel_rfl⟩
instance ti249 : HasT Tryz.prog 249 (.array 67 112) 67 536 (.agg #[.int .u64 0, .int .u64 0, .int .u64 0, .int .u64 0, .int .u64 0, .int .u64 0, .int .u64 0, .int .u64 0, .int .u64 0, .int .u64 0, .int .u64 0, .int .u64 0, .int .u64 0, .int .u64 0, .int .u64 0, .int .u64 0, .int .u64 0, .int .u64 0, .int .u64 0, .int .u64 0, .int .u64 0, .int .u64 0, .int .u64 0, .int .u64 0, .int .u64 0, .int .u64 0, .int .u64 0, .int .u64 0, .int .u64 0, .int .u64 0, .int .u64 0, .int .u64 0, .int .u64 0, .int .u64 0, .int .u64 0, .int .u64 0, .int .u64 0, .int .u64 0, .int .u64 0, .int .u64 0, .int .u64 0, .int .u64 0, .int .u64 0, .int .u64 0, .int .u64 0, .int .u64 0, .int .u64 0, .int .u64 0, .int .u64 0, .int .u64 0, .int .u64 0, .int .u64 0, .int .u64 0, .int .u64 0, .int .u64 0, .int .u64 0, .int .u64 0, .int .u64 0, .int .u64 0, .int .u64 0, .int .u64 0, .int .u64 0, .int .u64 0, .int .u64 0, .int .u64 0, .int .u64 0, .int .u64 0]) := ⟨Tryz.underlying249, by kernel_rfl⟩
instance ti251 : HasT Tryz.prog 251 (.struct #[⟨"sum", 249, 0, false, "", "steelyard/super", 0⟩, ⟨"s", 103, 67, false, "", "steelyard/super", 536⟩]) 73 584 (.agg #[.int .u64 0, .int .u64 0, .int .u64 0, .int .u64 0, .int .u64 0, .int .u64 0, .int .u64 0, .int .u64 0, .int .u64 0, .int .u64 0, .int .u64 0, .int .u64 0, .int .u64 0, .int .u64 0, .int .u64 0, .int .u64 0, .int .u64 0, .int .u64 0, .int .u64 0, .int .u64 0, .int .u64 0, .int .u64 0, .int .u64 0, .int .u64 0, .int .u64 0, .int .u64 0, .int .u64 0, .int .u64 0, .int .u64 0, .int .u64 0, .int .u64 0, .int .u64 0, .int .u64 0, .int .u64 0, .int .u64 0, .int .u64 0, .int .u64 0, .int .u64 0, .int .u64 0, .int .u64 0, .int .u64 0, .int .u64 0, .int .u64 0, .int .u64 0, .int .u64 0, .int .u64 0, .int .u64 0, .int .u64 0, .int .u64 0, .int .u64 0, .int .u64 0, .int .u64 0, .int .u64 0, .int .u64 0, .int .u64 0, .int .u64 0, .int .u64 0, .int .u64 0, .int .u64 0, .int .u64 0, .int .u64 0, .int .u64 0, .int .u64 0, .int .u64 0, .int .u64 0, .int .u64 0, .int .u64 0, .int .i64 0, .int .i64 0, .int .i64 0, .int .i64 0, .int .i64 0, .int .i64 0]) := ⟨Tryz.underlying251, by kernel_rfl⟩
instance ti253 : HasT Tryz.prog 253 (.array 3 112) 3 24 (.agg #[.int .u64 0, .int .u64 0, .int .u64 0]) := ⟨Tryz.underlying253, by kernel_rfl⟩
instance ti255 : HasT Tryz.prog 255 (.struct #[⟨"neg", 4, 0, false, "", "steelyard/super", 0⟩, ⟨"at", 3, 1, false, "", "steelyard/super", 8⟩, ⟨"w", 253, 2, false, "", "steelyard/super", 16⟩]) 5 40 (.agg #[.bool false, .int .i64 0, .int .u64 0, .int .u64 0, .int .u64 0]) := ⟨Tryz.underlying255, by kernel_rfl⟩
instance ti257 : HasT Tryz.prog 257 (.struct #[⟨"class", 3, 0, false, "", "steelyard/super", 0⟩, ⟨"neg", 4, 1, false, "", "steelyard/super", 8⟩, ⟨"v", 255, 2, false, "", "steelyard/super", 16⟩]) 7 56 (.agg #[.int .i64 0, .bool false, .bool false, .int .i64 0, .int .u64 0, .int .u64 0, .int .u64 0]) := ⟨Tryz.underlying257, by kernel_rfl⟩
instance ti265 : HasT Tryz.prog 265 (.int .u64) 1 8 (.int .u64 0) := ⟨Tryz.underlying265, by kernel_rfl⟩
instance ti276 : HasT Tryz.prog 276 (.struct #[⟨"Neg", 4, 0, false, "", "", 0⟩, ⟨"Class", 3, 1, false, "", "", 8⟩, ⟨"Exp", 3, 2, false, "", "", 16⟩, ⟨"Frac", 112, 3, false, "", "", 24⟩]) 4 32 (.agg #[.bool false, .int .i64 0, .int .i64 0, .int .u64 0]) := ⟨Tryz.underlying276, by kernel_rfl⟩
instance ti323 : HasT Tryz.prog 323 (.array 5 3) 5 40 (.agg #[.int .i64 0, .int .i64 0, .int .i64 0, .int .i64 0, .int .i64 0]) := ⟨Tryz.underlying323, by kernel_rfl⟩
instance ti337 : HasT Tryz.prog 337 (.slice 208) 1 24 (.slice none 0 0) := ⟨Tryz.underlying337, by kernel_rfl⟩
instance ti344 : HasT Tryz.prog 344 (.struct #[⟨"wide", 3, 0, false, "", "steelyard/bits", 0⟩, ⟨"low", 3, 1, false, "", "steelyard/bits", 8⟩, ⟨"least", 3, 2, false, "", "steelyard/bits", 16⟩]) 3 24 (.agg #[.int .i64 0, .int .i64 0, .int .i64 0]) := ⟨Tryz.underlying344, by kernel_rfl⟩
instance ti370 : HasT Tryz.prog 370 (.slice 107) 1 24 (.slice none 0 0) := ⟨Tryz.underlying370, by kernel_rfl⟩
instance ti394 : HasT Tryz.prog 394 (.array 32 5) 32 32 (.agg #[.int .u8 0, .int .u8 0, .int .u8 0, .int .u8 0, .int .u8 0, .int .u8 0, .int .u8 0, .int .u8 0, .int .u8 0, .int .u8 0, .int .u8 0, .int .u8 0, .int .u8 0, .int .u8 0, .int .u8 0, .int .u8 0, .int .u8 0, .int .u8 0, .int .u8 0, .int .u8 0, .int .u8 0, .int .u8 0, .int .u8 0, .int .u8 0, .int .u8 0, .int .u8 0, .int .u8 0, .int .u8 0, .int .u8 0, .int .u8 0, .int .u8 0, .int .u8 0]) := ⟨Tryz.underlying394, by kernel_rfl⟩
instance ti395 : HasT Tryz.prog 395 (.slice 112) 1 24 (.slice none 0 0) := ⟨Tryz.underlying395, by kernel_rfl⟩
instance tf34_0 : HasFld Tryz.prog 34 0 0 := ⟨fun a w => by kernel_rfl⟩
instance tf34_1 : HasFld Tryz.prog 34 1 1 := ⟨fun a w => by kernel_rfl⟩
instance tb34 : HasB Tryz.prog 34 #[(0, 1), (1, 1)] := ⟨fun w fs h => by rw [und_inj Tryz.underlying34 h]; kernel_rfl⟩
instance tf37_5 : HasFld Tryz.prog 37 5 5 := ⟨fun a w => by kernel_rfl⟩
instance tf37_6 : HasFld Tryz.prog 37 6 6 := ⟨fun a w => by kernel_rfl⟩
instance tf37_8 : HasFld Tryz.prog 37 8 8 := ⟨fun a w => by kernel_rfl⟩
instance tf103_0 : HasFld Tryz.prog 103 0 0 := ⟨fun a w => by kernel_rfl⟩
instance tf103_1 : HasFld Tryz.prog 103 1 1 := ⟨fun a w => by kernel_rfl⟩
instance tf103_2 : HasFld Tryz.prog 103 2 2 := ⟨fun a w => by kernel_rfl⟩
instance tf103_3 : HasFld Tryz.prog 103 3 3 := ⟨fun a w => by kernel_rfl⟩
instance tf103_4 : HasFld Tryz.prog 103 4 4 := ⟨fun a w => by kernel_rfl⟩
instance tf103_5 : HasFld Tryz.prog 103 5 5 := ⟨fun a w => by kernel_rfl⟩
instance tb103 : HasB Tryz.prog 103 #[(0, 1), (1, 1), (2, 1), (3, 1), (4, 1), (5, 1)] := ⟨fun w fs h => by rw [und_inj Tryz.underlying103 h]; kernel_rfl⟩
instance tf107_0 : HasFld Tryz.prog 107 0 0 := ⟨fun a w => by kernel_rfl⟩
instance tf107_1 : HasFld Tryz.prog 107 1 1 := ⟨fun a w => by kernel_rfl⟩
instance tf107_2 : HasFld Tryz.prog 107 2 2 := ⟨fun a w => by kernel_rfl⟩
instance tb107 : HasB Tryz.prog 107 #[(0, 1), (1, 1), (2, 1)] := ⟨fun w fs h => by rw [und_inj Tryz.underlying107 h]; kernel_rfl⟩
instance tf109_0 : HasFld Tryz.prog 109 0 0 := ⟨fun a w => by kernel_rfl⟩
instance tf109_1 : HasFld Tryz.prog 109 1 6 := ⟨fun a w => by kernel_rfl⟩
instance tf109_2 : HasFld Tryz.prog 109 2 9 := ⟨fun a w => by kernel_rfl⟩
instance tf109_3 : HasFld Tryz.prog 109 3 12 := ⟨fun a w => by kernel_rfl⟩
instance tf109_4 : HasFld Tryz.prog 109 4 13 := ⟨fun a w => by kernel_rfl⟩
instance tb109 : HasB Tryz.prog 109 #[(0, 6), (6, 3), (9, 3), (12, 1), (13, 1)] := ⟨fun w fs h => by rw [und_inj Tryz.underlying109 h]; kernel_rfl⟩
instance tf145_0 : HasFld Tryz.prog 145 0 0 := ⟨fun a w => by kernel_rfl⟩
instance tf145_1 : HasFld Tryz.prog 145 1 1 := ⟨fun a w => by kernel_rfl⟩
instance tb145 : HasB Tryz.prog 145 #[(0, 1), (1, 1)] := ⟨fun w fs h => by rw [und_inj Tryz.underlying145 h]; kernel_rfl⟩
instance tf180_0 : HasFld Tryz.prog 180 0 0 := ⟨fun a w => by kernel_rfl⟩
instance tf180_1 : HasFld Tryz.prog 180 1 1 := ⟨fun a w => by kernel_rfl⟩
instance tb180 : HasB Tryz.prog 180 #[(0, 1), (1, 1)] := ⟨fun w fs h => by rw [und_inj Tryz.underlying180 h]; kernel_rfl⟩
instance tf208_0 : HasFld Tryz.prog 208 0 0 := ⟨fun a w => by kernel_rfl⟩
instance tf208_1 : HasFld Tryz.prog 208 1 3 := ⟨fun a w => by kernel_rfl⟩
instance tb208 : HasB Tryz.prog 208 #[(0, 3), (3, 3)] := ⟨fun w fs h => by rw [und_inj Tryz.underlying208 h]; kernel_rfl⟩
instance tf245_0 : HasFld Tryz.prog 245 0 0 := ⟨fun a w => by kernel_rfl⟩
instance tf245_1 : HasFld Tryz.prog 245 1 1 := ⟨fun a w => by kernel_rfl⟩
instance tf245_2 : HasFld Tryz.prog 245 2 2 := ⟨fun a w => by kernel_rfl⟩
instance tb245 : HasB Tryz.prog 245 #[(0, 1), (1, 1), (2, 1)] := ⟨fun w fs h => by rw [und_inj Tryz.underlying245 h]; kernel_rfl⟩
instance tf251_0 : HasFld Tryz.prog 251 0 0 := ⟨fun a w => by kernel_rfl⟩
instance tf251_1 : HasFld Tryz.prog 251 1 67 := ⟨fun a w => by kernel_rfl⟩
instance tb251 : HasB Tryz.prog 251 #[(0, 67), (67, 6)] := ⟨fun w fs h => by rw [und_inj Tryz.underlying251 h]; kernel_rfl⟩
instance tf255_0 : HasFld Tryz.prog 255 0 0 := ⟨fun a w => by kernel_rfl⟩
instance tf255_1 : HasFld Tryz.prog 255 1 1 := ⟨fun a w => by kernel_rfl⟩
instance tf255_2 : HasFld Tryz.prog 255 2 2 := ⟨fun a w => by kernel_rfl⟩
instance tb255 : HasB Tryz.prog 255 #[(0, 1), (1, 1), (2, 3)] := ⟨fun w fs h => by rw [und_inj Tryz.underlying255 h]; kernel_rfl⟩
instance tf257_0 : HasFld Tryz.prog 257 0 0 := ⟨fun a w => by kernel_rfl⟩
instance tf257_1 : HasFld Tryz.prog 257 1 1 := ⟨fun a w => by kernel_rfl⟩
instance tf257_2 : HasFld Tryz.prog 257 2 2 := ⟨fun a w => by kernel_rfl⟩
instance tb257 : HasB Tryz.prog 257 #[(0, 1), (1, 1), (2, 5)] := ⟨fun w fs h => by rw [und_inj Tryz.underlying257 h]; kernel_rfl⟩
instance tf276_0 : HasFld Tryz.prog 276 0 0 := ⟨fun a w => by kernel_rfl⟩
instance tf276_1 : HasFld Tryz.prog 276 1 1 := ⟨fun a w => by kernel_rfl⟩
instance tf276_2 : HasFld Tryz.prog 276 2 2 := ⟨fun a w => by kernel_rfl⟩
instance tf276_3 : HasFld Tryz.prog 276 3 3 := ⟨fun a w => by kernel_rfl⟩
instance tb276 : HasB Tryz.prog 276 #[(0, 1), (1, 1), (2, 1), (3, 1)] := ⟨fun w fs h => by rw [und_inj Tryz.underlying276 h]; kernel_rfl⟩
instance tf344_0 : HasFld Tryz.prog 344 0 0 := ⟨fun a w => by kernel_rfl⟩
instance tf344_1 : HasFld Tryz.prog 344 1 1 := ⟨fun a w => by kernel_rfl⟩
instance tf344_2 : HasFld Tryz.prog 344 2 2 := ⟨fun a w => by kernel_rfl⟩
instance tb344 : HasB Tryz.prog 344 #[(0, 1), (1, 1), (2, 1)] := ⟨fun w fs h => by rw [und_inj Tryz.underlying344 h]; kernel_rfl⟩
theorem hmix : Tryz.prog.follows .mixedOrders = true := by kernel_rfl
theorem ext65 (b : Nat) (w : World) : (callFunc 65 [(.float .f64 b : Value)].toArray).run Tryz.prog w = .ok (.value (.int .u64 (b : Int))) w := by kernel_rfl
theorem ext87 (b : Int) (w : World) : (callFunc 87 [(.int .u64 b : Value)].toArray).run Tryz.prog w = .ok (.value (.float .f64 b.toNat)) w := by kernel_rfl
theorem ext317_0 (x y : Nat) (w : World) : (callFunc 317 [(.int .u64 (x : Int) : Value), .int .u64 (y : Int), .int .u64 (0 : Int)].toArray).run Tryz.prog w = .ok (.value (.tuple [.int .u64 (((x + y + 0) % 18446744073709551616 : Nat) : Int), .int .u64 (((x + y + 0) / 18446744073709551616 : Nat) : Int)].toArray)) w := by kernel_rfl
theorem ext317_1 (x y : Nat) (w : World) : (callFunc 317 [(.int .u64 (x : Int) : Value), .int .u64 (y : Int), .int .u64 (1 : Int)].toArray).run Tryz.prog w = .ok (.value (.tuple [.int .u64 (((x + y + 1) % 18446744073709551616 : Nat) : Int), .int .u64 (((x + y + 1) / 18446744073709551616 : Nat) : Int)].toArray)) w := by kernel_rfl
theorem ext317 (x y c : Nat) (hc : c ≤ 1) (w : World) : (callFunc 317 [(.int .u64 (x : Int) : Value), .int .u64 (y : Int), .int .u64 ((c : Nat) : Int)].toArray).run Tryz.prog w = .ok (.value (.tuple [.int .u64 (((x + y + c) % 18446744073709551616 : Nat) : Int), .int .u64 (((x + y + c) / 18446744073709551616 : Nat) : Int)].toArray)) w := by
  rcases (by omega : c = 0 ∨ c = 1) with rfl | rfl
  · exact ext317_0 x y w
  · exact ext317_1 x y w
theorem ext342_0 (x y : Nat) (w : World) : (callFunc 342 [(.int .u64 (x : Int) : Value), .int .u64 (y : Int), .int .u64 (0 : Int)].toArray).run Tryz.prog w = .ok (.value (.tuple [.int .u64 (((x + 18446744073709551616 - y - 0) % 18446744073709551616 : Nat) : Int), .int .u64 ((if x < y + 0 then 1 else 0 : Nat) : Int)].toArray)) w := by kernel_rfl
theorem ext342_1 (x y : Nat) (w : World) : (callFunc 342 [(.int .u64 (x : Int) : Value), .int .u64 (y : Int), .int .u64 (1 : Int)].toArray).run Tryz.prog w = .ok (.value (.tuple [.int .u64 (((x + 18446744073709551616 - y - 1) % 18446744073709551616 : Nat) : Int), .int .u64 ((if x < y + 1 then 1 else 0 : Nat) : Int)].toArray)) w := by kernel_rfl
theorem ext342 (x y c : Nat) (hc : c ≤ 1) (w : World) : (callFunc 342 [(.int .u64 (x : Int) : Value), .int .u64 (y : Int), .int .u64 ((c : Nat) : Int)].toArray).run Tryz.prog w = .ok (.value (.tuple [.int .u64 (((x + 18446744073709551616 - y - c) % 18446744073709551616 : Nat) : Int), .int .u64 ((if x < y + c then 1 else 0 : Nat) : Int)].toArray)) w := by
  rcases (by omega : c = 0 ∨ c = 1) with rfl | rfl
  · exact ext342_0 x y w
  · exact ext342_1 x y w
theorem hF {P : Program} {f : FuncId} {fn : Func} (h : P.funcs[f]? = some fn) (hb : fn.body.isSome = true := by rfl) (hd : (fn.name == "runtime.NumGoroutine") = false := by decide) : HasF P f := ⟨fn, _, h, (Option.some_get hb).symm, hd⟩
theorem hasF10 : HasF Tryz.prog 10 := hF Tryz.func10
theorem hasF14 : HasF Tryz.prog 14 := hF Tryz.func14
theorem hasF24 : HasF Tryz.prog 24 := hF Tryz.func24
theorem hasF25 : HasF Tryz.prog 25 := hF Tryz.func25
theorem hasF26 : HasF Tryz.prog 26 := hF Tryz.func26
theorem hasF27 : HasF Tryz.prog 27 := hF Tryz.func27
theorem hasF28 : HasF Tryz.prog 28 := hF Tryz.func28
theorem hasF29 : HasF Tryz.prog 29 := hF Tryz.func29
theorem hasF30 : HasF Tryz.prog 30 := hF Tryz.func30
theorem hasF31 : HasF Tryz.prog 31 := hF Tryz.func31
theorem hasF32 : HasF Tryz.prog 32 := hF Tryz.func32
theorem hasF33 : HasF Tryz.prog 33 := hF Tryz.func33
theorem hasF34 : HasF Tryz.prog 34 := hF Tryz.func34
theorem hasF35 : HasF Tryz.prog 35 := hF Tryz.func35
theorem hasF36 : HasF Tryz.prog 36 := hF Tryz.func36
theorem hasF37 : HasF Tryz.prog 37 := hF Tryz.func37
theorem hasF38 : HasF Tryz.prog 38 := hF Tryz.func38
theorem hasF47 : HasF Tryz.prog 47 := hF Tryz.func47
theorem hasF48 : HasF Tryz.prog 48 := hF Tryz.func48
theorem hasF62 : HasF Tryz.prog 62 := hF Tryz.func62
theorem hasF63 : HasF Tryz.prog 63 := hF Tryz.func63
theorem hasF64 : HasF Tryz.prog 64 := hF Tryz.func64
theorem hasF82 : HasF Tryz.prog 82 := hF Tryz.func82
theorem hasF83 : HasF Tryz.prog 83 := hF Tryz.func83
theorem hasF84 : HasF Tryz.prog 84 := hF Tryz.func84
theorem hasF85 : HasF Tryz.prog 85 := hF Tryz.func85
theorem hasF86 : HasF Tryz.prog 86 := hF Tryz.func86
theorem hasF88 : HasF Tryz.prog 88 := hF Tryz.func88
theorem hasF89 : HasF Tryz.prog 89 := hF Tryz.func89
theorem hasF90 : HasF Tryz.prog 90 := hF Tryz.func90
theorem hasF91 : HasF Tryz.prog 91 := hF Tryz.func91
theorem hasF92 : HasF Tryz.prog 92 := hF Tryz.func92
theorem hasF93 : HasF Tryz.prog 93 := hF Tryz.func93
theorem hasF94 : HasF Tryz.prog 94 := hF Tryz.func94
theorem hasF95 : HasF Tryz.prog 95 := hF Tryz.func95
theorem hasF96 : HasF Tryz.prog 96 := hF Tryz.func96
theorem hasF97 : HasF Tryz.prog 97 := hF Tryz.func97
theorem hasF98 : HasF Tryz.prog 98 := hF Tryz.func98
theorem hasF99 : HasF Tryz.prog 99 := hF Tryz.func99
theorem hasF100 : HasF Tryz.prog 100 := hF Tryz.func100
theorem hasF101 : HasF Tryz.prog 101 := hF Tryz.func101
theorem hasF102 : HasF Tryz.prog 102 := hF Tryz.func102
theorem hasF103 : HasF Tryz.prog 103 := hF Tryz.func103
theorem hasF104 : HasF Tryz.prog 104 := hF Tryz.func104
theorem hasF105 : HasF Tryz.prog 105 := hF Tryz.func105
theorem hasF106 : HasF Tryz.prog 106 := hF Tryz.func106
theorem hasF107 : HasF Tryz.prog 107 := hF Tryz.func107
theorem hasF108 : HasF Tryz.prog 108 := hF Tryz.func108
theorem hasF109 : HasF Tryz.prog 109 := hF Tryz.func109
theorem hasF110 : HasF Tryz.prog 110 := hF Tryz.func110
theorem hasF111 : HasF Tryz.prog 111 := hF Tryz.func111
theorem hasF112 : HasF Tryz.prog 112 := hF Tryz.func112
theorem hasF113 : HasF Tryz.prog 113 := hF Tryz.func113
theorem hasF114 : HasF Tryz.prog 114 := hF Tryz.func114
theorem hasF115 : HasF Tryz.prog 115 := hF Tryz.func115
theorem hasF116 : HasF Tryz.prog 116 := hF Tryz.func116
theorem hasF124 : HasF Tryz.prog 124 := hF Tryz.func124
theorem hasF126 : HasF Tryz.prog 126 := hF Tryz.func126
theorem hasF127 : HasF Tryz.prog 127 := hF Tryz.func127
theorem hasF128 : HasF Tryz.prog 128 := hF Tryz.func128
theorem hasF131 : HasF Tryz.prog 131 := hF Tryz.func131
theorem hasF132 : HasF Tryz.prog 132 := hF Tryz.func132
theorem hasF170 : HasF Tryz.prog 170 := hF Tryz.func170
theorem hasF171 : HasF Tryz.prog 171 := hF Tryz.func171
theorem hasF172 : HasF Tryz.prog 172 := hF Tryz.func172
theorem hasF173 : HasF Tryz.prog 173 := hF Tryz.func173
theorem hasF174 : HasF Tryz.prog 174 := hF Tryz.func174
theorem hasF175 : HasF Tryz.prog 175 := hF Tryz.func175
theorem hasF176 : HasF Tryz.prog 176 := hF Tryz.func176
theorem hasF177 : HasF Tryz.prog 177 := hF Tryz.func177
theorem hasF178 : HasF Tryz.prog 178 := hF Tryz.func178
theorem hasF179 : HasF Tryz.prog 179 := hF Tryz.func179
theorem hasF180 : HasF Tryz.prog 180 := hF Tryz.func180
theorem hasF181 : HasF Tryz.prog 181 := hF Tryz.func181
theorem hasF182 : HasF Tryz.prog 182 := hF Tryz.func182
theorem hasF183 : HasF Tryz.prog 183 := hF Tryz.func183
theorem hasF184 : HasF Tryz.prog 184 := hF Tryz.func184
theorem hasF185 : HasF Tryz.prog 185 := hF Tryz.func185
theorem hasF186 : HasF Tryz.prog 186 := hF Tryz.func186
theorem hasF187 : HasF Tryz.prog 187 := hF Tryz.func187
theorem hasF188 : HasF Tryz.prog 188 := hF Tryz.func188
theorem hasF189 : HasF Tryz.prog 189 := hF Tryz.func189
theorem hasF190 : HasF Tryz.prog 190 := hF Tryz.func190
theorem hasF191 : HasF Tryz.prog 191 := hF Tryz.func191
theorem hasF192 : HasF Tryz.prog 192 := hF Tryz.func192
theorem hasF193 : HasF Tryz.prog 193 := hF Tryz.func193
theorem hasF194 : HasF Tryz.prog 194 := hF Tryz.func194
theorem hasF195 : HasF Tryz.prog 195 := hF Tryz.func195
theorem hasF196 : HasF Tryz.prog 196 := hF Tryz.func196
theorem hasF197 : HasF Tryz.prog 197 := hF Tryz.func197
theorem hasF198 : HasF Tryz.prog 198 := hF Tryz.func198
theorem hasF199 : HasF Tryz.prog 199 := hF Tryz.func199
theorem hasF200 : HasF Tryz.prog 200 := hF Tryz.func200
theorem hasF201 : HasF Tryz.prog 201 := hF Tryz.func201
theorem hasF202 : HasF Tryz.prog 202 := hF Tryz.func202
theorem hasF203 : HasF Tryz.prog 203 := hF Tryz.func203
theorem hasF204 : HasF Tryz.prog 204 := hF Tryz.func204
theorem hasF211 : HasF Tryz.prog 211 := hF Tryz.func211
theorem hasF212 : HasF Tryz.prog 212 := hF Tryz.func212
theorem hasF213 : HasF Tryz.prog 213 := hF Tryz.func213
theorem hasF216 : HasF Tryz.prog 216 := hF Tryz.func216
theorem hasF255 : HasF Tryz.prog 255 := hF Tryz.func255
theorem hasF256 : HasF Tryz.prog 256 := hF Tryz.func256
theorem hasF257 : HasF Tryz.prog 257 := hF Tryz.func257
theorem hasF258 : HasF Tryz.prog 258 := hF Tryz.func258
theorem hasF259 : HasF Tryz.prog 259 := hF Tryz.func259
theorem hasF260 : HasF Tryz.prog 260 := hF Tryz.func260
theorem hasF261 : HasF Tryz.prog 261 := hF Tryz.func261
theorem hasF262 : HasF Tryz.prog 262 := hF Tryz.func262
theorem hasF263 : HasF Tryz.prog 263 := hF Tryz.func263
theorem hasF264 : HasF Tryz.prog 264 := hF Tryz.func264
theorem hasF265 : HasF Tryz.prog 265 := hF Tryz.func265
theorem hasF266 : HasF Tryz.prog 266 := hF Tryz.func266
theorem hasF267 : HasF Tryz.prog 267 := hF Tryz.func267
theorem hasF268 : HasF Tryz.prog 268 := hF Tryz.func268
theorem hasF269 : HasF Tryz.prog 269 := hF Tryz.func269
theorem hasF270 : HasF Tryz.prog 270 := hF Tryz.func270
theorem hasF271 : HasF Tryz.prog 271 := hF Tryz.func271
theorem hasF272 : HasF Tryz.prog 272 := hF Tryz.func272
theorem hasF273 : HasF Tryz.prog 273 := hF Tryz.func273
theorem hasF274 : HasF Tryz.prog 274 := hF Tryz.func274
theorem hasF275 : HasF Tryz.prog 275 := hF Tryz.func275
theorem hasF276 : HasF Tryz.prog 276 := hF Tryz.func276
theorem hasF277 : HasF Tryz.prog 277 := hF Tryz.func277
theorem hasF278 : HasF Tryz.prog 278 := hF Tryz.func278
theorem hasF279 : HasF Tryz.prog 279 := hF Tryz.func279
theorem hasF280 : HasF Tryz.prog 280 := hF Tryz.func280
theorem hasF281 : HasF Tryz.prog 281 := hF Tryz.func281
theorem hasF282 : HasF Tryz.prog 282 := hF Tryz.func282
theorem hasF284 : HasF Tryz.prog 284 := hF Tryz.func284
theorem hasF285 : HasF Tryz.prog 285 := hF Tryz.func285
theorem hasF287 : HasF Tryz.prog 287 := hF Tryz.func287
theorem hasF288 : HasF Tryz.prog 288 := hF Tryz.func288
theorem hasF299 : HasF Tryz.prog 299 := hF Tryz.func299
theorem hasF312 : HasF Tryz.prog 312 := hF Tryz.func312
theorem hasF313 : HasF Tryz.prog 313 := hF Tryz.func313
theorem hasF314 : HasF Tryz.prog 314 := hF Tryz.func314
theorem hasF315 : HasF Tryz.prog 315 := hF Tryz.func315
theorem hasF316 : HasF Tryz.prog 316 := hF Tryz.func316
theorem hasF318 : HasF Tryz.prog 318 := hF Tryz.func318
theorem hasF319 : HasF Tryz.prog 319 := hF Tryz.func319
theorem hasF321 : HasF Tryz.prog 321 := hF Tryz.func321
theorem hasF322 : HasF Tryz.prog 322 := hF Tryz.func322
theorem hasF323 : HasF Tryz.prog 323 := hF Tryz.func323
theorem hasF343 : HasF Tryz.prog 343 := hF Tryz.func343
theorem hasF344 : HasF Tryz.prog 344 := hF Tryz.func344
theorem hasF345 : HasF Tryz.prog 345 := hF Tryz.func345
theorem hasF346 : HasF Tryz.prog 346 := hF Tryz.func346
theorem hasF350 : HasF Tryz.prog 350 := hF Tryz.func350
theorem hasF355 : HasF Tryz.prog 355 := hF Tryz.func355
theorem hasF357 : HasF Tryz.prog 357 := hF Tryz.func357
end

/- Whole numbers as lists of words of 32 bits: plain laws. No condition. -/
namespace Wd

def val : List Nat → Nat
  | [] => 0
  | x :: l => x + 4294967296 * val l
def W (l : List Nat) : Prop := ∀ x ∈ l, x < 4294967296
def wd (n : Nat) : List Nat := if h : n = 0 then [] else n % 4294967296 :: wd (n / 4294967296)
termination_by n
decreasing_by omega

theorem wd_zero : wd 0 = [] := by rw [wd]; simp
theorem wd_pos {n : Nat} (h : n ≠ 0) : wd n = n % 4294967296 :: wd (n / 4294967296) := by rw [wd]; simp [h]
theorem val_wd (n : Nat) : val (wd n) = n := by
  induction n using Nat.strongRecOn with
  | _ n ih =>
    by_cases h : n = 0
    · subst h; rw [wd_zero]; rfl
    · rw [wd_pos h, val, ih _ (by omega)]; omega
theorem W_nil : W [] := fun x hx => by cases hx
theorem W_cons {x : Nat} {l : List Nat} : W (x :: l) ↔ x < 4294967296 ∧ W l := by simp [W]
theorem W_append {a b : List Nat} : W (a ++ b) ↔ W a ∧ W b := by
  simp only [W, List.mem_append]
  exact ⟨fun h => ⟨fun x hx => h x (.inl hx), fun x hx => h x (.inr hx)⟩, fun h x hx => hx.elim (h.1 x) (h.2 x)⟩
theorem W.take {l : List Nat} (h : W l) (k : Nat) : W (l.take k) := fun x hx => h x (List.mem_of_mem_take hx)
theorem W.drop {l : List Nat} (h : W l) (k : Nat) : W (l.drop k) := fun x hx => h x (List.mem_of_mem_drop hx)
theorem W.set {l : List Nat} (h : W l) (k : Nat) {x : Nat} (hx : x < 4294967296) : W (l.set k x) := fun y hy => by
  rcases List.mem_or_eq_of_mem_set hy with hy | rfl
  · exact h y hy
  · exact hx
theorem W_replicate (k : Nat) : W (List.replicate k 0) := fun x hx => by
  have := List.eq_of_mem_replicate hx; omega
theorem W.getD {l : List Nat} (h : W l) (i : Nat) : l.getD i 0 < 4294967296 := by
  rw [List.getD_eq_getElem?_getD]
  by_cases hi : i < l.length
  · rw [List.getElem?_eq_getElem hi]; exact h _ (List.getElem_mem hi)
  · rw [List.getElem?_eq_none (by omega)]; decide
theorem W_wd (n : Nat) : W (wd n) := by
  induction n using Nat.strongRecOn with
  | _ n ih =>
    by_cases h : n = 0
    · subst h; rw [wd_zero]; exact W_nil
    · rw [wd_pos h]; exact W_cons.2 ⟨by omega, ih _ (by omega)⟩
theorem val_append (a b : List Nat) : val (a ++ b) = val a + 2 ^ (32 * a.length) * val b := by
  induction a with
  | nil => simp [val]
  | cons x a ih =>
    simp only [List.cons_append, val, ih, List.length_cons]
    rw [show 32 * (a.length + 1) = 32 + 32 * a.length by omega, Nat.pow_add, Nat.mul_assoc, Nat.mul_add]
    have : (2 : Nat) ^ 32 = 4294967296 := by decide
    rw [this]; omega
theorem val_snoc (a : List Nat) (x : Nat) : val (a ++ [x]) = val a + 2 ^ (32 * a.length) * x := by rw [val_append]; simp [val]
theorem val_lt {l : List Nat} (h : W l) : val l < 2 ^ (32 * l.length) := by
  induction l with
  | nil => simp [val]
  | cons x l ih =>
    obtain ⟨h1, h2⟩ := W_cons.1 h
    have := ih h2
    simp only [val, List.length_cons]
    rw [show 32 * (l.length + 1) = 32 + 32 * l.length by omega, Nat.pow_add]
    have e : (2 : Nat) ^ 32 = 4294967296 := by decide
    rw [e]; omega
theorem val_replicate (k : Nat) : val (List.replicate k 0) = 0 := by
  induction k with
  | zero => rfl
  | succ k ih => simp [List.replicate_succ, val, ih]
theorem val_take_drop (l : List Nat) (k : Nat) (h : k ≤ l.length) : val l = val (l.take k) + 2 ^ (32 * k) * val (l.drop k) := by
  conv => lhs; rw [← List.take_append_drop k l]
  rw [val_append, List.length_take, Nat.min_eq_left h]
theorem val_drop {l : List Nat} (hw : W l) (k : Nat) (h : k ≤ l.length) : val (l.drop k) = val l / 2 ^ (32 * k) := by
  have h1 := val_take_drop l k h
  have h2 := val_lt (hw.take k)
  rw [List.length_take, Nat.min_eq_left h] at h2
  rw [h1, Nat.add_mul_div_left _ _ (Nat.two_pow_pos _), Nat.div_eq_of_lt h2, Nat.zero_add]
theorem val_take {l : List Nat} (hw : W l) (k : Nat) (h : k ≤ l.length) : val (l.take k) = val l % 2 ^ (32 * k) := by
  have h1 := val_take_drop l k h
  have h2 := val_lt (hw.take k)
  rw [List.length_take, Nat.min_eq_left h] at h2
  rw [h1, Nat.add_mul_mod_self_left, Nat.mod_eq_of_lt h2]
theorem take_succ_getD {l : List Nat} {i : Nat} (h : i < l.length) : l.take (i + 1) = l.take i ++ [l.getD i 0] := by
  rw [List.take_add_one, List.getD_eq_getElem?_getD, List.getElem?_eq_getElem h]; rfl
theorem val_take_succ {l : List Nat} {i : Nat} (h : i < l.length) : val (l.take (i + 1)) = val (l.take i) + 2 ^ (32 * i) * l.getD i 0 := by
  rw [take_succ_getD h, val_snoc, List.length_take, Nat.min_eq_left (by omega)]
theorem drop_getD {l : List Nat} {i : Nat} (h : i < l.length) : l.drop i = l.getD i 0 :: l.drop (i + 1) := by
  rw [List.drop_eq_getElem_cons h, List.getD_eq_getElem?_getD, List.getElem?_eq_getElem h]; rfl
theorem val_drop_succ {l : List Nat} {i : Nat} (h : i < l.length) : val (l.drop i) = l.getD i 0 + 4294967296 * val (l.drop (i + 1)) := by
  rw [drop_getD h]; rfl
theorem getD_out {l : List Nat} {i : Nat} (h : l.length ≤ i) : l.getD i 0 = 0 := by
  rw [List.getD_eq_getElem?_getD, List.getElem?_eq_none h]; rfl
theorem wd_of_last {l : List Nat} (hw : W l) (h : l = [] ∨ l.getD (l.length - 1) 0 ≠ 0) : wd (val l) = l := by
  induction l with
  | nil => exact wd_zero
  | cons x l ih =>
    obtain ⟨h1, h2⟩ := W_cons.1 hw
    rcases h with h | h
    · cases h
    · cases l with
      | nil =>
        have hx : x ≠ 0 := by simpa using h
        rw [val, val, wd_pos (by omega)]
        have e1 : (x + 4294967296 * 0) % 4294967296 = x := by omega
        have e2 : (x + 4294967296 * 0) / 4294967296 = 0 := by omega
        rw [e1, e2, wd_zero]
      | cons y l =>
        have h3 := ih h2 (.inr (by simpa using h))
        have hv : val (y :: l) ≠ 0 := fun e => by rw [e, wd_zero] at h3; cases h3
        rw [val, wd_pos (by omega)]
        have e1 : (x + 4294967296 * val (y :: l)) % 4294967296 = x := by omega
        have e2 : (x + 4294967296 * val (y :: l)) / 4294967296 = val (y :: l) := by omega
        rw [e1, e2, h3]
theorem wd_eq_nil {n : Nat} : wd n = [] ↔ n = 0 := by
  constructor
  · intro h; have := val_wd n; rw [h] at this; exact this.symm
  · intro h; subst h; exact wd_zero
theorem wd_length_le {n k : Nat} : (wd n).length ≤ k ↔ n < 2 ^ (32 * k) := by
  induction k generalizing n with
  | zero => simp [wd_eq_nil]
  | succ k ih =>
    by_cases h : n = 0
    · subst h; simp [wd_zero, Nat.two_pow_pos]
    · rw [wd_pos h, List.length_cons, Nat.succ_le_succ_iff, ih]
      rw [show 32 * (k + 1) = 32 + 32 * k by omega, Nat.pow_add]
      have e : (2 : Nat) ^ 32 = 4294967296 := by decide
      rw [e, Nat.div_lt_iff_lt_mul (by decide), Nat.mul_comm]
theorem wd_length_val_le {l : List Nat} (h : W l) : (wd (val l)).length ≤ l.length := wd_length_le.2 (val_lt h)
theorem wd_length_pos {n : Nat} : 0 < (wd n).length ↔ n ≠ 0 := by
  rw [← Nat.not_le, Nat.le_zero, List.length_eq_zero_iff, wd_eq_nil]
theorem wd_length_mono {a b : Nat} (h : a ≤ b) : (wd a).length ≤ (wd b).length :=
  wd_length_le.2 (Nat.lt_of_le_of_lt h (wd_length_le.1 (Nat.le_refl _)))
theorem wd_last {n : Nat} (h : n ≠ 0) : (wd n).getD ((wd n).length - 1) 0 ≠ 0 := by
  intro hz
  have hp := wd_length_pos.2 h
  have h1 := val_take_succ (l := wd n) (i := (wd n).length - 1) (by omega)
  rw [hz, show (wd n).length - 1 + 1 = (wd n).length by omega, List.take_length, val_wd] at h1
  have h2 := val_lt ((W_wd n).take ((wd n).length - 1))
  rw [List.length_take, Nat.min_eq_left (by omega)] at h2
  have h3 : n < 2 ^ (32 * ((wd n).length - 1)) := by omega
  have := wd_length_le.2 h3
  omega
def bl (n : Nat) : Nat := if n = 0 then 0 else n.log2 + 1
theorem bl_le {n k : Nat} : bl n ≤ k ↔ n < 2 ^ k := by
  unfold bl
  by_cases h : n = 0
  · subst h; simp [Nat.two_pow_pos]
  · rw [if_neg h, Nat.succ_le_iff, Nat.log2_lt h]
theorem lt_bl {n k : Nat} : k < bl n ↔ 2 ^ k ≤ n := by
  rw [← Nat.not_le, bl_le, Nat.not_lt]
theorem bl_lt (n : Nat) : n < 2 ^ bl n := bl_le.1 (Nat.le_refl _)
theorem bl_zero : bl 0 = 0 := by simp [bl]
theorem bl_eq_zero {n : Nat} : bl n = 0 ↔ n = 0 := by
  constructor
  · intro h; have := bl_lt n; rw [h] at this; omega
  · intro h; subst h; exact bl_zero
theorem bl_pos {n : Nat} (h : n ≠ 0) : 0 < bl n := by
  have := mt bl_eq_zero.1 h; omega
theorem bl_low {n : Nat} (h : n ≠ 0) : 2 ^ (bl n - 1) ≤ n := lt_bl.1 (by have := bl_pos h; omega)
theorem bl_unique {n k : Nat} (h1 : n < 2 ^ k) (h2 : k = 0 ∨ 2 ^ (k - 1) ≤ n) : bl n = k := by
  have a := bl_le.2 h1
  rcases h2 with rfl | h2
  · omega
  · have := lt_bl.2 h2; omega
theorem bl_mul_pow {n : Nat} (h : n ≠ 0) (k : Nat) : bl (n * 2 ^ k) = bl n + k := by
  have hp := bl_pos h
  refine bl_unique ?_ (.inr ?_)
  · rw [Nat.pow_add]; exact Nat.mul_lt_mul_of_pos_right (bl_lt n) (Nat.two_pow_pos k)
  · rw [show bl n + k - 1 = (bl n - 1) + k by omega, Nat.pow_add]; exact Nat.mul_le_mul_right _ (bl_low h)
theorem bl_val {l : List Nat} (hw : W l) (h : l ≠ []) (hl : l.getD (l.length - 1) 0 ≠ 0) : bl (val l) = 32 * (l.length - 1) + bl (l.getD (l.length - 1) 0) := by
  have hp : 0 < l.length := List.length_pos_iff.2 h
  have h1 := val_take_succ (l := l) (i := l.length - 1) (by omega)
  rw [show l.length - 1 + 1 = l.length by omega, List.take_length] at h1
  have h2 := val_lt (hw.take (l.length - 1))
  rw [List.length_take, Nat.min_eq_left (by omega)] at h2
  have hb := bl_pos hl
  have hb1 := bl_lt (l.getD (l.length - 1) 0)
  have hb2 := bl_low hl
  rw [h1]
  generalize l.getD (l.length - 1) 0 = x at *
  generalize val (l.take (l.length - 1)) = y at *
  refine bl_unique ?_ (.inr ?_)
  · rw [Nat.pow_add]
    calc y + 2 ^ (32 * (l.length - 1)) * x < 2 ^ (32 * (l.length - 1)) + 2 ^ (32 * (l.length - 1)) * x := by omega
      _ = 2 ^ (32 * (l.length - 1)) * (x + 1) := by rw [Nat.mul_add, Nat.mul_one, Nat.add_comm]
      _ ≤ 2 ^ (32 * (l.length - 1)) * 2 ^ bl x := Nat.mul_le_mul_left _ hb1
  · rw [show 32 * (l.length - 1) + bl x - 1 = 32 * (l.length - 1) + (bl x - 1) by omega, Nat.pow_add]
    have := Nat.mul_le_mul_left (2 ^ (32 * (l.length - 1))) hb2
    omega

def tz (n : Nat) : Nat := if h : n = 0 then 0 else if n % 2 = 1 then 0 else tz (n / 2) + 1
termination_by n
decreasing_by omega
theorem tz_zero : tz 0 = 0 := by rw [tz]; simp
theorem tz_odd {n : Nat} (h : n % 2 = 1) : tz n = 0 := by rw [tz]; split <;> simp [h]
theorem tz_even {n : Nat} (h0 : n ≠ 0) (h : n % 2 = 0) : tz n = tz (n / 2) + 1 := by
  conv => lhs; rw [tz]
  rw [dif_neg h0, if_neg (by omega)]
theorem tz_mul (n k : Nat) (h : n % 2 = 1) : tz (n * 2 ^ k) = k := by
  induction k with
  | zero => simpa using tz_odd h
  | succ k ih =>
    have hp := Nat.two_pow_pos k
    have h0 : n * 2 ^ k ≠ 0 := by
      intro e; rcases Nat.mul_eq_zero.1 e with e | e <;> omega
    have e : n * 2 ^ (k + 1) = 2 * (n * 2 ^ k) := by rw [Nat.pow_succ, ← Nat.mul_assoc, Nat.mul_comm]
    rw [e, tz_even (by omega) (by omega), Nat.mul_div_cancel_left _ (by decide), ih]
theorem tz_spec {n : Nat} (h : n ≠ 0) : n / 2 ^ tz n % 2 = 1 ∧ n = n / 2 ^ tz n * 2 ^ tz n := by
  induction n using Nat.strongRecOn with
  | _ n ih =>
    by_cases h2 : n % 2 = 1
    · rw [tz_odd h2]; simp [h2]
    · rw [tz_even h (by omega)]
      obtain ⟨a, b⟩ := ih (n / 2) (by omega) (by omega)
      have e : n / 2 ^ (tz (n / 2) + 1) = n / 2 / 2 ^ tz (n / 2) := by rw [Nat.pow_succ, Nat.mul_comm, ← Nat.div_div_eq_div_mul]
      rw [e]
      refine ⟨a, ?_⟩
      rw [Nat.pow_succ, ← Nat.mul_assoc]
      generalize n / 2 / 2 ^ tz (n / 2) = q at *
      generalize q * 2 ^ tz (n / 2) = r at *
      omega
theorem tz_lt_bl {n : Nat} (h : n ≠ 0) : tz n < bl n := by
  obtain ⟨a, b⟩ := tz_spec h
  rw [lt_bl]
  have : 1 ≤ n / 2 ^ tz n := by revert a; generalize n / 2 ^ tz n = q; omega
  calc 2 ^ tz n = 1 * 2 ^ tz n := by rw [Nat.one_mul]
    _ ≤ n / 2 ^ tz n * 2 ^ tz n := Nat.mul_le_mul_right _ this
    _ = n := b.symm
theorem tz_unique {n m k : Nat} (h : n = m * 2 ^ k) (hm : m % 2 = 1) : tz n = k := by rw [h]; exact tz_mul m k hm
end Wd

/- Slices of words that are read, as numbers. No condition. -/
section
open Go Sx Wd

structure NU (w : World) (v : Value) (l : List Nat) : Prop where
  ex : ∃ a c, v = .slice a l.length c ∧ l.length ≤ c ∧ RW w a (l.map u32v)
  hw : W l
  len : l.length ≤ 70368744177664
theorem NU.keep0 {w w' : World} {v : Value} {l : List Nat} (h : NU w v l) (hc : Chg [] w w') : NU w' v l := by
  obtain ⟨⟨a, c, h1, h2, h3⟩, h4, h5⟩ := h
  exact ⟨⟨a, c, h1, h2, h3.keep0 hc⟩, h4, h5⟩
theorem NU.one {w : World} {v : Value} {l : List Nat} (h : NU w v l) : v.oneCell' = true := by
  obtain ⟨⟨a, c, rfl, _⟩, _⟩ := h; rfl
def isU32 : Value → Bool
  | .int .u32 _ => true
  | _ => false
theorem NU.notU {w : World} {v : Value} {l : List Nat} (h : NU w v l) : isU32 v = false := by
  obtain ⟨⟨a, c, rfl, _⟩, _⟩ := h; rfl
theorem NU.keepBK {w w' : World} {v : Value} {l : List Nat} {b : Nat} {T : TypeId} {cs : List Value} (h : NU w v l) (hb : BK w b T cs) (hc : Chg [b] w w') (hn : ∀ c ∈ cs, isU32 c = false) : NU w' v l := by
  obtain ⟨⟨a, c, h1, h2, h3⟩, h4, h5⟩ := h
  refine ⟨⟨a, c, h1, h2, fun i u hu => ?_⟩, h4, h5⟩
  obtain ⟨ad, e, hcell⟩ := h3 i u hu
  refine ⟨ad, e, hc.cell hcell fun hm => ?_⟩
  simp only [List.mem_singleton] at hm
  have hx : isU32 u = true := by
    rw [List.getElem?_map] at hu
    cases hq : l[i]? with
    | none => rw [hq] at hu; cases hu
    | some y => rw [hq] at hu; cases hu; rfl
  have hlk := hcell
  cases had : ad.add i with
  | mk b' o' sp =>
    rw [had] at hlk hm
    simp only at hm
    subst hm
    cases sp with
    | none =>
      rw [cell_at hb] at hlk
      have := hn u (List.mem_of_getElem? hlk)
      rw [hx] at this; cases this
    | some q =>
      have : w.cell? ⟨b', o', some q⟩ = none := by simp [World.cell?, show w.heap[b']? = _ from hb]
      rw [this] at hlk; cases hlk
theorem NU.part {w : World} {a : Option Addr} {l : List Nat} {k c : Nat} (h : RW w a (l.map u32v)) (hw : W l) (hl : l.length ≤ 70368744177664) (hk : k ≤ l.length) (hc : k ≤ c) : NU w (.slice a k c) (l.take k) := by
  have e : (l.take k).length = k := by rw [List.length_take]; omega
  refine ⟨⟨a, c, by rw [e], by omega, ?_⟩, hw.take k, by omega⟩
  rw [List.map_take]
  exact h.take k
theorem NU.of_row {w : World} {a : Option Addr} {l : List Nat} {k c : Nat} (h : RW w a (l.map u32v)) (hw : W l) (hl : l.length ≤ 70368744177664) (hk : k = l.length) (hc : k ≤ c) : NU w (.slice a k c) l := by
  subst hk
  exact ⟨⟨a, c, rfl, hc, h⟩, hw, hl⟩
theorem NU.nil {w : World} {c : Nat} {a : Option Addr} : NU w (.slice a 0 c) [] := ⟨⟨a, c, rfl, by simp, by simpa using RW.nil⟩, W_nil, by simp⟩
theorem NU.of_block {w : World} {b c : Nat} {E : TypeId} {l : List Nat} {k : Nat} (h : OB w b E l) (hw : W l) (hl : l.length ≤ 70368744177664) (hk : k = l.length) (hc : k ≤ c) : NU w (.slice (some ⟨b, 0, none⟩) k c) l := NU.of_row h.row hw hl hk hc
theorem cut_wd {l : List Nat} {k : Nat} (hW : W l) (hk : k ≤ l.length) (hv : val (l.take k) = val l) (h : k = 0 ∨ l.getD (k - 1) 0 ≠ 0) : wd (val l) = l.take k := by
  rw [← hv]
  refine wd_of_last (hW.take k) ?_
  rcases h with rfl | h
  · left; simp
  · by_cases hk0 : k = 0
    · subst hk0; left; simp
    · right
      rw [List.length_take, Nat.min_eq_left hk]
      have : (l.take k).getD (k - 1) 0 = l.getD (k - 1) 0 := by
        rw [List.getD_eq_getElem?_getD, List.getD_eq_getElem?_getD, List.getElem?_take, if_pos (by omega)]
      rw [this]; exact h
theorem take_pred {l : List Nat} {k : Nat} (hk : k ≤ l.length) (h0 : 0 < k) (hz : l.getD (k - 1) 0 = 0) : val (l.take (k - 1)) = val (l.take k) := by
  have := val_take_succ (l := l) (i := k - 1) (by omega)
  rw [show k - 1 + 1 = k by omega, hz] at this
  omega
theorem own_of_OB {w : World} {b k : Nat} {e : TypeId} {l : List Nat} (h : OB w b e l) (hk : k ≤ l.length) (hm : l.length ≤ 281474976710656) : w.ownsRow 0 e 1 (.slice (some ⟨b, 0, none⟩) k l.length) k ((l.take k).map u32v) :=
  ⟨by simp; omega, .inr ⟨b, l.length, _, rfl, Nat.zero_le _, h, hk, by unfold maxLen; omega, by simp, by simp [List.map_take]⟩⟩
theorem NU.of_own {w : World} {e : TypeId} {v : Value} {m : Nat} {l : List Nat} (h : w.ownsRow 0 e 1 v m (l.map u32v)) (hW : W l) (hl : l.length ≤ 70368744177664) : NU w v l := by
  have h1 : m = l.length := by have := h.1; simp at this; omega
  subst h1
  rcases own_cases h with ⟨rfl, h0, _⟩ | ⟨g, cap, rfl, hc, _, _⟩
  · have : l = [] := List.length_eq_zero_iff.1 h0
    subst this
    exact NU.nil
  · exact NU.of_row (RW.of_own h) hW hl rfl hc
end

/- Short names for cells that are one each. No condition. -/
section
open Go Sx

def allO : List Value → Prop
  | [] => True
  | v :: l => v.oneCell' = true ∧ allO l
theorem ao {l : List Value} (h : allO l := by repeat (first | exact trivial | exact rfl | assumption | exact NU.one (by assumption) | apply And.intro)) : ∀ v ∈ l, v.oneCell' = true := by
  induction l with
  | nil => intro v hv; cases hv
  | cons a l ih =>
    intro v hv
    rcases List.mem_cons.1 hv with rfl | hv
    · exact h.1
    · exact ih h.2 v hv
def allN (p : Value → Bool) : List Value → Prop
  | [] => True
  | v :: l => p v = false ∧ allN p l
theorem an {p : Value → Bool} {l : List Value} (h : allN p l := by repeat (first | exact trivial | exact rfl | exact NU.notU (by assumption) | apply And.intro)) : ∀ v ∈ l, p v = false := by
  induction l with
  | nil => intro v hv; cases hv
  | cons a l ih =>
    intro v hv
    rcases List.mem_cons.1 hv with rfl | hv
    · exact h.1
    · exact ih h.2 v hv
theorem SMg {a b : Sl} (h : Subs a b := by first | ((repeat (first | exact Subs.refl | refine Subs.drop1 (by rfl) ?_)); done) | ((repeat (first | exact Subs.nil | refine Subs.cons rfl ?_)); done)) : Subs a b := h
theorem SLp {a b : Sl} (h : Subs a b := by (repeat (first | exact Subs.nil | refine Subs.cons rfl ?_ | refine Subs.consI rfl (by omega) ?_))) : Subs a b := h
theorem o1 {v : Value} (h : v.oneCell' = true := by first | rfl | assumption | exact NU.one (by assumption)) : v.oneCell' = true := h
end

/- math/bits: numbers of 32 bits, products of 64. No condition. -/
section
open Go Sx Wd

theorem bl_shift {x k : Nat} (h : 2 ^ k ≤ x) : bl x = k + bl (x / 2 ^ k) := by
  have hp := Nat.two_pow_pos k
  have h1 : x / 2 ^ k ≠ 0 := Nat.ne_of_gt (Nat.div_pos h hp)
  have hb := bl_pos h1
  refine bl_unique ?_ (.inr ?_)
  · have := bl_lt (x / 2 ^ k)
    rw [Nat.div_lt_iff_lt_mul hp] at this
    rwa [Nat.pow_add, Nat.mul_comm]
  · have := bl_low h1
    rw [Nat.le_div_iff_mul_le hp] at this
    rw [show k + bl (x / 2 ^ k) - 1 = (bl (x / 2 ^ k) - 1) + k by omega, Nat.pow_add]
    exact this
def lenTab (bs : ByteArray) : Prop := ∀ i, i < 256 → bs[i]? = some (UInt8.ofNat (bl i))
theorem lenTab_of {bs : ByteArray} (h : ((List.range 256).all fun i => bs[i]? == some (UInt8.ofNat (bl i))) = true) : lenTab bs := fun i hi => by
  have := List.all_eq_true.1 h i (List.mem_range.2 hi)
  simpa using this
theorem bl_u8 {i : Nat} (h : i < 256) : ((UInt8.ofNat (bl i)).toNat : Int) = (bl i : Int) := by
  have : bl i ≤ 8 := bl_le.2 (by omega)
  simp [UInt8.toNat_ofNat']
  omega

theorem Len32_spec (x : Nat) (w : World) (h : x < 4294967296) : Ret Tryz.prog 267 [.int .u32 (x : Int)] w fun u w' => u = .int .i64 (bl x : Int) ∧ w = w' := by
 refine zE1 Tryz.func267 rfl ?_;refine Sr fun _ kh1 => za rfl (zz (kh1 (zc fun _ kh3 => Sr fun _ kh4 => zm rfl ?_)));refine WL.ev (Ev.geq rfl rfl) rfl ?_;refine zz (kh4 ?_);refine zy rfl ?_ ?_<;>intro hc1<;>try simp only [qs] at hc1
 ·refine Sr fun _ kh6 => zm rfl ?_
  refine WL.ev (Ev.shrU (b := 16) rfl rfl (by simp only [IntKind.bits]; omega)) rfl ?_;refine za rfl (zz (kh6 ?_));refine zR fun _ kr8 => ?_;refine za rfl ?_;refine WL.nil (kr8 _ _ _ (kh3 ?_));refine zc fun _ kh9 => Sr fun _ kh10 => zm rfl ?_;refine WL.ev (Ev.geq rfl rfl) rfl ?_;refine zz (kh10 ?_);refine zy rfl ?_ ?_<;>intro hc2<;>try simp only [qs] at hc2
  ·have e1 := bl_shift (x := x) (k := 16) (by omega);have e2 := bl_shift (x := x / 2 ^ 16) (k := 8) (by omega);refine Sr fun _ kh12 => zm rfl ?_
   refine WL.ev (Ev.shrU (b := 8) rfl rfl (by simp only [IntKind.bits]; omega)) rfl ?_;refine za rfl (zz (kh12 ?_));refine zR fun _ kr14 => ?_;refine zm rfl ?_;refine WL.ev (Ev.addIn rfl rfl (by omega)) rfl ?_;refine za rfl ?_;refine WL.nil (kr14 _ _ _ (kh9 ?_));refine Sr fun _ kh15 => zm rfl (zm rfl ?_);refine WL.ev (Ev.conv8 rfl rfl) rfl ?_;rw [Nat.mod_eq_of_lt (by omega)];refine WL.ev (Ev.indexS rfl rfl ((lenTab_of (by decide +kernel)) _ (by omega))) rfl ?_;rw [bl_u8 (by omega)];have hb8 := bl_le (n := x / 2 ^ 16 / 2 ^ 8) (k := 8);refine WL.ev (Ev.convIn rfl rfl (in_i64 (by omega))) rfl ?_;refine WL.ev (Ev.addIn rfl rfl (by omega)) rfl ?_;refine za rfl (zz (kh15 ?_));refine zr (zr1 rfl rfl ?_);refine ⟨?_, rfl⟩
   first | rfl | (congr 1; omega)
  have e1 := bl_shift (x := x) (k := 16) (by omega);refine zkk (kh9 (Sr fun _ kh17 => zm rfl (zm rfl ?_)));refine WL.ev (Ev.conv8 rfl rfl) rfl ?_;rw [Nat.mod_eq_of_lt (by omega)];refine WL.ev (Ev.indexS rfl rfl ((lenTab_of (by decide +kernel)) _ (by omega))) rfl ?_;rw [bl_u8 (by omega)];have hb8 := bl_le (n := x / 2 ^ 16) (k := 8);refine WL.ev (Ev.convIn rfl rfl (in_i64 (by omega))) rfl ?_;refine WL.ev (Ev.addIn rfl rfl (by omega)) rfl ?_;refine za rfl (zz (kh17 ?_));refine zr (zr1 rfl rfl ?_);refine ⟨?_, rfl⟩
  first | rfl | (congr 1; omega)
 refine zkk (kh3 (zc fun _ kh19 => Sr fun _ kh20 => zm rfl ?_));refine WL.ev (Ev.geq rfl rfl) rfl ?_;refine zz (kh20 ?_);refine zy rfl ?_ ?_<;>intro hc3<;>try simp only [qs] at hc3
 ·have e1 := bl_shift (x := x) (k := 8) (by omega);refine Sr fun _ kh22 => zm rfl ?_
  refine WL.ev (Ev.shrU (b := 8) rfl rfl (by simp only [IntKind.bits]; omega)) rfl ?_;refine za rfl (zz (kh22 ?_));refine zR fun _ kr24 => ?_;refine zm rfl ?_;refine WL.ev (Ev.addIn rfl rfl (by omega)) rfl ?_;refine za rfl ?_;refine WL.nil (kr24 _ _ _ (kh19 ?_));refine Sr fun _ kh25 => zm rfl (zm rfl ?_);refine WL.ev (Ev.conv8 rfl rfl) rfl ?_;rw [Nat.mod_eq_of_lt (by omega)];refine WL.ev (Ev.indexS rfl rfl ((lenTab_of (by decide +kernel)) _ (by omega))) rfl ?_;rw [bl_u8 (by omega)];have hb8 := bl_le (n := x / 2 ^ 8) (k := 8);refine WL.ev (Ev.convIn rfl rfl (in_i64 (by omega))) rfl ?_;refine WL.ev (Ev.addIn rfl rfl (by omega)) rfl ?_;refine za rfl (zz (kh25 ?_));refine zr (zr1 rfl rfl ?_);refine ⟨?_, rfl⟩
  first | rfl | (congr 1; omega)
 refine zkk (kh19 (Sr fun _ kh27 => zm rfl (zm rfl ?_)));refine WL.ev (Ev.conv8 rfl rfl) rfl ?_;rw [Nat.mod_eq_of_lt (by omega)];refine WL.ev (Ev.indexS rfl rfl ((lenTab_of (by decide +kernel)) _ (by omega))) rfl ?_;rw [bl_u8 (by omega)];have hb8 := bl_le (n := x) (k := 8);refine WL.ev (Ev.convIn rfl rfl (in_i64 (by omega))) rfl ?_;refine WL.ev (Ev.addIn rfl rfl (by omega)) rfl ?_;refine za rfl (zz (kh27 ?_));refine zr (zr1 rfl rfl ?_);refine ⟨?_, rfl⟩
 first | rfl | (congr 1; omega)

theorem Add32_spec (x y c : Nat) (w : World) (hx : x < 4294967296) (hy : y < 4294967296) (hz : c < 4294967296) : Ret Tryz.prog 262 [.int .u32 (x : Int), .int .u32 (y : Int), .int .u32 (c : Int)] w fun u w' => u = .tuple [.int .u32 (((x + y + c) % 4294967296 : Nat) : Int), .int .u32 (((x + y + c) / 4294967296 : Nat) : Int)].toArray ∧ w = w' := by
 refine zE3 Tryz.func262 rfl ?_;refine Sr fun _ kh1 => za rfl (za rfl (zz (kh1 (Sr fun _ kh3 => zm rfl ?_))));refine WL.ev (Ev.convIn rfl rfl (in_u64 (by omega))) rfl ?_;refine zm rfl ?_;refine WL.ev (Ev.convIn rfl rfl (in_u64 (by omega))) rfl ?_
 first | refine WL.ev (Ev.add64In rfl rfl (by omega)) rfl ?_ | refine WL.ev (Ev.add64 rfl rfl) rfl ?_
 refine zm rfl ?_;refine WL.ev (Ev.convIn rfl rfl (in_u64 (by omega))) rfl ?_
 first | refine WL.ev (Ev.add64In rfl rfl (by omega)) rfl ?_ | refine WL.ev (Ev.add64 rfl rfl) rfl ?_
 refine za rfl (zz (kh3 (Sr fun _ kh5 => zm rfl ?_)));refine WL.ev (Ev.conv32 rfl rfl) rfl ?_;refine za rfl (zz (kh5 (Sr fun _ kh7 => zm rfl ?_)));refine WL.ev (Ev.shrU (b := 32) rfl rfl (by simp only [IntKind.bits]; omega)) rfl ?_;refine WL.ev (Ev.conv32 rfl rfl) rfl ?_;refine za rfl (zz (kh7 ?_));refine zr (zr2 rfl rfl rfl ?_);rw [show (x + y + c) / 2 ^ 32 % 4294967296 = (x + y + c) / 4294967296 by omega];exact ⟨rfl, rfl⟩
/-! ### Borrow -/
theorem top31 {n : Nat} (h : n < 4294967296) : n / 2 ^ 31 = if n.testBit 31 then 1 else 0 := by
  rw [Nat.testBit_eq_decide_div_mod_eq]
  have : n / 2 ^ 31 < 2 := by omega
  split
  · rename_i h1; have := of_decide_eq_true h1; omega
  · rename_i h1; simp at h1; omega
theorem bit31 {n : Nat} (h : n < 4294967296) : n.testBit 31 = decide (2147483648 ≤ n) := by
  rw [Nat.testBit_eq_decide_div_mod_eq]
  refine decide_eq_decide.2 ?_
  omega
theorem not31 {n : Nat} (h : n < 4294967296) : (4294967296 - 1 - n).testBit 31 = !n.testBit 31 := by
  rw [bit31 h, bit31 (by omega)]
  by_cases h1 : 2147483648 ≤ n
  · rw [decide_eq_true h1, decide_eq_false (by omega)]; rfl
  · rw [decide_eq_false h1, decide_eq_true (by omega)]; rfl
theorem borrow32 {x y c d : Nat} (hx : x < 4294967296) (hy : y < 4294967296) (hc : c ≤ 1) (hd : d = (x + 8589934592 - y - c) % 4294967296) : (((4294967296 - 1 - x) &&& y) ||| ((4294967296 - 1 - (x ^^^ y)) &&& d)) / 2 ^ 31 = if x < y + c then 1 else 0 := by
  have h1 : x ^^^ y < 4294967296 := Nat.xor_lt_two_pow (n := 32) hx hy
  have h2 : d < 4294967296 := by omega
  have h3 : ((4294967296 - 1 - x) &&& y) < 4294967296 := Nat.and_lt_two_pow (n := 32) _ hy
  have h4 : ((4294967296 - 1 - (x ^^^ y)) &&& d) < 4294967296 := Nat.and_lt_two_pow (n := 32) _ h2
  rw [top31 (Nat.or_lt_two_pow (n := 32) h3 h4)]
  rw [Nat.testBit_or, Nat.testBit_and, Nat.testBit_and, not31 hx, not31 h1, Nat.testBit_xor, bit31 hx, bit31 hy, bit31 h2]
  by_cases a : 2147483648 ≤ x <;> by_cases b : 2147483648 ≤ y <;> by_cases e : 2147483648 ≤ d <;> simp [a, b, e] <;> omega
/-! ### The lowest bit -/
theorem low_bit {x k : Nat} (h0 : 0 < x) (h : x < 2 ^ k) : x &&& (2 ^ k - x) = 2 ^ tz x := by
  obtain ⟨a, b⟩ := tz_spec (Nat.ne_of_gt h0)
  have hlt : tz x < k := by
    have := tz_lt_bl (Nat.ne_of_gt h0)
    have := bl_le.2 h
    omega
  generalize tz x = t at *
  generalize x / 2 ^ t = q at *
  subst b
  have hq : q < 2 ^ (k - t) := by
    have : q * 2 ^ t < 2 ^ (k - t) * 2 ^ t := by rw [← Nat.pow_add, show k - t + t = k by omega]; exact h
    exact Nat.lt_of_mul_lt_mul_right this
  have e2 : 2 ^ k - q * 2 ^ t = (2 ^ (k - t) - q) * 2 ^ t := by rw [Nat.sub_mul, ← Nat.pow_add, show k - t + t = k by omega]
  rw [e2, ← Nat.shiftLeft_eq, ← Nat.shiftLeft_eq, ← Nat.shiftLeft_and_distrib]
  have e3 : q &&& (2 ^ (k - t) - q) = 1 := by
    obtain ⟨m, rfl⟩ : ∃ m, q = m + 1 := ⟨q - 1, by omega⟩
    apply Nat.eq_of_testBit_eq
    intro i
    rw [Nat.testBit_and, Nat.testBit_two_pow_sub_succ (by omega)]
    have hm : m % 2 = 0 := by omega
    cases i with
    | zero => simp; omega
    | succ i =>
      have e4 : (m + 1).testBit (i + 1) = m.testBit (i + 1) := by
        rw [Nat.testBit_succ, Nat.testBit_succ]
        congr 1
        omega
      have e5 : (1 : Nat).testBit (i + 1) = false := by rw [Nat.testBit_succ]; simp
      rw [e4, e5]
      cases m.testBit (i + 1) <;> simp
  rw [e3, Nat.shiftLeft_eq, Nat.one_mul]
def deb : List Nat := [0,1,28,2,29,14,24,3,30,22,20,15,25,17,4,8,31,27,13,23,21,19,16,7,26,12,18,6,11,5,10,9]
def GW (w : World) : Prop := ∀ i, i < 32 → w.cell? ⟨6, i, none⟩ = some (.int .u8 ((deb.getD i 0 : Nat) : Int))
theorem GW.keep {w w' : World} {T : List Nat} (h : GW w) (hc : Chg T w w') (hT : ∀ b ∈ T, w.heap.size ≤ b) : GW w' := fun i hi => hc.cell (h i hi) fun hm => by
  have := hT _ hm
  have := block_lt_of_cell (h i hi)
  dsimp only at *
  omega
theorem GW.keep0 {w w' : World} (h : GW w) (hc : Chg [] w w') : GW w' := h.keep hc (by simp)
theorem deb_all : ((List.range 32).all fun t => deb.getD (2 ^ t * 125613361 % 4294967296 / 2 ^ 27) 0 == t) = true := by decide +kernel
theorem deb_ok {t : Nat} (h : t < 32) : deb.getD (2 ^ t * 125613361 % 4294967296 / 2 ^ 27) 0 = t := by
  have := List.all_eq_true.1 deb_all t (List.mem_range.2 h)
  simpa using this
theorem Sub32_spec (x y c : Nat) (w : World) (hx : x < 4294967296) (hy : y < 4294967296) (hc : c ≤ 1) : Ret Tryz.prog 313 [.int .u32 (x : Int), .int .u32 (y : Int), .int .u32 (c : Int)] w fun u w' => u = .tuple [.int .u32 (((x + 8589934592 - y - c) % 4294967296 : Nat) : Int), .int .u32 ((if x < y + c then 1 else 0 : Nat) : Int)].toArray ∧ w = w' := by
 refine zE3 Tryz.func313 rfl ?_;refine Sr fun _ kh1 => za rfl (za rfl (zz (kh1 (Sr fun _ kh3 => zm rfl (zm rfl ?_)))));refine WL.ev (Ev.sub32 rfl rfl (by omega)) rfl ?_;refine zm rfl ?_;refine WL.ev (Ev.sub32 rfl rfl (by omega)) rfl ?_;rw [show ((x + (4294967296 - y)) % 4294967296 + (4294967296 - c)) % 4294967296 = (x + 8589934592 - y - c) % 4294967296 by omega];obtain ⟨dd, hdd⟩ : ∃ dd, dd = (x + 8589934592 - y - c) % 4294967296 := ⟨_, rfl⟩;rw [← hdd];have hxy : x ^^^ y < 4294967296 := Nat.xor_lt_two_pow (n := 32) hx hy;refine za rfl (zz (kh3 (Sr fun _ kh5 => zm rfl ?_)));refine WL.ev (Ev.complU rfl rfl (by simp only [IntKind.bits]; omega)) rfl ?_;refine zm rfl ?_;refine WL.ev (Ev.andU rfl rfl rfl (by simp only [IntKind.bits]; omega) (by simp only [IntKind.bits]; omega)) rfl ?_;refine zm rfl (zm rfl ?_);refine WL.ev (Ev.xorU rfl rfl rfl (by simp only [IntKind.bits]; omega) (by simp only [IntKind.bits]; omega)) rfl ?_;refine WL.ev (Ev.complU rfl rfl (by simp only [IntKind.bits]; omega)) rfl ?_;refine zm rfl ?_;refine WL.ev (Ev.andU rfl rfl rfl (by simp only [IntKind.bits]; omega) (by simp only [IntKind.bits]; omega)) rfl ?_;refine WL.ev (Ev.orU rfl rfl rfl (Nat.and_lt_two_pow _ hy) (Nat.and_lt_two_pow _ (by simp only [IntKind.bits]; omega))) rfl ?_;refine WL.ev (Ev.shrU (b := 31) rfl rfl (Nat.or_lt_two_pow (Nat.and_lt_two_pow _ hy) (Nat.and_lt_two_pow _ (by simp only [IntKind.bits]; omega)))) rfl ?_;simp only [IntKind.bits];rw [show (2 : Nat) ^ 32 = 4294967296 from rfl, borrow32 hx hy hc hdd];refine za rfl (zz (kh5 ?_));refine zr (zr2 rfl rfl rfl ?_);rw [hdd]; exact ⟨rfl, rfl⟩

theorem TrailingZeros32_spec (x : Nat) (w : World) (hg : GW w) (h0 : x ≠ 0) (hx : x < 4294967296) : Ret Tryz.prog 312 [.int .u32 (x : Int)] w fun u w' => u = .int .i64 (tz x : Int) ∧ w = w' := by
 have htz : tz x < 32 := Nat.lt_of_lt_of_le (tz_lt_bl h0) (bl_le.2 (by omega));have hp2 : 2 ^ tz x < 4294967296 := Nat.lt_of_le_of_lt (by rw [← low_bit (k := 32) (by omega) hx]; exact Nat.and_le_left) hx;refine zE1 Tryz.func312 rfl ?_;refine Sr fun _ kh1 => za rfl (zz (kh1 (zc fun _ kh3 => Sr fun _ kh4 => zm rfl (zq rfl rfl (zz (kh4 ?_))))));refine zy rfl ?_ ?_<;>intro hc1<;>try simp only [qs] at hc1
 ·exact absurd hc1 (by omega)
 refine zkk (kh3 (Sr fun _ kh6 => zm rfl (zm rfl ?_)));refine WL.ev (Ev.neg rfl) rfl ?_;rw [wrap_u32i, show (0 - (x : Int)) % 4294967296 = ((2 ^ 32 - x : Nat) : Int) by omega];refine WL.ev (Ev.andU rfl rfl rfl (by simp only [IntKind.bits]; omega) (by simp only [IntKind.bits]; omega)) rfl ?_;rw [low_bit (by omega) (by omega)];refine WL.ev (Ev.mul32 (b := 125613361) rfl rfl) rfl ?_;refine WL.ev (Ev.shrU (b := 27) rfl rfl (by simp only [IntKind.bits]; omega)) rfl ?_;have hix : 2 ^ tz x * 125613361 % 4294967296 / 2 ^ 27 < 32 := by omega
 refine WL.ev (Ev.indexAddrArr rfl rfl (by omega) (by omega)) rfl ?_;rw [show 0 + ((2 ^ tz x * 125613361 % 4294967296 / 2 ^ 27 : Nat) : Int).toNat * 1 = 2 ^ tz x * 125613361 % 4294967296 / 2 ^ 27 by omega];refine WL.ev (Ev.load rfl rfl (hg _ hix)) rfl ?_;rw [deb_ok htz];refine WL.ev (Ev.convIn rfl rfl (in_i64 (by omega))) rfl ?_;refine za rfl (zz (kh6 ?_));refine zr (zr1 rfl rfl ?_);exact ⟨rfl, rfl⟩

end

end Go.Proofs.YtnbipejaidbihaaGreatDoor