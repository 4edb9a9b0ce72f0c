/- A small engine for walks: a frame is a list of known slots; each form of code and each operation has one lemma, applied by name. No condition. -/
import Derived.WalkKit
import Derived.Deep.Quiet
import Derived.StillTail
namespace Go.Proofs.Ytjlmenmlpmfokaa.Sx
open Go
set_option linter.unusedVariables false
set_option linter.unusedSimpArgs false

abbrev Sl := List (Nat × Value)
def look : Sl → Nat → Option Value
  | [], _ => none
  | (k, v) :: s, t => bif Nat.beq k t then some v else look s t

theorem look_cons (k : Nat) (v : Value) (s : Sl) (t : Nat) : look ((k, v) :: s) t = if k = t then some v else look s t := by
  simp only [look]
  by_cases h : k = t
  · subst h; simp
  · have : Nat.beq k t = false := Bool.eq_false_iff.2 fun e => h (Nat.eq_of_beq_eq_true e)
    rw [this]; simp [h]

structure Fr (n : Nat) (D : List Deferred) (s : Sl) (a : Act) : Prop where
  size : a.tmps.size = n
  defers : a.defers = D
  cell : ∀ t v, look s t = some v → a.tmps[t]? = some v

def opnd (s : Sl) : Operand → Option Value
  | .tmp t => look s t
  | .const v => some v
  | .global g => some (.pointer (some ⟨g, 0, none⟩))
  | .func f => some (.func (.func f) #[] #[])

theorem Fr.eval {n : Nat} {D : List Deferred} {s : Sl} {a : Act} (h : Fr n D s a) {x : Operand} {v : Value} (hx : opnd s x = some v) : a.eval x = v := by
  cases x with
  | tmp t =>
    have := h.cell t v hx
    simp only [Act.eval, Array.getD_eq_getD_getElem?, this]; rfl
  | const c => exact Option.some.inj hx
  | global g => exact Option.some.inj hx
  | func f => exact Option.some.inj hx

theorem Fr.put {n : Nat} {D : List Deferred} {s : Sl} {a : Act} (h : Fr n D s a) {d : Nat} (hd : Nat.blt d n = true) (v : Value) : Fr n D ((d, v) :: s) (a.put (some d) v) := by
  have hd' : d < n := by simpa [Nat.blt_eq] using hd
  refine ⟨by simp [Act.put, h.size], by simp [Act.put, h.defers], fun t u ht => ?_⟩
  rw [look_cons] at ht
  simp only [Act.put, Array.getElem?_setIfInBounds]
  by_cases e : d = t
  · subst e
    rw [if_pos rfl] at ht
    simp [h.size, hd', ht]
  · rw [if_neg e] at ht
    simp [e, h.cell t u ht]

theorem Fr.put0 {n : Nat} {D : List Deferred} {s : Sl} {a : Act} (h : Fr n D s a) (v : Value) : Fr n D s (a.put none v) := h

/-- Fewer known slots. -/
def Subs (s' s : Sl) : Prop := ∀ t v, look s' t = some v → look s t = some v
theorem Subs.nil {s : Sl} : Subs [] s := fun _ _ h => by cases h
theorem Subs.cons {s s' : Sl} {t : Nat} {v : Value} (h : look s t = some v) (hs : Subs s' s) : Subs ((t, v) :: s') s := fun u x hx => by
  rw [look_cons] at hx
  by_cases e : t = u
  · subst e; rw [if_pos rfl] at hx; rw [h, hx]
  · rw [if_neg e] at hx; exact hs u x hx
theorem Subs.refl {s : Sl} : Subs s s := fun _ _ h => h
theorem Fr.sub {n : Nat} {D : List Deferred} {s s' : Sl} {a : Act} (h : Fr n D s a) (hs : Subs s' s) : Fr n D s' a := ⟨h.size, h.defers, fun t v ht => h.cell t v (hs t v ht)⟩

/-! ### Code -/
abbrev KK := List Deferred → Sl → World → Prop
abbrev AQ := Exit → List Deferred → Sl → World → Prop
def liftA (n : Nat) (A : AQ) : Exit → Act → World → Prop := fun e a w => ∃ D s, Fr n D s a ∧ A e D s w
def CW (P : Program) (c : Code) (A : AQ) (n : Nat) (D : List Deferred) (s : Sl) (w : World) : Prop := ∀ a, Fr n D s a → c.wp P (liftA n A) a w
def thenK (K : KK) (A : AQ) : AQ
  | .normal => K
  | e => A e
def inBlk (id : Nat) (A : AQ) : AQ
  | .exit id' => if id' = id then A .normal else A (.exit id')
  | e => A e

section
variable {P : Program} {A : AQ} {n : Nat} {D : List Deferred} {s : Sl} {w : World}

theorem liftA_then (K : KK) (e : Exit) (a : Act) (w : World) (h : liftA n (thenK K A) e a w) : Exit.then (fun a w => ∃ D s, Fr n D s a ∧ K D s w) (liftA n A) e a w := by
  cases e <;> exact h

theorem CW.mono {c : Code} {A' : AQ} (h : CW P c A n D s w) (hA : ∀ e D s w, A e D s w → A' e D s w) : CW P c A' n D s w := fun a ha =>
  wp_mono (h a ha) fun e a w ⟨D, s, hf, hq⟩ => ⟨D, s, hf, hA _ _ _ _ hq⟩
theorem CW.sub {c : Code} {s' : Sl} (hs : Subs s' s) (h : CW P c A n D s' w) : CW P c A n D s w := fun a ha => h a (ha.sub hs)

theorem CW.seq {x y : Code} (h : ∀ K : KK, (∀ D s w, CW P y A n D s w → K D s w) → CW P x (thenK K A) n D s w) : CW P (.seq x y) A n D s w := fun a ha => by
  refine wp_seq (wp_mono (h (fun D s w => CW P y A n D s w) (fun _ _ _ h => h) a ha) fun e a w hq => ?_)
  have := liftA_then _ _ _ _ hq
  cases e with
  | normal => obtain ⟨D, s, hf, hk⟩ := this; exact hk a hf
  | _ => exact this

theorem CW.seqJ {x y : Code} (J : KK) (hx : CW P x (thenK J A) n D s w) (hy : ∀ D s w, J D s w → CW P y A n D s w) : CW P (.seq x y) A n D s w :=
  CW.seq fun K hK => hx.mono fun e D s w h => by
    cases e with
    | normal => exact hK _ _ _ (hy _ _ _ h)
    | _ => exact h
theorem CW.skip (h : A .normal D s w) : CW P .skip A n D s w := fun a ha => wp_skip ⟨D, s, ha, h⟩
theorem CW.ret (h : A .ret D s w) : CW P .ret A n D s w := fun a ha => wp_ret ⟨D, s, ha, h⟩
theorem CW.exit {id : Nat} (h : A (.exit id) D s w) : CW P (.exit id) A n D s w := fun a ha => wp_exit ⟨D, s, ha, h⟩
theorem CW.block {id : Nat} {c : Code} (h : CW P c (inBlk id A) n D s w) : CW P (.block id c) A n D s w := fun a ha =>
  wp_block (wp_mono (h a ha) fun e a w hq => by
    cases e with
    | exit id' =>
      obtain ⟨D, s, hf, hk⟩ := hq
      simp only [inBlk] at hk
      simp only [Exit.inBlock]
      split at hk
      · rename_i h; rw [if_pos h]; exact ⟨D, s, hf, hk⟩
      · rename_i h; rw [if_neg h]; exact ⟨D, s, hf, hk⟩
    | _ => exact hq)
theorem CW.cond {c : Operand} {x y : Code} {b : Bool} (hc : opnd s c = some (.bool b)) (ht : b = true → CW P x A n D s w) (hf : b = false → CW P y A n D s w) : CW P (.cond c x y) A n D s w := fun a ha =>
  wp_cond_split (ha.eval hc) (fun h => ht h a ha) (fun h => hf h a ha)
theorem CW.condT {c : Operand} {x y : Code} (hc : opnd s c = some (.bool true)) (ht : CW P x A n D s w) : CW P (.cond c x y) A n D s w := CW.cond hc (fun _ => ht) (fun h => by cases h)
theorem CW.condF {c : Operand} {x y : Code} (hc : opnd s c = some (.bool false)) (ht : CW P y A n D s w) : CW P (.cond c x y) A n D s w := CW.cond hc (fun h => by cases h) (fun _ => ht)

/-- A loop: the ghost g tells the slots; 'Inv g w' holds at each round's head. -/
theorem CW.loop {G : Type} {c : Code} (S : G → Sl) (Inv : G → World → Prop) (mu : G → Nat) (g0 : G) (h0 : Inv g0 w) (hs : Subs (S g0) s)
    (round : ∀ g w, Inv g w → CW P c (thenK (fun D' s' w' => D' = D ∧ ∃ g', Subs (S g') s' ∧ Inv g' w' ∧ mu g' < mu g) A) n D (S g) w) : CW P (.loop c) A n D s w := fun a ha => by
  have key : ∀ m, ∀ g w a, mu g = m → Inv g w → Fr n D (S g) a → (Code.loop c).wp P (liftA n A) a w := by
    intro m g w a hm hi hf
    refine wp_loop (fun a w => ∃ g, Inv g w ∧ Fr n D (S g) a) (fun a w => Classical.epsilon fun k => ∃ g, Inv g w ∧ Fr n D (S g) a ∧ mu g = k ∧ ∀ g', Inv g' w → Fr n D (S g') a → k ≤ mu g') ⟨g, hi, hf⟩ ?_
    intro a w hI
    have least : ∀ (a : Act) (w : World), (∃ g, Inv g w ∧ Fr n D (S g) a) → ∃ k, ∃ g, Inv g w ∧ Fr n D (S g) a ∧ mu g = k ∧ ∀ g', Inv g' w → Fr n D (S g') a → k ≤ mu g' := by
      intro a w ⟨g, hg⟩
      have : ∀ k, ∀ g, mu g = k → Inv g w → Fr n D (S g) a → ∃ k, ∃ g, Inv g w ∧ Fr n D (S g) a ∧ mu g = k ∧ ∀ g', Inv g' w → Fr n D (S g') a → k ≤ mu g' := by
        intro k
        induction k using Nat.strongRecOn with
        | _ k ih =>
          intro g hk hi hf
          by_cases hmin : ∀ g', Inv g' w → Fr n D (S g') a → k ≤ mu g'
          · exact ⟨k, g, hi, hf, hk, hmin⟩
          · have : ∃ g', Inv g' w ∧ Fr n D (S g') a ∧ mu g' < k := by
              apply Classical.byContradiction
              intro hno
              apply hmin
              intro g' hi' hf'
              apply Nat.le_of_not_lt
              intro hlt
              exact hno ⟨g', hi', hf', hlt⟩
            obtain ⟨g', hi', hf', hlt⟩ := this
            exact ih _ hlt g' rfl hi' hf'
      exact this _ g rfl hg.1 hg.2
    obtain ⟨g1, hi1, hf1, hmu, hmin⟩ := Classical.epsilon_spec (least a w hI)
    refine wp_mono (round g1 w hi1 a hf1) fun e a' w' hq => ?_
    have hq' := liftA_then _ _ _ _ hq
    cases e with
    | normal =>
      obtain ⟨D', s', hf', rfl, g', hsub, hinv, hlt⟩ := hq'
      have hf2 := hf'.sub hsub
      refine ⟨⟨g', hinv, hf2⟩, ?_⟩
      obtain ⟨_, _, _, _, hmin'⟩ := Classical.epsilon_spec (least a' w' ⟨g', hinv, hf2⟩)
      have := hmin' g' hinv hf2
      rw [← hmu]
      exact Nat.lt_of_le_of_lt this hlt
    | _ => exact hq'
  exact key _ g0 w a rfl h0 (ha.sub hs)

/-! ### A function -/
def Ret (P : Program) (f : FuncId) (args : List Value) (w : World) (R : Value → World → Prop) : Prop :=
  Calls P f args.toArray w fun e w' => ∃ v, e = .returned v ∧ R v w'
theorem Ret.mono {f : FuncId} {args : List Value} {R R' : Value → World → Prop} (h : Ret P f args w R) (hr : ∀ v w', R v w' → R' v w') : Ret P f args w R' :=
  Calls.mono h fun _ _ ⟨v, he, hR⟩ => ⟨v, he, hr _ _ hR⟩

/-- What the results' variables hold. -/
def ResS (P : Program) (fn : Func) (n : Nat) (D : List Deferred) (s : Sl) (w : World) (v : Value) : Prop := ∀ a, Fr n D s a → (results fn a.tmps).run P w = .ok v w
def bodyA (P : Program) (fn : Func) (n : Nat) (R : Value → World → Prop) : AQ
  | .normal, D, s, w | .ret, D, s, w => D = [] ∧ ∃ v, ResS P fn n D s w v ∧ R v w
  | _, _, _, _ => False

def args0 : Nat → List Value → Sl
  | _, [] => []
  | i, v :: r => (i, v) :: args0 (i + 1) r
theorem look_args0 (l : List Value) : ∀ i t, look (args0 i l) t = if i ≤ t then l[t - i]? else none := by
  induction l with
  | nil => intro i t; simp [args0, look]
  | cons v r ih =>
    intro i t
    rw [args0, look_cons, ih]
    by_cases h : i = t
    · subst h; simp
    · by_cases h2 : i ≤ t
      · have h3 : i + 1 ≤ t := by omega
        have h4 : t - i = (t - (i + 1)) + 1 := by omega
        simp [h, h2, h3, h4]
      · have h3 : ¬ i + 1 ≤ t := by omega
        simp [h, h2, h3]

theorem Ret.enter {f : FuncId} {fn : Func} {c : Code} {args : List Value} {R : Value → World → Prop} (hf : P.funcs[f]? = some fn) (hb : fn.body = some c) (hn : Nat.ble args.length fn.ntmps = true)
    (h : CW P c (bodyA P fn fn.ntmps R) fn.ntmps [] (args0 0 args) w) : Ret P f args w R := by
  have hn' : args.length ≤ fn.ntmps := by simpa [Nat.ble_eq] using hn
  refine calls_of_wp hf hb (wp_mono (h _ ⟨by simp; omega, rfl, fun t v ht => ?_⟩) fun e a w hq => ?_)
  · rw [look_args0] at ht
    simp only [Nat.zero_le, if_true, Nat.sub_zero] at ht
    have hlt : t < args.length := by
      by_cases hl : t < args.length
      · exact hl
      · rw [List.getElem?_eq_none (by omega)] at ht; cases ht
    rw [Array.getElem?_append_left (by simpa using hlt)]
    simpa using ht
  · obtain ⟨D, s, hfr, hk⟩ := hq
    cases e with
    | normal => obtain ⟨hd, v, hres, hR⟩ := hk; exact ⟨by rw [hfr.defers, hd], v, hres a hfr, v, rfl, hR⟩
    | ret => obtain ⟨hd, v, hres, hR⟩ := hk; exact ⟨by rw [hfr.defers, hd], v, hres a hfr, v, rfl, hR⟩
    | _ => exact hk.elim

theorem Fr.getD {a : Act} (h : Fr n D s a) {t : Nat} {v : Value} (ht : look s t = some v) : a.tmps.getD t undef = v := by
  simp only [Array.getD_eq_getD_getElem?, h.cell t v ht]; rfl

theorem bodyA.mk {fn : Func} {R : Value → World → Prop} {e : Exit} (he : e = .ret ∨ e = .normal) {v : Value} (h : ResS P fn n [] s w v) (hR : R v w) : bodyA P fn n R e [] s w := by
  rcases he with rfl | rfl <;> exact ⟨rfl, v, h, hR⟩
attribute [irreducible] bodyA
theorem bodyA.ret0 {fn : Func} {R : Value → World → Prop} (hr : fn.results = #[]) (h : R (.tuple #[]) w) : bodyA P fn n R .ret [] s w :=
  bodyA.mk (.inl rfl) (fun a ha => results_none hr _ _ _) h
theorem bodyA.norm0 {fn : Func} {R : Value → World → Prop} (hr : fn.results = #[]) (h : R (.tuple #[]) w) : bodyA P fn n R .normal [] s w :=
  bodyA.mk (.inr rfl) (fun a ha => results_none hr _ _ _) h
theorem bodyA.ret1 {fn : Func} {R : Value → World → Prop} {t : Nat} {v : Value} (hr : fn.results = #[.tmp t]) (ht : look s t = some v) (h : R v w) : bodyA P fn n R .ret [] s w :=
  bodyA.mk (.inl rfl) (fun a ha => by rw [results_tmp hr, ha.getD ht]) h
theorem bodyA.ret2 {fn : Func} {R : Value → World → Prop} {t u : Nat} {v x : Value} (hr : fn.results = #[.tmp t, .tmp u]) (ht : look s t = some v) (hu : look s u = some x) (h : R (.tuple #[v, x]) w) : bodyA P fn n R .ret [] s w :=
  bodyA.mk (.inl rfl) (fun a ha => by rw [results_tmp2 hr, ha.getD ht, ha.getD hu]) h

/-! ### Regions in the order of the text -/
def post (n : Nat) (K : KK) : Exit → Act → World → Prop
  | .normal, a, w => ∃ D s, Fr n D s a ∧ K D s w
  | _, _, _ => False
def WL (P : Program) (ops : Array Oper) (K : KK) (l : List Oper) (n : Nat) (D : List Deferred) (s : Sl) (w : World) : Prop := ∀ a, Fr n D s a → wpList P ops (post n K) l a w

theorem post_lift {K : KK} (hK : ∀ D s w, K D s w → A .normal D s w) (e : Exit) (a : Act) (w : World) (h : post n K e a w) : liftA n A e a w := by
  cases e with
  | normal => obtain ⟨D, s, hf, hk⟩ := h; exact ⟨D, s, hf, hK _ _ _ hk⟩
  | _ => exact h.elim

theorem upon_mono {o : Oper} {a : Act} {next next' : Act → World → Prop} {Q Q' : Exit → Act → World → Prop} (hn : ∀ a w, next a w → next' a w) (hq : ∀ e a w, Q e a w → Q' e a w) (r : Result Next) (h : o.upon P a next Q r) : o.upon P a next' Q' r := by
  have ho : LetsOut Q → LetsOut Q' := fun ⟨a, w, h⟩ => ⟨a, w, hq _ _ _ h⟩
  cases r with
  | ok x w =>
    cases x with
    | value v => exact hn _ _ h
    | skip => exact hn _ _ h
    | defer d => exact hn _ _ h
    | enter f args => exact Calls.mono h fun e w' he => by cases e <;> first | exact hn _ _ he | exact hq _ _ _ he | exact ho he
    | row r args => exact Rows.mono h fun v w' hv => hn _ _ hv
    | _ => exact h.elim
  | halt x w =>
    cases x with
    | panic v => exact hq _ _ _ h
    | _ => exact h.elim
theorem wpList_mono {ops : Array Oper} {Q Q' : Exit → Act → World → Prop} (hq : ∀ e a w, Q e a w → Q' e a w) : ∀ (l : List Oper) (a : Act) (w : World), wpList P ops Q l a w → wpList P ops Q' l a w
  | [], a, w, h => hq _ _ _ h
  | o :: r, a, w, h => by
    unfold wpList at h ⊢
    split
    · rename_i hw
      rw [if_pos hw] at h
      rcases h with h | ⟨h, h'⟩
      · exact .inl (upon_mono (wpList_mono hq r) hq _ h)
      · exact .inr ⟨h, let ⟨a, w, hh⟩ := h'; ⟨a, w, hq _ _ _ hh⟩⟩
    · rename_i hw
      rw [if_neg hw] at h
      exact wpList_mono hq r _ _ h

theorem CW.region {id : Nat} {l : List Oper} (h : ∀ K : KK, (∀ D s w, A .normal D s w → K D s w) → WL P l.toArray K l n D s w) : CW P (.region id l.toArray false) A n D s w := fun a ha =>
  wp_mono (wp_region_lit (h (fun D s w => A .normal D s w) (fun _ _ _ h => h) a ha)) (post_lift fun _ _ _ h => h)

variable {ops : Array Oper} {K : KK} {rest : List Oper}
theorem WL.nil (h : K D s w) : WL P ops K [] n D s w := fun a ha => wpList_nil ⟨D, s, ha, h⟩

/-- What an operation yields, read off the known slots. -/
def Ev (P : Program) (s : Sl) (op : Op) (ty : TypeId) (w : World) (v : Value) (w' : World) : Prop :=
  ∀ (ρ : Operand → Value) (d : Option Tmp) (pos : String) (af : Array Edge) (g : Option (Nat × Bool)), (∀ x u, opnd s x = some u → ρ x = u) → (execOp ρ ⟨d, op, ty, pos, af, g⟩).run P w = .ok (.value v) w'
def EvS (P : Program) (s : Sl) (op : Op) (ty : TypeId) (w : World) (w' : World) : Prop :=
  ∀ (ρ : Operand → Value) (d : Option Tmp) (pos : String) (af : Array Edge) (g : Option (Nat × Bool)), (∀ x u, opnd s x = some u → ρ x = u) → (execOp ρ ⟨d, op, ty, pos, af, g⟩).run P w = .ok .skip w'

section
variable {op : Op} {ty : TypeId} {pos : String} {af : Array Edge} {d : Nat} {v : Value} {w' : World}
theorem WL.ev (he : Ev P s op ty w v w') (hd : Nat.blt d n = true) (k : WL P ops K rest n D ((d, v) :: s) w') : WL P ops K (⟨some d, op, ty, pos, af, none⟩ :: rest) n D s w := fun a ha =>
  wpList_plain rfl fun K' hK => by
    unfold Oper.wp
    rw [he a.eval (some d) pos af none fun x u hx => ha.eval hx]
    exact hK _ _ (k _ (ha.put hd v))
theorem WL.ev0 (he : Ev P s op ty w v w') (k : WL P ops K rest n D s w') : WL P ops K (⟨none, op, ty, pos, af, none⟩ :: rest) n D s w := fun a ha =>
  wpList_plain rfl fun K' hK => by
    unfold Oper.wp
    rw [he a.eval none pos af none fun x u hx => ha.eval hx]
    exact hK _ _ (k _ ha)
theorem WL.evs (he : EvS P s op ty w w') (k : WL P ops K rest n D s w') : WL P ops K (⟨none, op, ty, pos, af, none⟩ :: rest) n D s w := fun a ha =>
  wpList_plain rfl fun K' hK => by
    unfold Oper.wp
    rw [he a.eval none pos af none fun x u hx => ha.eval hx]
    exact hK _ _ (k _ ha)
theorem WL.sub {s' : Sl} {l : List Oper} (hs : Subs s' s) (h : WL P ops K l n D s' w) : WL P ops K l n D s w := fun a ha => h a (ha.sub hs)
end

def opnds (s : Sl) : List Operand → Option (List Value)
  | [] => some []
  | x :: r => match opnd s x, opnds s r with
    | some v, some vs => some (v :: vs)
    | _, _ => none
theorem opnds_map {ρ : Operand → Value} (h : ∀ x u, opnd s x = some u → ρ x = u) : ∀ (l : List Operand) vs, opnds s l = some vs → l.map ρ = vs
  | [], vs, he => by simp only [opnds] at he; cases he; rfl
  | x :: r, vs, he => by
    simp only [opnds] at he
    split at he
    · rename_i v vs' h1 h2
      cases he
      simp [h x v h1, opnds_map h r vs' h2]
    · cases he

/-- Function f of the program has a body. -/
def HasF (P : Program) (f : FuncId) : Prop := ∃ fn c, P.funcs[f]? = some fn ∧ fn.body = some c ∧ (fn.name == "runtime.NumGoroutine") = false
theorem HasF.run {f : FuncId} (h : HasF P f) (args : Array Value) : (callFunc f args).run P w = .ok (.enter f args) w := by
  obtain ⟨fn, c, h1, h2, h3⟩ := h
  have h4 : ¬ fn.name = "runtime.NumGoroutine" := by simpa using h3
  simp [callFunc, h1, h2, h4]

section
variable {ty : TypeId} {pos : String} {af : Array Edge} {d : Nat}
theorem exec_call {f : FuncId} {xs : List Operand} {at_ : Array TypeId} {vs : List Value} {ρ : Operand → Value} {o : Oper} (hF : HasF P f) (ho : o.op = .call ⟨.value (.func f), xs.toArray, at_⟩) (hx : opnds s xs = some vs)
    (h : ∀ x u, opnd s x = some u → ρ x = u) : (execOp ρ o).run P w = .ok (.enter f vs.toArray) w := by
  have e1 : ρ (.func f) = .func (.func f) #[] #[] := h _ _ rfl
  have e2 := opnds_map h xs vs hx
  unfold execOp
  simp [ho, resolve, e1, Deferred.ofValue, invoke, e2, HasF.run hF]
theorem WL.call {f : FuncId} {xs : List Operand} {at_ : Array TypeId} {vs : List Value} {R : Value → World → Prop} (hF : HasF P f) (hx : opnds s xs = some vs) (hd : Nat.blt d n = true) (h : Ret P f vs w R)
    (k : ∀ v w', R v w' → WL P ops K rest n D ((d, v) :: s) w') : WL P ops K (⟨some d, .call ⟨.value (.func f), xs.toArray, at_⟩, ty, pos, af, none⟩ :: rest) n D s w := fun a ha =>
  wpList_plain rfl fun K' hK => by
    unfold Oper.wp
    rw [exec_call hF rfl hx fun x u hx => ha.eval hx]
    exact Calls.mono h fun e w' ⟨v, he, hR⟩ => by subst he; exact hK _ _ (k v w' hR _ (ha.put hd v))
theorem WL.call0 {f : FuncId} {xs : List Operand} {at_ : Array TypeId} {vs : List Value} {R : Value → World → Prop} (hF : HasF P f) (hx : opnds s xs = some vs) (h : Ret P f vs w R)
    (k : ∀ v w', R v w' → WL P ops K rest n D s w') : WL P ops K (⟨none, .call ⟨.value (.func f), xs.toArray, at_⟩, ty, pos, af, none⟩ :: rest) n D s w := fun a ha =>
  wpList_plain rfl fun K' hK => by
    unfold Oper.wp
    rw [exec_call hF rfl hx fun x u hx => ha.eval hx]
    exact Calls.mono h fun e w' ⟨v, he, hR⟩ => by subst he; exact hK _ _ (k v w' hR _ ha)
end

/-! ### Guards -/
section
variable {op : Op} {ty : TypeId} {pos : String} {af : Array Edge} {dst : Option Tmp} {d j : Nat} {b : Bool}
theorem yieldedAt {a : Act} (ha : Fr n D s a) {g : Oper} {x : Bool} {t : Nat} (hg : ops[j]? = some g) (ht : g.dst = some t) (hx : look s t = some (.bool x)) : Region.wanted ⟨dst, op, ty, pos, af, some (j, b)⟩ (yielded ops a.tmps) = (x == b) := by
  simp [Region.wanted, yielded, hg, ht, ha.cell t _ hx]

theorem wpList_guard {Q : Exit → Act → World → Prop} {a : Act} {gd : Option (Nat × Bool)} (hw : Region.wanted ⟨dst, op, ty, pos, af, gd⟩ (yielded ops a.tmps) = true) (h : wpList P ops Q (⟨dst, op, ty, pos, af, none⟩ :: rest) a w) : wpList P ops Q (⟨dst, op, ty, pos, af, gd⟩ :: rest) a w := by
  unfold wpList at h ⊢
  rw [if_pos hw]
  rw [if_pos (by simp [Region.wanted])] at h
  exact h
theorem WL.want {g : Oper} {x : Bool} {t : Nat} (hg : ops[j]? = some g) (ht : g.dst = some t) (hx : look s t = some (.bool x)) (hb : (x == b) = true) (k : WL P ops K (⟨dst, op, ty, pos, af, none⟩ :: rest) n D s w) :
    WL P ops K (⟨dst, op, ty, pos, af, some (j, b)⟩ :: rest) n D s w := fun a ha => wpList_guard (by rw [yieldedAt ha hg ht hx]; exact hb) (k a ha)
theorem WL.pass {g : Oper} {x : Bool} {t : Nat} (hg : ops[j]? = some g) (ht : g.dst = some t) (hx : look s t = some (.bool x)) (hb : (x == b) = false) (hd : Nat.blt d n = true) (k : WL P ops K rest n D ((d, undef) :: s) w) :
    WL P ops K (⟨some d, op, ty, pos, af, some (j, b)⟩ :: rest) n D s w := fun a ha => by
  unfold wpList
  rw [if_neg (by rw [yieldedAt ha hg ht hx, hb]; simp)]
  exact k _ (ha.put hd undef)
theorem yieldedU {a : Act} (ha : Fr n D s a) {g : Oper} {t : Nat} (hg : ops[j]? = some g) (ht : g.dst = some t) (hx : look s t = some undef) : Region.wanted ⟨dst, op, ty, pos, af, some (j, b)⟩ (yielded ops a.tmps) = false := by
  simp [Region.wanted, yielded, hg, ht, ha.cell t _ hx, undef]
/-- Behind an operation that was passed over. -/
theorem WL.passU {g : Oper} {t : Nat} (hg : ops[j]? = some g) (ht : g.dst = some t) (hx : look s t = some undef) (hd : Nat.blt d n = true) (k : WL P ops K rest n D ((d, undef) :: s) w) :
    WL P ops K (⟨some d, op, ty, pos, af, some (j, b)⟩ :: rest) n D s w := fun a ha => by
  unfold wpList
  rw [if_neg (by rw [yieldedU ha hg ht hx]; simp)]
  exact k _ (ha.put hd undef)
end
end
end Go.Proofs.Ytjlmenmlpmfokaa.Sx
