/- Statements whose order Go leaves open, in the engine. No condition. -/
import Derived.Test.YtjlmenmlpmfokaaSxMem
import Derived.OrdersHeld
namespace Go.Proofs.Ytjlmenmlpmfokaa.Sx
open Go
set_option linter.unusedVariables false
set_option linter.unusedSimpArgs false

def postS (n : Nat) (K : List Deferred → Sl → Prop) : Act → Prop := fun a => ∃ D s, Fr n D s a ∧ K D s
def WS (P : Program) (ops : Array Oper) (K : List Deferred → Sl → Prop) (l : List Oper) (n : Nat) (D : List Deferred) (s : Sl) (w : World) : Prop := ∀ a, Fr n D s a → wpStill P ops w (postS n K) l a

section
variable {P : Program} {A : AQ} {n : Nat} {D : List Deferred} {s : Sl} {w : World} {ops : Array Oper} {K : List Deferred → Sl → Prop} {rest : List Oper}
variable {op : Op} {ty : TypeId} {pos : String} {af : Array Edge} {dst : Option Tmp} {d j : Nat} {b : Bool} {v : Value}
theorem WS.nil (h : K D s) : WS P ops K [] n D s w := fun a ha => wpStill_nil ⟨D, s, ha, h⟩
theorem still_want {o : Oper} {a : Act} {Q : Act → Prop} (hw : Region.wanted o (yielded ops a.tmps) = true) (h : ∀ K' : Act → Prop, (∀ a, wpStill P ops w Q rest a → K' a) → o.still P a w K') : wpStill P ops w Q (o :: rest) a :=
  wpStill_step fun K' hK => by rw [if_pos hw]; exact h K' hK
theorem WS.ev (he : Ev P s op ty w v w) (hd : Nat.blt d n = true) (k : WS P ops K rest n D ((d, v) :: s) w) : WS P ops K (⟨some d, op, ty, pos, af, none⟩ :: rest) n D s w := fun a ha =>
  still_want (by simp [Region.wanted]) fun K' hK => by
    unfold Oper.still
    rw [he a.eval (some d) pos af none fun x u hx => ha.eval hx, Oper.stillUpon_value]
    exact hK _ (k _ (ha.put hd v))
theorem WS.call {f : FuncId} {xs : List Operand} {at_ : Array TypeId} {vs : List Value} (hF : HasF P f) (hx : opnds s xs = some vs) (hd : Nat.blt d n = true) (h : Ret P f vs w fun u w' => u = v ∧ w = w')
    (k : WS P ops K rest n D ((d, v) :: s) w) : WS P ops K (⟨some d, .call ⟨.value (.func f), xs.toArray, at_⟩, ty, pos, af, none⟩ :: rest) n D s w := fun a ha =>
  still_want (by simp [Region.wanted]) fun K' hK => by
    unfold Oper.still
    rw [exec_call hF rfl hx fun x u hx => ha.eval hx]
    exact ⟨rfl, v, Calls.mono h fun e w' ⟨u, he, hu, hw⟩ => ⟨by rw [he, hu], hw.symm⟩, hK _ (k _ (ha.put hd v))⟩
theorem WS.want {g : Oper} {x : Bool} {t : Nat} (hg : ops[j]? = some g) (ht : g.dst = some t) (hx : look s t = some (.bool x)) (hb : (x == b) = true) (k : WS P ops K (⟨dst, op, ty, pos, af, none⟩ :: rest) n D s w) :
    WS P ops K (⟨dst, op, ty, pos, af, some (j, b)⟩ :: rest) n D s w := fun a ha => by
  have h := k a ha
  unfold wpStill at h ⊢
  rw [if_pos (by rw [yieldedAt ha hg ht hx]; exact hb)]
  rw [if_pos (by simp [Region.wanted])] at h
  exact h
theorem WS.pass {g : Oper} {x : Bool} {t : Nat} (hg : ops[j]? = some g) (ht : g.dst = some t) (hx : look s t = some (.bool x)) (hb : (x == b) = false) (hd : Nat.blt d n = true) (k : WS P ops K rest n D ((d, undef) :: s) w) :
    WS P ops K (⟨some d, op, ty, pos, af, some (j, b)⟩ :: rest) n D s w := fun a ha => by
  unfold wpStill
  rw [if_neg (by rw [yieldedAt ha hg ht hx, hb]; simp)]
  exact k _ (ha.put hd undef)

theorem WS.passU {g : Oper} {t : Nat} (hg : ops[j]? = some g) (ht : g.dst = some t) (hx : look s t = some undef) (hd : Nat.blt d n = true) (k : WS P ops K rest n D ((d, undef) :: s) w) :
    WS P ops K (⟨some d, op, ty, pos, af, some (j, b)⟩ :: rest) n D s w := fun a ha => by
  unfold wpStill
  rw [if_neg (by rw [yieldedU ha hg ht hx]; simp)]
  exact k _ (ha.put hd undef)
theorem still_mono {Q Q' : Act → Prop} (h : ∀ a, Q a → Q' a) : ∀ (l : List Oper) (a : Act), wpStill P ops w Q l a → wpStill P ops w Q' l a
  | [], a, hh => h a hh
  | o :: r, a, hh => by
    unfold wpStill at hh ⊢
    split
    · rename_i hw; rw [if_pos hw] at hh; exact Oper.still_mono (still_mono h r) hh
    · rename_i hw; rw [if_neg hw] at hh; exact still_mono h r _ hh

/-- A region that only reads. -/
theorem CW.regionS {id : Nat} {l : List Oper} (hm : P.follows .mixedOrders = true) (hB : Region.lexB .any l.toArray = true)
    (h : ∀ K : List Deferred → Sl → Prop, (∀ D s, A .normal D s w.drew → K D s) → WS P l.toArray K l n D s w.drew) : CW P (.region id l.toArray true) A n D s w := fun a ha =>
  wp_region_still_lit hm hB (still_mono (fun a ⟨D, s, hf, hk⟩ => ⟨D, s, hf, hk⟩) l a (h (fun D s => A .normal D s w.drew) (fun _ _ h => h) a ha))

/-- A region that reads and then, from operation m on, does the rest in the order of the text. -/
theorem CW.regionT {id : Nat} {l : List Oper} (m : Nat) (hm : P.follows .mixedOrders = true) (hB : Region.lexTailB .any l.toArray m = true)
    (h : ∀ R : KK, (∀ D s w, A .normal D s w → R D s w) → WS P l.toArray (fun D s => WL P l.toArray R (l.drop m) n D s w.drew) (l.take m) n D s w.drew) : CW P (.region id l.toArray true) A n D s w := fun a ha => by
  refine wp_region_still_tail m hm hB (still_mono (fun a ⟨D, s, hf, hk⟩ => ?_) _ a (h (fun D s w => A .normal D s w) (fun _ _ _ h => h) a ha))
  have := hk a hf
  exact wpList_mono (fun e a w hq => post_lift (fun _ _ _ h => h) e a w hq) (l.drop m) a w.drew this
end

/-! ### Whatever order: loads first where nobody writes their cells (a condition S on the world), then one by one -/
def WH (P : Program) (ops : Array Oper) (K : KK) (S : World → Prop) (fuel : Nat) (listed : Array Bool) (n : Nat) (D : List Deferred) (s : Sl) (w : World) : Prop := ∀ a, Fr n D s a → wpAnyH P .any ops (post n K) S fuel listed a w
section
variable {P : Program} {A : AQ} {n : Nat} {D : List Deferred} {s : Sl} {w : World} {ops : Array Oper} {K : KK} {S : World → Prop} {fuel : Nat} {listed : Array Bool}
variable {op : Op} {ty : TypeId} {pos : String} {af : Array Edge} {d : Nat} {v : Value}
theorem CW.regionH {id : Nat} {l : List Oper} (S : World → Prop) (m : Nat) (hz : l.length = m) (hm : P.follows .mixedOrders = true)
    (h : ∀ R : KK, (∀ D s w, A .normal D s w → R D s w) → WH P l.toArray R S m (Array.replicate m false) n D s w.drew) : CW P (.region id l.toArray true) A n D s w := fun a ha => by
  refine wp_mono (wp_region_held (S := S) hm ?_) (post_lift (K := fun D s w => A .normal D s w) fun _ _ _ h => h)
  have := h (fun D s w => A .normal D s w) (fun _ _ _ h => h) a ha
  subst hz
  simpa using this
theorem WH.take (i : Nat) (hi : ops[i]? = some ⟨some d, op, ty, pos, af, none⟩) (hs : Region.noSelect ops = true) (hf : Region.free .any ops listed i = true) (hr : (Region.ready .any ops listed).contains i = true)
    (hS : S w) (he : ∀ w, S w → Ev P s op ty w v w) (hd : Nat.blt d n = true) (k : WH P ops K S fuel (listed.setIfInBounds i true) n D ((d, v) :: s) w) : WH P ops K S (fuel + 1) listed n D s w := fun a ha =>
  wpAnyH_take hi hs hf hr (fun c a w h => h.elim) (.inl ⟨by simp [Region.wanted], fun w' hw' => he w' hw' a.eval (some d) pos af none fun x u hx => ha.eval hx⟩) hS (k _ (ha.put hd v))
theorem WH.one (i : Nat) {w' : World} (hi : ops[i]? = some ⟨some d, op, ty, pos, af, none⟩) (hr : Region.ready .any ops listed = [i]) (he : Ev P s op ty w v w') (hS : S w') (hd : Nat.blt d n = true)
    (k : WH P ops K S fuel (listed.setIfInBounds i true) n D ((d, v) :: s) w') : WH P ops K S (fuel + 1) listed n D s w := fun a ha =>
  wpAnyH_all hr (by simp) fun j hj => by
    obtain rfl : j = i := by simpa using hj
    unfold wpOp
    simp only [hi]
    rw [if_pos (by simp [Region.wanted])]
    refine .inl ?_
    unfold Oper.wp
    rw [he a.eval (some d) pos af none fun x u hx => ha.eval hx]
    exact ⟨hS, k _ (ha.put hd v)⟩
theorem WH.oneS (i : Nat) {w' : World} (hi : ops[i]? = some ⟨none, op, ty, pos, af, none⟩) (hr : Region.ready .any ops listed = [i]) (he : EvS P s op ty w w') (hS : S w')
    (k : WH P ops K S fuel (listed.setIfInBounds i true) n D s w') : WH P ops K S (fuel + 1) listed n D s w := fun a ha =>
  wpAnyH_all hr (by simp) fun j hj => by
    obtain rfl : j = i := by simpa using hj
    unfold wpOp
    simp only [hi]
    rw [if_pos (by simp [Region.wanted])]
    refine .inl ?_
    unfold Oper.wp
    rw [he a.eval none pos af none fun x u hx => ha.eval hx]
    exact ⟨hS, k _ ha⟩
theorem WH.oneCall (i : Nat) {f : FuncId} {xs : List Operand} {at_ : Array TypeId} {vs : List Value} {R : Value → World → Prop} (hi : ops[i]? = some ⟨some d, .call ⟨.value (.func f), xs.toArray, at_⟩, ty, pos, af, none⟩) (hr : Region.ready .any ops listed = [i]) (hF : HasF P f) (hx : opnds s xs = some vs) (hd : Nat.blt d n = true) (h : Ret P f vs w R)
    (k : ∀ v w', R v w' → S w' ∧ WH P ops K S fuel (listed.setIfInBounds i true) n D ((d, v) :: s) w') : WH P ops K S (fuel + 1) listed n D s w := fun a ha =>
  wpAnyH_all hr (by simp) fun j hj => by
    obtain rfl : j = i := by simpa using hj
    unfold wpOp
    simp only [hi]
    rw [if_pos (by simp [Region.wanted])]
    refine .inl ?_
    unfold Oper.wp
    rw [exec_call hF rfl hx fun x u hx => ha.eval hx]
    exact Calls.mono h fun e w' ⟨v, he, hR⟩ => by subst he; exact ⟨(k v w' hR).1, (k v w' hR).2 _ (ha.put hd v)⟩
theorem WH.append (i : Nat) {t e es be : Nat} {de : TypeDesc} {ze : Value} {sz by_ : Nat} {z : Value} {v : Value} {m : Nat} {xs : List Value} {ad : Addr} {mm c : Nat} {news : List Value} {x y : Operand} [hT : HasT P t (.slice e) sz by_ z] [hE : HasT P e de es be ze]
    (hi : ops[i]? = some ⟨some d, .call ⟨.builtin .append, [x, y].toArray, #[t, t]⟩, ty, pos, af, none⟩) (hr : Region.ready .any ops listed = [i]) (hzs : ze.cells.size = es) (hsz : 0 < es) (hx : opnd s x = some v) (hy : opnd s y = some (.slice (some ad) mm c)) (hown : w.ownsRow 0 e es v m xs) (hl : news.length = mm * es) (hnews : ∀ j u, news[j]? = some u → w.cell? (ad.add j) = some u) (h1 : ∀ u ∈ news, u.oneCell' = true)
    (h63 : m + mm ≤ maxLen) (hbytes : (m + mm) * be ≤ 140737488355328) (hd : Nat.blt d n = true)
    (k : ∀ v' w', w'.ownsRow 0 e es v' (m + mm) (xs ++ news) → Chg v.ownBlock.toList w w' → (v'.ownBlock = v.ownBlock ∨ v'.ownBlock = some w.heap.size) → S w' ∧ WH P ops K S fuel (listed.setIfInBounds i true) n D ((d, v') :: s) w') : WH P ops K S (fuel + 1) listed n D s w := by
  obtain ⟨v', w', he, ho, hc, hl'⟩ := ev_append (P := P) (ty := ty) (t := t) (hT := hT) (hE := hE) hzs hsz hx hy hown hl hnews h1 h63 hbytes
  exact WH.one i hi hr he (k v' w' ho hc hl').1 hd (k v' w' ho hc hl').2
theorem WH.buildSlice (i : Nat) {t e : TypeId} {de : TypeDesc} {sz by_ es be : Nat} {z ze : Value} {ps : List (Nat × Operand)} {vs : List (Nat × Value)} {cs : List Value} {m : Nat} [hT : HasT P t (.slice e) sz by_ z] [hE : HasT P e de es be ze]
    (hi : ops[i]? = some ⟨some d, .buildSlice t m ps.toArray, ty, pos, af, none⟩) (hr : Region.ready .any ops listed = [i])
    (hm : m * es ≤ 2 ^ 24) (hp : 0 < m * es) (hx : opndP s ps = some vs) (hf : Instr.fill (fun i => some (i * es, es)) ((Array.range (m * es)).map (ze.cells[· % ze.cells.size]!)) vs = some cs.toArray) (hd : Nat.blt d n = true)
    (k : ∀ b w', New w b (.cells cs.toArray e) w' → S w' ∧ WH P ops K S fuel (listed.setIfInBounds i true) n D ((d, .slice (some ⟨b, 0, none⟩) m m) :: s) w') : WH P ops K S (fuel + 1) listed n D s w := by
  obtain ⟨b, w', he, hn⟩ := ev_buildSlice (P := P) (ty := ty) (w := w) (t := t) (hT := hT) (hE := hE) hm hp hx hf
  exact WH.one i hi hr he (k b w' hn).1 hd (k b w' hn).2
theorem WH.storeAgg (i : Nat) {t : TypeId} {ds : TypeDesc} {sz by_ : Nat} {z : Value} {b o : Nat} {l vs : List Value} {T : TypeId} {x y : Operand} [hT : HasT P t ds sz by_ z] (hi : ops[i]? = some ⟨none, .store t x y, ty, pos, af, none⟩) (hr : Region.ready .any ops listed = [i])
    (hx : opnd s x = some (.pointer (some ⟨b, o, none⟩))) (hy : opnd s y = some (.agg vs.toArray)) (hs : vs.length = sz) (h1 : ∀ v ∈ vs, v.oneCell' = true)
    (hb : w.heap[b]? = some (.cells l.toArray T (0, 0))) (ho : o + vs.length ≤ l.length) (k : ∀ w', Upd w b (.cells (splice l o vs).toArray T (0, 0)) w' → S w' ∧ WH P ops K S fuel (listed.setIfInBounds i true) n D s w') : WH P ops K S (fuel + 1) listed n D s w := by
  obtain ⟨w', he, hu⟩ := evS_storeAgg (P := P) (ty := ty) (t := t) (hT := hT) hx hy hs h1 hb ho
  exact WH.oneS i hi hr he (k w' hu).1 (k w' hu).2
theorem WH.takeG (i : Nat) {j : Nat} {b : Bool} {g : Oper} {x : Bool} {t : Nat} (hi : ops[i]? = some ⟨some d, op, ty, pos, af, some (j, b)⟩) (hs : Region.noSelect ops = true) (hf : Region.free .any ops listed i = true) (hr : (Region.ready .any ops listed).contains i = true)
    (hg : ops[j]? = some g) (ht : g.dst = some t) (hx : look s t = some (.bool x)) (hb : (x == b) = true)
    (hS : S w) (he : ∀ w, S w → Ev P s op ty w v w) (hd : Nat.blt d n = true) (k : WH P ops K S fuel (listed.setIfInBounds i true) n D ((d, v) :: s) w) : WH P ops K S (fuel + 1) listed n D s w := fun a ha =>
  wpAnyH_take hi hs hf hr (fun c a w h => h.elim) (.inl ⟨by rw [yieldedAt ha hg ht hx]; exact hb, fun w' hw' => he w' hw' a.eval (some d) pos af _ fun x u hx => ha.eval hx⟩) hS (k _ (ha.put hd v))
theorem WH.oneCallG (i : Nat) {j : Nat} {b : Bool} {g : Oper} {x : Bool} {t : Nat} {f : FuncId} {xs : List Operand} {at_ : Array TypeId} {vs : List Value} {R : Value → World → Prop} (hi : ops[i]? = some ⟨some d, .call ⟨.value (.func f), xs.toArray, at_⟩, ty, pos, af, some (j, b)⟩) (hr : Region.ready .any ops listed = [i])
    (hg : ops[j]? = some g) (ht : g.dst = some t) (hx0 : look s t = some (.bool x)) (hb : (x == b) = true) (hF : HasF P f) (hx : opnds s xs = some vs) (hd : Nat.blt d n = true) (h : Ret P f vs w R)
    (k : ∀ v w', R v w' → S w' ∧ WH P ops K S fuel (listed.setIfInBounds i true) n D ((d, v) :: s) w') : WH P ops K S (fuel + 1) listed n D s w := fun a ha =>
  wpAnyH_all hr (by simp) fun j' hj => by
    obtain rfl : j' = i := by simpa using hj
    unfold wpOp
    simp only [hi]
    rw [if_pos (by rw [yieldedAt ha hg ht hx0]; exact hb)]
    refine .inl ?_
    unfold Oper.wp
    rw [exec_call hF rfl hx fun x u hx => ha.eval hx]
    exact Calls.mono h fun e w' ⟨v, he, hR⟩ => by subst he; exact ⟨(k v w' hR).1, (k v w' hR).2 _ (ha.put hd v)⟩
theorem WH.val {v' : Value} (h : v = v') (k : WH P ops K S fuel listed n D ((d, v') :: s) w) : WH P ops K S fuel listed n D ((d, v) :: s) w := by subst h; exact k
theorem WH.store (i : Nat) {t : TypeId} {ds : TypeDesc} {by_ : Nat} {z : Value} {b o : Nat} {l : List Value} {T : TypeId} {u : Value} {x y : Operand} [hT : HasT P t ds 1 by_ z] (hi : ops[i]? = some ⟨none, .store t x y, ty, pos, af, none⟩) (hr : Region.ready .any ops listed = [i])
    (hx : opnd s x = some (.pointer (some ⟨b, o, none⟩))) (hy : opnd s y = some u) (h1 : u.oneCell' = true)
    (hb : w.heap[b]? = some (.cells l.toArray T (0, 0))) (ho : o < l.length) (k : ∀ w', Upd w b (.cells (l.set o u).toArray T (0, 0)) w' → S w' ∧ WH P ops K S fuel (listed.setIfInBounds i true) n D s w') : WH P ops K S (fuel + 1) listed n D s w :=
  have h := evS_store (P := P) (ty := ty) (t := t) (hT := hT) hx hy h1 hb ho
  WH.oneS i hi hr h.1 (k _ h.2).1 (k _ h.2).2
theorem WH.done (hr : Region.ready .any ops listed = []) (h : K D s w) : WH P ops K S fuel listed n D s w := fun a ha => wpAnyH_done hr ⟨D, s, ha, h⟩ fuel
end
end Go.Proofs.Ytjlmenmlpmfokaa.Sx
