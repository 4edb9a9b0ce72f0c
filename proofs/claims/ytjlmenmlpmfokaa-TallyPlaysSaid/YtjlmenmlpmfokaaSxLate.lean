/- Whatever order, where the last operation z turns what others have read: the condition S is asked up to z alone. No condition. -/
import Derived.Test.YtjlmenmlpmfokaaSxDraw
import Derived.StillTail
namespace Go.Proofs.Ytjlmenmlpmfokaa.Sx
open Go
set_option linter.unusedVariables false
set_option linter.unusedSimpArgs false

def anyK (P : Program) (ops : Array Oper) (Q : Exit → Act → World → Prop) (S : World → Prop) (z : Nat) : Nat → Array Bool → Act → World → Prop
  | 0, listed, a, w => Region.ready .any ops listed = [] ∧ Q .normal a w
  | fuel + 1, listed, a, w => (Region.ready .any ops listed = [] → Q .normal a w) ∧
    ∀ i ∈ Region.ready .any ops listed, wpOp P ops Q i (fun a' w' => ((listed.setIfInBounds i true).getD z false = false → S w') ∧ anyK P ops Q S z fuel (listed.setIfInBounds i true) a' w') a w
section
variable {P : Program} {ops : Array Oper} {Q : Exit → Act → World → Prop} {S : World → Prop} {z : Nat}
theorem any_of_K : ∀ (fuel : Nat) (listed : Array Bool) (a : Act) (w : World), anyK P ops Q S z fuel listed a w → wpAny P .any ops Q fuel listed a w
  | 0, _, _, _, h => h
  | fuel + 1, _, _, _, h => ⟨h.1, fun i hi => wpOp_mono (fun a' w' k => any_of_K fuel _ a' w' k.2) (h.2 i hi)⟩
theorem anyK_first {i : Nat} {oi : Oper} {v : Value} (hi : ops[i]? = some oi) (hsel : Region.noSelect ops = true) (hQ : ∀ c a w, Q (.panic c) (a.put oi.dst v) w → Q (.panic c) a w) (hz : Region.waitsFor .any ops z i = true) (hzi : z ≠ i) :
    ∀ (fuel : Nat) (listed : Array Bool) (a : Act) (w : World), (∀ j oj, ops[j]? = some oj → j ≠ i → listed.getD j true = false → (∀ e ∈ oj.after, Region.binds .any e = true → e.on ≠ i) → oi.apart ops oj = true) →
      i ∈ Region.ready .any ops listed → listed.getD z false = false → YieldsIf P ops S oi v a → S w → anyK P ops Q S z fuel (listed.setIfInBounds i true) (a.put oi.dst v) w → anyK P ops Q S z (fuel + 1) listed a w := by
  obtain ⟨oz, hoz, ez, hez, hezb, hezi⟩ := Region.waitsFor_spec hz
  have noz : ∀ (listed : Array Bool) j, i ∈ Region.ready .any ops listed → j ∈ Region.ready .any ops listed → j ≠ z := fun listed j hr hj e => by
    subst e
    obtain ⟨_, o, ho, hall⟩ := mem_ready.1 hj
    rw [hoz] at ho; cases ho
    have h1 := hall ez hez hezb
    rw [hezi] at h1
    have h0 := (mem_ready.1 hr).1
    rcases Nat.lt_or_ge i listed.size with q | q
    · simp [q] at h0 h1; rw [h0] at h1; cases h1
    · simp [Array.getElem?_eq_none q] at h1
  intro fuel
  induction fuel with
  | zero =>
    intro listed a w _ hr hl hy hS H
    refine ⟨fun h => (by rw [h] at hr; cases hr), fun j hj => ?_⟩
    by_cases e : j = i
    · subst e; exact hy.wpOp hi hS ⟨fun _ => hS, H⟩
    · have := ready_mono hj e
      rw [H.1] at this; cases this
  | succ fuel ih =>
    intro listed a w hfree hr hl hy hS H
    refine ⟨fun h => (by rw [h] at hr; cases hr), fun j hj => ?_⟩
    by_cases e : j = i
    · subst e; exact hy.wpOp hi hS ⟨fun _ => hS, H⟩
    · have h1 := H.2 j (ready_mono hj e)
      have hjz := noz listed j hr hj
      obtain ⟨hjun, oj, hoj, hall⟩ := mem_ready.1 hj
      have hnot : ∀ e ∈ oj.after, Region.binds .any e = true → e.on ≠ i := fun e he hb heq => by
        have h1 := hall e he hb
        have h0 := (mem_ready.1 hr).1
        rw [heq] at h1
        rcases Nat.lt_or_ge i listed.size with q | q
        · simp [q] at h0 h1; rw [h0] at h1; cases h1
        · simp [Array.getElem?_eq_none q] at h1
      have h2 := wpOp_putIf hoj (hfree j oj hoj e hjun hnot) (fun cs b => Region.noSelect_spec hsel i oi cs b hi) (fun cs b => Region.noSelect_spec hsel j oj cs b hoj) hQ hy h1
      have lz : (listed.setIfInBounds j true).getD z false = false := by rw [getD_set_ne false hjz]; exact hl
      have lz2 : ((listed.setIfInBounds i true).setIfInBounds j true).getD z false = false := by rw [getD_set_ne false hjz, getD_set_ne false (Ne.symm hzi)]; exact hl
      refine wpOp_mono (fun a' w' h3 => ⟨fun _ => h3.2.1 lz2, ih (listed.setIfInBounds j true) a' w' (fun k ok hk hki hun hno => hfree k ok hk hki ?_ hno) (ready_mono hr (Ne.symm e)) lz h3.1 (h3.2.1 lz2) ?_⟩) h2
      · by_cases hjk : j = k
        · subst hjk; exact hjun
        · rw [getD_set_ne true hjk] at hun; exact hun
      · rw [Array.setIfInBounds_comm _ _ e]
        exact h3.2.2
end
def WK (P : Program) (ops : Array Oper) (K : KK) (S : World → Prop) (z : Nat) (fuel : Nat) (listed : Array Bool) (n : Nat) (D : List Deferred) (s : Sl) (w : World) : Prop := ∀ a, Fr n D s a → anyK P ops (post n K) S z fuel listed a w
section
variable {P : Program} {A : AQ} {n : Nat} {D : List Deferred} {s : Sl} {w : World} {ops : Array Oper} {K : KK} {S : World → Prop} {z : Nat} {fuel : Nat} {listed : Array Bool}
variable {op : Op} {ty : TypeId} {pos : String} {af : Array Edge} {d : Nat} {v : Value}
theorem CW.regionK {id : Nat} {l : List Oper} (S : World → Prop) (z m : Nat) (hz : l.length = m) (hm : P.follows .mixedOrders = true)
    (h : ∀ R : KK, (∀ D s w, A .normal D s w → R D s w) → WK P l.toArray R S z m (Array.replicate m false) n D s w.drew) : CW P (.region id l.toArray true) A n D s w := fun a ha => by
  refine wp_mono (wp_region_any hm (any_of_K _ _ _ _ (S := S) (z := z) ?_)) (post_lift (K := fun D s w => A .normal D s w) fun _ _ _ h => h)
  have := h (fun D s w => A .normal D s w) (fun _ _ _ h => h) a ha
  subst hz
  simpa using this
theorem WK.take (i : Nat) (hi : ops[i]? = some ⟨some d, op, ty, pos, af, none⟩) (hs : Region.noSelect ops = true) (hf : Region.free .any ops listed i = true) (hr : (Region.ready .any ops listed).contains i = true) (hw : Region.waitsFor .any ops z i = true) (hzi : Nat.beq z i = false) (hlz : listed.getD z false = false)
    (hS : S w) (he : ∀ w, S w → Ev P s op ty w v w) (hd : Nat.blt d n = true) (k : WK P ops K S z fuel (listed.setIfInBounds i true) n D ((d, v) :: s) w) : WK P ops K S z (fuel + 1) listed n D s w := fun a ha =>
  anyK_first hi hs (fun c a w h => h.elim) hw (fun e => by rw [e] at hzi; simp at hzi) fuel listed a w (Region.free_spec hi hf) (by simpa using hr) hlz (.inl ⟨by simp [Region.wanted], fun w' hw' => he w' hw' a.eval (some d) pos af none fun x u hx => ha.eval hx⟩) hS (k _ (ha.put hd v))
theorem WK.one (i : Nat) {w' : World} (hi : ops[i]? = some ⟨some d, op, ty, pos, af, none⟩) (hr : Region.ready .any ops listed = [i]) (he : Ev P s op ty w v w') (hS : (listed.setIfInBounds i true).getD z false = false → S w') (hd : Nat.blt d n = true)
    (k : WK P ops K S z fuel (listed.setIfInBounds i true) n D ((d, v) :: s) w') : WK P ops K S z (fuel + 1) listed n D s w := fun a ha => by
  refine ⟨fun h => (by rw [hr] at h; cases h), fun j hj => ?_⟩
  rw [hr] at hj
  obtain rfl : j = i := by simpa using hj
  unfold wpOp
  simp only [hi]
  rw [if_pos (by simp [Region.wanted])]
  refine .inl ?_
  unfold Oper.wp
  rw [he a.eval (some d) pos af none fun x u hx => ha.eval hx]
  exact ⟨hS, k _ (ha.put hd v)⟩
theorem WK.oneS (i : Nat) {w' : World} (hi : ops[i]? = some ⟨none, op, ty, pos, af, none⟩) (hr : Region.ready .any ops listed = [i]) (he : EvS P s op ty w w') (hS : (listed.setIfInBounds i true).getD z false = false → S w')
    (k : WK P ops K S z fuel (listed.setIfInBounds i true) n D s w') : WK P ops K S z (fuel + 1) listed n D s w := fun a ha => by
  refine ⟨fun h => (by rw [hr] at h; cases h), fun j hj => ?_⟩
  rw [hr] at hj
  obtain rfl : j = i := by simpa using hj
  unfold wpOp
  simp only [hi]
  rw [if_pos (by simp [Region.wanted])]
  refine .inl ?_
  unfold Oper.wp
  rw [he a.eval none pos af none fun x u hx => ha.eval hx]
  exact ⟨hS, k _ ha⟩
theorem WK.oneCall (i : Nat) {f : FuncId} {xs : List Operand} {at_ : Array TypeId} {vs : List Value} {R : Value → World → Prop} (hi : ops[i]? = some ⟨some d, .call ⟨.value (.func f), xs.toArray, at_⟩, ty, pos, af, none⟩) (hr : Region.ready .any ops listed = [i]) (hF : HasF P f) (hx : opnds s xs = some vs) (hd : Nat.blt d n = true) (h : Ret P f vs w R)
    (k : ∀ v w', R v w' → S w' ∧ WK P ops K S z fuel (listed.setIfInBounds i true) n D ((d, v) :: s) w') : WK P ops K S z (fuel + 1) listed n D s w := fun a ha => by
  refine ⟨fun h => (by rw [hr] at h; cases h), fun j hj => ?_⟩
  rw [hr] at hj
  obtain rfl : j = i := by simpa using hj
  unfold wpOp
  simp only [hi]
  rw [if_pos (by simp [Region.wanted])]
  refine .inl ?_
  unfold Oper.wp
  rw [exec_call hF rfl hx fun x u hx => ha.eval hx]
  exact Calls.mono h fun e w' ⟨v, he, hR⟩ => by subst he; exact ⟨fun _ => (k v w' hR).1, (k v w' hR).2 _ (ha.put hd v)⟩
theorem WK.append (i : Nat) {t e es be : Nat} {de : TypeDesc} {ze : Value} {sz by_ : Nat} {z0 : Value} {v : Value} {m : Nat} {xs : List Value} {ad : Addr} {mm c : Nat} {news : List Value} {x y : Operand} [hT : HasT P t (.slice e) sz by_ z0] [hE : HasT P e de es be ze]
    (hi : ops[i]? = some ⟨some d, .call ⟨.builtin .append, [x, y].toArray, #[t, t]⟩, ty, pos, af, none⟩) (hr : Region.ready .any ops listed = [i]) (hzs : ze.cells.size = es) (hsz : 0 < es) (hx : opnd s x = some v) (hy : opnd s y = some (.slice (some ad) mm c)) (hown : w.ownsRow 0 e es v m xs) (hl : news.length = mm * es) (hnews : ∀ j u, news[j]? = some u → w.cell? (ad.add j) = some u) (h1 : ∀ u ∈ news, u.oneCell' = true)
    (h63 : m + mm ≤ maxLen) (hbytes : (m + mm) * be ≤ 140737488355328) (hd : Nat.blt d n = true)
    (k : ∀ v' w', w'.ownsRow 0 e es v' (m + mm) (xs ++ news) → Chg v.ownBlock.toList w w' → (v'.ownBlock = v.ownBlock ∨ v'.ownBlock = some w.heap.size) → S w' ∧ WK P ops K S z fuel (listed.setIfInBounds i true) n D ((d, v') :: s) w') : WK P ops K S z (fuel + 1) listed n D s w := by
  obtain ⟨v', w', he, ho, hc, hl'⟩ := ev_append (P := P) (ty := ty) (t := t) (hT := hT) (hE := hE) hzs hsz hx hy hown hl hnews h1 h63 hbytes
  exact WK.one i hi hr he (fun _ => (k v' w' ho hc hl').1) hd (k v' w' ho hc hl').2
theorem WK.buildSlice (i : Nat) {t e : TypeId} {de : TypeDesc} {sz by_ es be : Nat} {z0 ze : Value} {ps : List (Nat × Operand)} {vs : List (Nat × Value)} {cs : List Value} {m : Nat} [hT : HasT P t (.slice e) sz by_ z0] [hE : HasT P e de es be ze]
    (hi : ops[i]? = some ⟨some d, .buildSlice t m ps.toArray, ty, pos, af, none⟩) (hr : Region.ready .any ops listed = [i])
    (hm : m * es ≤ 2 ^ 24) (hp : 0 < m * es) (hx : opndP s ps = some vs) (hf : Instr.fill (fun i => some (i * es, es)) ((Array.range (m * es)).map (ze.cells[· % ze.cells.size]!)) vs = some cs.toArray) (hd : Nat.blt d n = true)
    (k : ∀ b w', New w b (.cells cs.toArray e) w' → S w' ∧ WK P ops K S z fuel (listed.setIfInBounds i true) n D ((d, .slice (some ⟨b, 0, none⟩) m m) :: s) w') : WK P ops K S z (fuel + 1) listed n D s w := by
  obtain ⟨b, w', he, hn⟩ := ev_buildSlice (P := P) (ty := ty) (w := w) (t := t) (hT := hT) (hE := hE) hm hp hx hf
  exact WK.one i hi hr he (fun _ => (k b w' hn).1) hd (k b w' hn).2
/-- The last one: a store into one cell. -/
theorem WK.storeLast (i : Nat) {t : TypeId} {ds : TypeDesc} {by_ : Nat} {z0 : Value} {b o : Nat} {l : List Value} {T : TypeId} {u : Value} {x y : Operand} [hT : HasT P t ds 1 by_ z0] (hi : ops[i]? = some ⟨none, .store t x y, ty, pos, af, none⟩) (hr : Region.ready .any ops listed = [i]) (hlast : (listed.setIfInBounds i true).getD z false = true)
    (hx : opnd s x = some (.pointer (some ⟨b, o, none⟩))) (hy : opnd s y = some u) (h1 : u.oneCell' = true)
    (hb : w.heap[b]? = some (.cells l.toArray T (0, 0))) (ho : o < l.length) (k : ∀ w', Upd w b (.cells (l.set o u).toArray T (0, 0)) w' → WK P ops K S z fuel (listed.setIfInBounds i true) n D s w') : WK P ops K S z (fuel + 1) listed n D s w :=
  have h := evS_store (P := P) (ty := ty) (t := t) (hT := hT) hx hy h1 hb ho
  WK.oneS i hi hr h.1 (fun e => by rw [hlast] at e; cases e) (k _ h.2)
theorem WK.done (hr : Region.ready .any ops listed = []) (h : K D s w) : WK P ops K S z fuel listed n D s w := fun a ha => by
  cases fuel with
  | zero => exact ⟨hr, D, s, ha, h⟩
  | succ f => exact ⟨fun _ => ⟨D, s, ha, h⟩, fun j hj => by rw [hr] at hj; cases hj⟩
end
end Go.Proofs.Ytjlmenmlpmfokaa.Sx
