/- Maps keyed by whole numbers, in the engine. No condition. -/
import Derived.Test.YtjlmenmlpmfokaaSxDraw
namespace Go.Proofs.Ytjlmenmlpmfokaa.Sx
open Go
set_option linter.unusedVariables false
set_option linter.unusedSimpArgs false

structure ME where
  key : Int
  val : Value
  born : Nat
def meV (kk : IntKind) (e : ME) : MapEntry := ⟨.int kk e.key, e.val, e.born⟩
def mapO (kk : IntKind) (es : List ME) (c : Nat) : Obj := .map (es.map (meV kk)).toArray c
def mfind (es : List ME) (k : Int) : Option ME := es.find? fun e => e.key == k
def midx (k : Int) : List ME → Option Nat
  | [] => none
  | e :: r => if e.key = k then some 0 else (midx k r).map (· + 1)
def mput (es : List ME) (k : Int) (v : Value) (c : Nat) : List ME := match midx k es with
  | some i => es.modify i fun e => { e with val := v }
  | none => es ++ [⟨k, v, c⟩]
def mclock (es : List ME) (k : Int) (c : Nat) : Nat := match midx k es with
  | some _ => c
  | none => c + 1
def mdel (es : List ME) (k : Int) : List ME := match midx k es with
  | some i => es.eraseIdx i
  | none => es

theorem findNow_int (kk : IntKind) (k : Int) : ∀ (es : List ME) (i : Nat), Instr.findNow (.int kk) (.int kk k) (es.map (meV kk)) i = some ((midx k es).bind fun j => (es[j]?).map fun e => (i + j, e.val))
  | [], i => rfl
  | e :: r, i => by
    simp only [List.map_cons, Instr.findNow, meV, Instr.sameNow, if_true, midx]
    by_cases h : k = e.key
    · subst h; simp
    · have h' : ¬ e.key = k := fun x => h x.symm
      have hb : (k == e.key) = false := by simpa using h
      rw [hb]
      simp only [if_neg h']
      have ih := findNow_int kk k r (i + 1)
      rw [ih]
      cases midx k r with
      | none => rfl
      | some j => simp [Nat.add_assoc, Nat.add_comm 1 j]
theorem midx_lt {k : Int} : ∀ {es : List ME} {i : Nat}, midx k es = some i → ∃ e, es[i]? = some e ∧ e.key = k
  | [], i, h => by simp [midx] at h
  | e :: r, i, h => by
    unfold midx at h
    split at h
    · rename_i hk; cases h; exact ⟨e, rfl, hk⟩
    · cases hm : midx k r with
      | none => rw [hm] at h; cases h
      | some j =>
        rw [hm] at h
        cases h
        obtain ⟨e', h1, h2⟩ := midx_lt hm
        exact ⟨e', by simpa using h1, h2⟩
theorem midx_find {k : Int} : ∀ (es : List ME), ((midx k es).bind fun j => es[j]?) = mfind es k
  | [] => rfl
  | e :: r => by
    unfold midx mfind
    by_cases h : e.key = k
    · simp [h]
    · have hb : (e.key == k) = false := by simpa using h
      simp only [if_neg h, List.find?_cons, hb]
      have ih := midx_find (k := k) r
      unfold mfind at ih
      rw [← ih]
      cases midx k r <;> rfl

section
variable {P : Program} {t key elem : TypeId} {kk : IntKind} {w : World} {sk bk : Nat} {zk : Value}
theorem run_checkKey_int (hk : P.underlying key = some (.int kk)) (em : Bool) (k : Int) : (Instr.checkKey em 10000 key (.int kk k)).run P w = .ok () w := by
  unfold Instr.checkKey
  simp [underlying, hk]
theorem run_findKey_int (hk : P.underlying key = some (.int kk)) (k : Int) (es : List ME) : (Instr.findKey key (.int kk k) (es.map (meV kk))).run P w = .ok ((midx k es).bind fun j => (es[j]?).map fun e => (j, e.val)) w := by
  unfold Instr.findKey
  simp [underlying, hk, findNow_int]
theorem run_getObj_map {r : Nat} {es : Array MapEntry} {c : Nat} (h : w.heap[r]? = some (.map es c)) : (getObj r).run P w = .ok (.map es c) w := by
  simp [getObj, Sem.run, h]
end

section
variable {P : Program} {n : Nat} {D : List Deferred} {s : Sl} {w : World} {ty : TypeId} {x y z : Operand} {ops : Array Oper} {K : KK} {rest : List Oper} {pos : String} {af : Array Edge} {d : Nat}
variable {t key elem : TypeId} {kk : IntKind} {sz by_ sk bk se be : Nat} {zt zk ze : Value} {de : TypeDesc} {r c : Nat} {es : List ME} {k : Int}
def mval (es : List ME) (k : Int) (z : Value) : Value := ((mfind es k).map (·.val)).getD z
theorem Ev.lookup [hT : HasT P t (.map key elem) sz by_ zt] [hK : HasT P key (.int kk) sk bk zk] [hE : HasT P elem de se be ze] (hx : opnd s x = some (.map (some r))) (hy : opnd s y = some (.int kk k)) (hr : w.heap[r]? = some (mapO kk es c)) :
    Ev P s (.lookup t x y false) ty w (mval es k ze) w := fun ρ d' pos af g hρ => by
  have e1 := hρ x _ hx
  have e2 := hρ y _ hy
  have e3 := run_getObj_map (P := P) hr
  have e4 := run_checkKey_int (w := w) hK.und es.isEmpty k
  have e5 := run_findKey_int (w := w) hK.und k es
  have e6 := midx_find (k := k) es
  simp only [mval, ← e6]
  cases hm : midx k es with
  | none =>
    rw [hm] at e5
    simp [execOp, e1, e2, Instr.lookup, hT.underlying, e3, e4, e5, hE.zero]
  | some j =>
    obtain ⟨e, he, _⟩ := midx_lt hm
    rw [hm] at e5
    simp [he] at e5
    simp [execOp, e1, e2, Instr.lookup, hT.underlying, e3, e4, e5, he]
theorem Ev.lookupOk [hT : HasT P t (.map key elem) sz by_ zt] [hK : HasT P key (.int kk) sk bk zk] [hE : HasT P elem de se be ze] (hx : opnd s x = some (.map (some r))) (hy : opnd s y = some (.int kk k)) (hr : w.heap[r]? = some (mapO kk es c)) :
    Ev P s (.lookup t x y true) ty w (.tuple [mval es k ze, .bool (mfind es k).isSome].toArray) w := fun ρ d' pos af g hρ => by
  have e1 := hρ x _ hx
  have e2 := hρ y _ hy
  have e3 := run_getObj_map (P := P) hr
  have e4 := run_checkKey_int (w := w) hK.und es.isEmpty k
  have e5 := run_findKey_int (w := w) hK.und k es
  have e6 := midx_find (k := k) es
  simp only [mval, ← e6]
  cases hm : midx k es with
  | none =>
    rw [hm] at e5
    simp [execOp, e1, e2, Instr.lookup, hT.underlying, e3, e4, e5, hE.zero]
  | some j =>
    obtain ⟨e, he, _⟩ := midx_lt hm
    rw [hm] at e5
    simp [he] at e5
    simp [execOp, e1, e2, Instr.lookup, hT.underlying, e3, e4, e5, he]

theorem upd_setObj (w : World) (r : Nat) (o o' : Obj) (h : w.heap[r]? = some o) : Upd w r o' { w with heap := w.heap.setIfInBounds r o' } := by
  have hlt := lt_of_heap h
  refine ⟨⟨rfl, rfl, rfl, by simp, fun k hk hn => ?_⟩, by simp [hlt], by simp⟩
  simp only [List.mem_singleton] at hn
  simp [Array.getElem?_setIfInBounds, Ne.symm hn]

theorem mput_map (es : List ME) (k : Int) (v : Value) (c : Nat) : (mput es k v c).map (meV kk) = match midx k es with
  | some i => (es.map (meV kk)).modify i fun e => { e with key := .int kk k, val := v }
  | none => es.map (meV kk) ++ [⟨.int kk k, v, c⟩] := by
  unfold mput
  cases hm : midx k es with
  | none => simp [meV]
  | some i =>
    obtain ⟨e, he, hk⟩ := midx_lt hm
    simp only
    apply List.ext_getElem?
    intro j
    by_cases hj : i = j
    · subst hj
      simp [List.getElem?_modify, he, meV, hk]
    · simp [List.getElem?_modify, hj]

theorem WL.mapUpdate {v : Value} [hT : HasT P t (.map key elem) sz by_ zt] [hK : HasT P key (.int kk) sk bk zk] (hx : opnd s x = some (.map (some r))) (hy : opnd s y = some (.int kk k)) (hz : opnd s z = some v) (hr : w.heap[r]? = some (mapO kk es c))
    (kc : ∀ w', Upd w r (mapO kk (mput es k v c) (mclock es k c)) w' → WL P ops K rest n D s w') : WL P ops K (⟨none, .mapUpdate t x y z, ty, pos, af, none⟩ :: rest) n D s w := by
  refine WL.evs (fun ρ d' pos af g hρ => ?_) (kc _ (upd_setObj w r _ _ hr))
  have e1 := hρ x _ hx
  have e2 := hρ y _ hy
  have e7 := hρ z _ hz
  have e3 := run_getObj_map (P := P) hr
  have e4 := run_checkKey_int (w := w) hK.und false k
  have e5 := run_findKey_int (w := w) hK.und k es
  have e8 := mput_map (kk := kk) es k v c
  have hr' : w.heap[r]? = some (.map (es.map (meV kk)).toArray c) := hr
  cases hm : midx k es with
  | none =>
    rw [hm] at e5 e8
    simp [execOp, e1, e2, e7, Instr.mapUpdate, hT.underlying, e3, e4, e5, setObj, Sem.run, hr', mapO, e8, mclock, hm]
  | some j =>
    obtain ⟨e, he, hk⟩ := midx_lt hm
    rw [hm] at e5 e8
    simp [he] at e5
    have e9 : ∀ w : World, (Instr.keyThatStays (.int kk k) (.int kk k)).run P w = .ok (.int kk k) w := fun w => by
      unfold Instr.keyThatStays; simp [Instr.sameBits]
    have e10 : (meV kk e).key = .int kk k := by rw [← hk]; rfl
    simp [execOp, e1, e2, e7, Instr.mapUpdate, hT.underlying, e3, e4, e5, setObj, Sem.run, hr', mapO, e8, mclock, hm, he, e9, e10]

theorem eraseIdx_mapE {α β : Type} (f : α → β) : ∀ (l : List α) (j : Nat), (l.map f).eraseIdx j = (l.eraseIdx j).map f
  | [], j => by simp
  | e :: r, 0 => rfl
  | e :: r, j + 1 => by simp [eraseIdx_mapE f r j]
theorem WL.mapDelete {at1 : TypeId} [hT : HasT P t (.map key elem) sz by_ zt] [hK : HasT P key (.int kk) sk bk zk] (hx : opnd s x = some (.map (some r))) (hy : opnd s y = some (.int kk k)) (hr : w.heap[r]? = some (mapO kk es c))
    (kc : ∀ w', Upd w r (mapO kk (mdel es k) c) w' → WL P ops K rest n D s w') : WL P ops K (⟨none, .call ⟨.builtin .delete, [x, y].toArray, #[t, at1]⟩, ty, pos, af, none⟩ :: rest) n D s w := by
  refine WL.ev0 (v := .tuple #[]) (fun ρ d' pos af g hρ => ?_) (kc _ (upd_setObj w r _ _ hr))
  have e1 := hρ x _ hx
  have e2 := hρ y _ hy
  have e3 := run_getObj_map (P := P) hr
  have e4 := run_checkKey_int (w := w) hK.und es.isEmpty k
  have e5 := run_findKey_int (w := w) hK.und k es
  have hr' : w.heap[r]? = some (.map (es.map (meV kk)).toArray c) := hr
  cases hm : midx k es with
  | none =>
    rw [hm] at e5
    simp [execOp, resolve, invoke, builtin, e1, e2, Builtin.delete_, hT.underlying, e3, e4, e5, setObj, Sem.run, hr', mapO, mdel, hm]
  | some j =>
    obtain ⟨e, he, hk⟩ := midx_lt hm
    rw [hm] at e5
    simp [he] at e5
    have hj : j < es.length := by
      by_cases h : j < es.length
      · exact h
      · rw [List.getElem?_eq_none (by omega)] at he; cases he
    have e6 : (es.map (meV kk)).toArray.eraseIdxIfInBounds j = ((es.eraseIdx j).map (meV kk)).toArray := by
      rw [Array.eraseIdxIfInBounds, dif_pos (by simpa using hj)]
      rw [List.eraseIdx_toArray, eraseIdx_mapE]
    simp [execOp, resolve, invoke, builtin, e1, e2, Builtin.delete_, hT.underlying, e3, e4, e5, setObj, Sem.run, hr', mapO, mdel, hm]
    rw [eraseIdx_mapE]

theorem WL.makeMap {t : TypeId} (hd : Nat.blt d n = true) (kc : ∀ b w', New w b (mapO kk [] 0) w' → WL P ops K rest n D ((d, .map (some b)) :: s) w') : WL P ops K (⟨some d, .makeMap t none, ty, pos, af, none⟩ :: rest) n D s w :=
  WL.ev (v := .map (some w.heap.size)) (w' := w.alloc (mapO kk [] 0)) (fun ρ d' pos af g hρ => by
    simp [execOp, Instr.makeMap, mapO]) hd (kc _ _ (new_alloc _ _))

/-! A range over a map -/
theorem WL.range {t : TypeId} [hT : HasT P t (.map key elem) sz by_ zt] (hx : opnd s x = some (.map (some r))) (hr : w.heap[r]? = some (mapO kk es c)) (hd : Nat.blt d n = true)
    (kc : ∀ b w', New w b (.mapIter (some r) c #[] c) w' → WL P ops K rest n D ((d, .pointer (some ⟨b, 0, none⟩)) :: s) w') : WL P ops K (⟨some d, .range t x, ty, pos, af, none⟩ :: rest) n D s w :=
  WL.ev (v := .pointer (some ⟨w.heap.size, 0, none⟩)) (w' := w.alloc (.mapIter (some r) c #[] c)) (fun ρ d' pos af g hρ => by
    have e1 := hρ x _ hx
    have e3 := run_getObj_map (P := P) hr
    simp [execOp, e1, Instr.range, hT.underlying, e3]) hd (kc _ _ (new_alloc _ _))

theorem run_choose_next (P : Program) (w : World) (m : Nat) (hm : 0 < m) : ∃ i w1, i < m ∧ (choose (.mapNext m)).run P w = .ok i w1 ∧ w1.heap = w.heap ∧ w1.os = w.os ∧ w1.tape = w.tape ∧ w1.output = w.output := by
  rw [run_choose]
  split
  · exact ⟨0, w, hm, rfl, rfl, rfl, rfl, rfl⟩
  · exact ⟨_, _, Nat.mod_lt _ hm, rfl, rfl, rfl, rfl, rfl⟩
theorem run_next (P : Program) (kk : IntKind) (w : World) (b r c : Nat) (es done left : List ME) (ty : TypeId) (hr : w.heap[r]? = some (mapO kk es c)) (hb : w.heap[b]? = some (.mapIter (some r) c (done.map (·.born)).toArray c))
    (hp : (done ++ left).Perm es) (hn : (es.map (·.born)).Nodup) (hc : ∀ e ∈ es, e.born < c) :
    (left = [] ∧ (Instr.next (.pointer (some ⟨b, 0, none⟩)) false ty).run P w = .ok (.tuple [.bool false].toArray) w) ∨
    (∃ e left' w', left.Perm (e :: left') ∧ (Instr.next (.pointer (some ⟨b, 0, none⟩)) false ty).run P w = .ok (.tuple [.bool true, .int kk e.key, e.val].toArray) w' ∧ Upd w b (.mapIter (some r) c ((done ++ [e]).map (·.born)).toArray c) w') := by
  have hnp : ((done ++ left).map (·.born)).Nodup := (hp.map _).nodup_iff.2 hn
  rw [List.map_append, List.nodup_append] at hnp
  obtain ⟨hnd, hnl, hdis⟩ := hnp
  have e3 := run_getObj_map (P := P) (es := (es.map (meV kk)).toArray) (c := c) hr
  have e4 : (getObj b).run P w = .ok (.mapIter (some r) c (done.map (·.born)).toArray c) w := by simp [getObj, Sem.run, hb]
  -- what is left, as the model has it
  let L := es.filter fun e => !(done.map (·.born)).contains e.born
  have hL : L.Perm left := by
    have h1 : (es.filter fun e => !(done.map (·.born)).contains e.born).Perm ((done ++ left).filter fun e => !(done.map (·.born)).contains e.born) := hp.symm.filter _
    rw [List.filter_append] at h1
    have h2 : (done.filter fun e => !(done.map (·.born)).contains e.born) = [] := by
      rw [List.filter_eq_nil_iff]
      intro e he
      simp only [Bool.not_eq_true', Bool.not_eq_false, List.contains_iff_mem]
      simpa using List.mem_map_of_mem (f := (·.born)) he
    have h3 : (left.filter fun e => !(done.map (·.born)).contains e.born) = left := by
      rw [List.filter_eq_self]
      intro e he
      simp only [Bool.not_eq_true', ← Bool.not_eq_true, List.contains_iff_mem]
      intro hm
      exact hdis _ hm _ (List.mem_map_of_mem (f := (·.born)) he) rfl
    rw [h2, h3, List.nil_append] at h1
    exact h1
  have eF : ((es.map (meV kk)).toArray.filter fun e => !(done.map (·.born)).toArray.contains e.born) = (L.map (meV kk)).toArray := by
    simp only [L, List.filter_toArray', List.size_toArray, List.length_map, List.filter_map]
    congr 1
    congr 1
    apply List.filter_congr
    intro e he
    simp only [Function.comp, meV, List.contains_toArray]
  have eO : ((L.map (meV kk)).toArray.filter fun e => decide (e.born < c)) = (L.map (meV kk)).toArray := by
    simp only [List.filter_toArray', List.size_toArray, List.length_map]
    congr 1
    rw [List.filter_eq_self]
    intro e he
    obtain ⟨m, hm, rfl⟩ := List.mem_map.1 he
    exact decide_eq_true (hc m (List.mem_filter.1 hm).1)
  have eN : ((L.map (meV kk)).toArray.filter fun e => decide (e.born ≥ c)) = #[] := by
    simp only [List.filter_toArray', List.size_toArray, List.length_map]
    have : (List.map (meV kk) L).filter (fun e => decide (e.born ≥ c)) = [] := by
      rw [List.filter_eq_nil_iff]
      intro e he
      obtain ⟨m, hm, rfl⟩ := List.mem_map.1 he
      have := hc m ((List.mem_filter.1 hm).1)
      simp [meV]; omega
    rw [this]
  have eA : (!(done.map (·.born)).toArray.isEmpty && !(es.map (meV kk)).toArray.isEmpty && (es.map (meV kk)).toArray.all fun e => decide (e.born ≥ c)) = false := by
    cases es with
    | nil => simp
    | cons e r =>
      have := hc e (by simp)
      simp [meV]
      intro _ h
      omega
  have eA' : (!(done.map (·.born)).toArray.isEmpty && !(es.map (meV kk)).toArray.isEmpty && (es.map (meV kk)).toArray.all fun e => decide (c ≤ e.born)) = false := eA
  have eN' : ((L.map (meV kk)).toArray.filter fun e => decide (c ≤ e.born)) = #[] := eN
  cases hLc : L with
  | nil =>
    left
    refine ⟨List.Perm.nil_eq (hLc ▸ hL) ▸ rfl, ?_⟩
    rw [hLc] at eF eO eN'
    unfold Instr.next
    simp only [Sem.run_bind, e4, e3, Result.andThen, eA', Bool.false_eq_true, if_false, eF, eO, eN', List.map_nil]
    simp [Question.forced]
  | cons e0 L0 =>
    right
    have hLp : 0 < L.length := by rw [hLc]; simp
    obtain ⟨i, w1, hi, hrun, h1, h2, h3, h4⟩ := run_choose_next P w L.length hLp
    have hlt : i < L.length := hi
    obtain ⟨ei, hei⟩ : ∃ ei, L[i]? = some ei := ⟨L[i], by simp⟩
    obtain ⟨l1, l2, hsp⟩ := List.append_of_mem (List.mem_of_getElem? hei)
    have hb1 : w1.heap[b]? = some (.mapIter (some r) c (done.map (·.born)).toArray c) := by rw [h1]; exact hb
    have hu := upd_setObj w1 b _ (.mapIter (some r) c ((done ++ [ei]).map (·.born)).toArray c) hb1
    refine ⟨ei, l1 ++ l2, { w1 with heap := w1.heap.setIfInBounds b (.mapIter (some r) c ((done ++ [ei]).map (·.born)).toArray c) }, ?_, ?_, ⟨⟨?_, ?_, ?_, ?_, ?_⟩, hu.at_, ?_⟩⟩
    · refine hL.symm.trans ?_
      rw [hsp]
      exact List.perm_middle
    · have hne : (L.map (meV kk)).toArray.isEmpty = false := by simp; intro h; rw [h] at hLp; simp at hLp
      unfold Instr.next
      simp only [Sem.run_bind, e4, e3, Result.andThen, eA', Bool.false_eq_true, if_false, eF, eO, eN', hne]
      have hsz : ((#[] : Array (Option MapEntry)) ++ Array.map some ((L.map (meV kk)).toArray ++ #[])).size = L.length := by simp
      rw [hsz, hrun]
      simp only [Result.andThen]
      have hget : ((#[] : Array (Option MapEntry)) ++ Array.map some ((L.map (meV kk)).toArray ++ #[]))[i]? = some (some (meV kk ei)) := by simp [hei]
      rw [hget]
      simp [setObj, Sem.run, hb1, meV]
    · exact h2
    · exact h3
    · exact h4
    · simp [h1]
    · intro k hk hn
      rw [← h1]
      exact hu.chg.block k (by rw [h1]; exact hk) hn
    · simp [h1]
theorem WL.next {b : Nat} {done left : List ME} (hx : opnd s x = some (.pointer (some ⟨b, 0, none⟩))) (hr : w.heap[r]? = some (mapO kk es c)) (hb : w.heap[b]? = some (.mapIter (some r) c (done.map (·.born)).toArray c))
    (hp : (done ++ left).Perm es) (hn : (es.map (·.born)).Nodup) (hc : ∀ e ∈ es, e.born < c) (hd : Nat.blt d n = true)
    (k0 : left = [] → WL P ops K rest n D ((d, .tuple [.bool false].toArray) :: s) w)
    (k1 : ∀ e left' w', left.Perm (e :: left') → Upd w b (.mapIter (some r) c ((done ++ [e]).map (·.born)).toArray c) w' → WL P ops K rest n D ((d, .tuple [.bool true, .int kk e.key, e.val].toArray) :: s) w') :
    WL P ops K (⟨some d, .next x false, ty, pos, af, none⟩ :: rest) n D s w := by
  rcases run_next P kk w b r c es done left ty hr hb hp hn hc with ⟨h1, h2⟩ | ⟨e, l', w', h1, h2, h3⟩
  · exact WL.ev (fun ρ d' pos af g hρ => by
      have e1 := hρ x _ hx
      simp [execOp, e1, h2]) hd (k0 h1)
  · exact WL.ev (fun ρ d' pos af g hρ => by
      have e1 := hρ x _ hx
      simp [execOp, e1, h2]) hd (k1 e l' w' h1 h3)
/-- The entry of the last step. -/
theorem Ev.entry {b : Nat} {done : List ME} {e : ME} (hx : opnd s x = some (.pointer (some ⟨b, 0, none⟩))) (hr : w.heap[r]? = some (mapO kk es c)) (hb : w.heap[b]? = some (.mapIter (some r) c ((done ++ [e]).map (·.born)).toArray c))
    (hn : (es.map (·.born)).Nodup) (he : e ∈ es) : Ev P s (.entry x) ty w (.tuple [.int kk e.key, e.val].toArray) w := fun ρ d' pos af g hρ => by
  have e1 := hρ x _ hx
  have e3 := run_getObj_map (P := P) (es := (es.map (meV kk)).toArray) (c := c) hr
  have e4 : (getObj b).run P w = .ok (.mapIter (some r) c ((done ++ [e]).map (·.born)).toArray c) w := by simp [getObj, Sem.run, hb]
  have e5 : ((es.map (meV kk)).toArray.find? fun x => x.born == e.born) = some (meV kk e) := by
    rw [List.find?_toArray, List.find?_map]
    have : es.find? ((fun x : MapEntry => x.born == e.born) ∘ meV kk) = some e := by
      clear e3 e4 hr hb
      induction es with
      | nil => cases he
      | cons a l ih =>
        simp only [List.map_cons, List.nodup_cons] at hn
        by_cases ha : a.born = e.born
        · rcases List.mem_cons.1 he with h | h
          · subst h; simp [meV]
          · exact absurd (ha ▸ List.mem_map_of_mem (f := (·.born)) h) hn.1
        · rcases List.mem_cons.1 he with h | h
          · subst h; exact absurd rfl ha
          · simp [meV, ha]
            have := ih hn.2 h
            simpa [Function.comp, meV] using this
    rw [this]; rfl
  simp only [execOp, e1, Instr.entry, Sem.run_bind, e4, Result.andThen]
  have e6 : ((done ++ [e]).map (·.born)).toArray.back? = some e.born := by simp
  simp [e3, e5, meV]
end
end Go.Proofs.Ytjlmenmlpmfokaa.Sx
