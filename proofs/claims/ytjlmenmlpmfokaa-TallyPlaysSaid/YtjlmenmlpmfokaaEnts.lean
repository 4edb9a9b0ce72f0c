/- Package tally's Entries: the sorted counts in new memory. No condition. -/
import Derived.Test.YtjlmenmlpmfokaaSort
namespace Go.Proofs.Ytjlmenmlpmfokaa
open Go Sx Fl Ty
set_option linter.unusedVariables false
set_option linter.unusedSimpArgs false

theorem length_le_tot {l : KV} (h : ∀ p ∈ l, 0 < p.2) : l.length ≤ tot l := by
  induction l with
  | nil => simp
  | cons p l ih =>
    have h1 := h p (by simp)
    have h2 := ih fun q hq => h q (List.mem_cons_of_mem _ hq)
    rw [tot_cons]; simp; omega
theorem key_place {j : Bool} {a b : Nat} (ha : KeyOK j a) (hb : KeyOK j b) (hne : a ≠ b) (h : key a ≤ key b) : place a < place b := by
  have ca : isNaN a = true → a = 9221120237041090560 := fun e => by have := ha.2; rw [cval_nan e] at this; exact this.symm
  have cb : isNaN b = true → b = 9221120237041090560 := fun e => by have := hb.2; rw [cval_nan e] at this; exact this.symm
  have ha1 := ha.1
  have hb1 := hb.1
  have na : isNaN a = false → a % 9223372036854775808 ≤ 9218868437227405312 := fun e => by simpa [isNaN] using e
  have nb : isNaN b = false → b % 9223372036854775808 ≤ 9218868437227405312 := fun e => by simpa [isNaN] using e
  unfold key at h
  unfold place canon
  by_cases x : isNaN a = true
  · have := ca x; subst this
    by_cases y : isNaN b = true
    · exact absurd (cb y).symm hne
    · have y' : isNaN b = false := by simpa using y
      have := nb y'
      rw [if_pos x, if_neg y] at h
      exfalso
      split at h <;> omega
  · have x' : isNaN a = false := by simpa using x
    have h1 := na x'
    by_cases y : isNaN b = true
    · have := cb y; subst this
      rw [if_neg x, if_pos y]
      split <;> split <;> omega
    · have y' : isNaN b = false := by simpa using y
      have h2 := nb y'
      rw [if_neg x, if_neg y] at h
      rw [if_neg x, if_neg y]
      by_cases c1 : 9223372036854775808 ≤ a <;> by_cases c2 : 9223372036854775808 ≤ b <;> simp only [c1, c2, if_true, if_false] at h ⊢ <;> omega
theorem srt_of_keys {j : Bool} {l : KV} (hk : ∀ p ∈ l, KeyOK j p.1) (hn : (keys l).Nodup) (h : l.Pairwise fun p q => key p.1 ≤ key q.1) : Srt l := by
  induction l with
  | nil => exact List.Pairwise.nil
  | cons p l ih =>
    rw [List.pairwise_cons] at h
    simp only [keys, List.map_cons, List.nodup_cons] at hn
    refine List.pairwise_cons.2 ⟨fun q hq => key_place (hk p (by simp)) (hk q (List.mem_cons_of_mem _ hq)) (fun e => hn.1 (e ▸ List.mem_map_of_mem (f := (·.1)) hq)) (h.1 q hq), ih (fun q hq => hk q (List.mem_cons_of_mem _ hq)) hn.2 h.2⟩

theorem perm_map_toME {left : T3} {e : ME} {l : List ME} (h : (left.map toME).Perm (e :: l)) : ∃ a left', left.Perm (a :: left') ∧ toME a = e := by
  have he : e ∈ left.map toME := h.mem_iff.2 (List.mem_cons_self ..)
  obtain ⟨a, ha, rfl⟩ := List.mem_map.1 he
  obtain ⟨l1, l2, rfl⟩ := List.append_of_mem ha
  exact ⟨a, l1 ++ l2, List.perm_middle, rfl⟩
theorem born_map (t : T3) : (t.map toME).map (·.born) = t.map (·.2.2) := by simp [toME]
theorem WL.next3 {P : Program} {n : Nat} {D : List Deferred} {s : Sl} {w : World} {ty : TypeId} {x : Operand} {ops : Array Oper} {K : KK} {rest : List Oper} {pos : String} {af : Array Edge} {d b r c : Nat} {t done left : T3}
    (hx : opnd s x = some (.pointer (some ⟨b, 0, none⟩))) (hr : w.heap[r]? = some (mapO .u64 (t.map toME) c)) (hb : w.heap[b]? = some (.mapIter (some r) c ((done.map toME).map (·.born)).toArray c))
    (hp : (done ++ left).Perm t) (hg : G3 t c) (hd : Nat.blt d n = true)
    (k0 : left = [] → WL P ops K rest n D ((d, .tuple [.bool false].toArray) :: s) w)
    (k1 : ∀ e left' w', left.Perm (e :: left') → Upd w b (.mapIter (some r) c (((done ++ [e]).map toME).map (·.born)).toArray c) w' → WL P ops K rest n D ((d, .tuple [.bool true, .int .u64 (e.1 : Int), .int .i64 (e.2.1 : Int)].toArray) :: s) w') :
    WL P ops K (⟨some d, .next x false, ty, pos, af, none⟩ :: rest) n D s w := by
  refine WL.next (kk := .u64) (done := done.map toME) (left := left.map toME) hx hr hb (by rw [← List.map_append]; exact hp.map _) (by rw [born_map]; exact hg.born) ?_ hd ?_ ?_
  · intro e he
    obtain ⟨a, ha, rfl⟩ := List.mem_map.1 he
    exact hg.clock a ha
  · intro h; exact k0 (by simpa using h)
  · intro e l w' hpe hu
    obtain ⟨a, left', hpa, rfl⟩ := perm_map_toME hpe
    exact k1 a left' w' hpa (by simpa using hu)

structure EInv (w : World) (r it c : Nat) (t : T3) (g : T3 × T3 × Value) (wr : World) : Prop where
  perm : (g.1 ++ g.2.1).Perm t
  own : wr.ownsRow 0 50 2 g.2.2 g.1.length (flatE (kv g.1))
  map : wr.heap[r]? = some (mapO .u64 (t.map toME) c)
  iter : wr.heap[it]? = some (.mapIter (some r) c ((g.1.map toME).map (·.born)).toArray c)
  chg : Chg [] w wr
  loc : ∀ x, g.2.2.ownBlock = some x → w.heap.size ≤ x ∧ x ≠ it
  ge : w.heap.size ≤ it

theorem einv_end {w wr w1 w2 w3 : World} {r it c nb : Nat} {t done left left' : T3} {e : Nat × Nat × Nat} {v v' : Value} (hi : EInv w r it c t (done, left, v) wr) (hr : r < w.heap.size)
    (hp : left.Perm (e :: left')) (u : Upd wr it (.mapIter (some r) c (((done ++ [e]).map toME).map (·.born)).toArray c) w1) (n1 : New w1 nb (.cells [Value.float .f64 e.1, .int .i64 (e.2.1 : Int)].toArray 50) w2)
    (ho : w3.ownsRow 0 50 2 v' (done.length + 1) (flatE (kv done) ++ [.float .f64 e.1, .int .i64 (e.2.1 : Int)])) (hc : Chg v.ownBlock.toList w2 w3) (hl : v'.ownBlock = v.ownBlock ∨ v'.ownBlock = some w2.heap.size) :
    EInv w r it c t (done ++ [e], left', v') w3 := by
  have hge := hi.ge
  have hit := lt_of_heap hi.iter
  have hnb := n1.is
  have hs1 := u.size
  have hs2 := n1.size
  have nT : ∀ x, x ∈ v.ownBlock.toList → w.heap.size ≤ x ∧ x ≠ it := fun x hx => hi.loc x (by simpa using hx)
  have c1 : Chg [] w w3 := by
    refine ⟨hc.os.trans (n1.chg.os.trans (u.chg.os.trans hi.chg.os)), hc.tape.trans (n1.chg.tape.trans (u.chg.tape.trans hi.chg.tape)), hc.output.trans (n1.chg.output.trans (u.chg.output.trans hi.chg.output)), ?_, fun k hk _ => ?_⟩
    · exact Nat.le_trans hi.chg.size (Nat.le_trans u.chg.size (Nat.le_trans n1.chg.size hc.size))
    · have h1 := hi.chg.size
      rw [hc.block k (by omega) (fun hm => by have := (nT k hm).1; omega), n1.chg.block k (by omega) (by simp), u.chg.block k (by omega) (by simp; omega), hi.chg.block k hk (by simp)]
  refine ⟨?_, ?_, ?_, ?_, c1, ?_, hge⟩
  · refine List.Perm.trans ?_ hi.perm
    simp only [List.append_assoc, List.cons_append, List.nil_append]
    exact List.Perm.append_left _ hp.symm
  · have e1 : flatE (kv (done ++ [e])) = flatE (kv done) ++ [.float .f64 e.1, .int .i64 (e.2.1 : Int)] := by rw [kv_append, flatE_append]; rfl
    show w3.ownsRow 0 _ 2 v' (done ++ [e]).length (flatE (kv (done ++ [e])))
    rw [e1, List.length_append]
    exact ho
  · exact c1.heap (by have := hi.map; rw [hi.chg.block r hr (by simp)] at this; exact this) (by simp)
  · exact hc.heap (n1.heap u.at_) (fun hm => (nT it hm).2 rfl)
  · intro x hx
    rcases hl with hl | hl
    · exact hi.loc x (by rw [← hl]; exact hx)
    · rw [hl] at hx
      injection hx with hx
      have h1 := hi.chg.size
      exact ⟨by omega, by omega⟩

theorem tally_Tally_Entries_spec (b r : Nat) (j : Bool) (a : Value) (t : T3) (c : Nat) (w : World) (h : TallyQ w b r j a t c) : Ret Try.prog 13 [.pointer (some ⟨b, 0, none⟩)] w fun v w' => ∃ l : KV, Srt l ∧ l.Perm (kv t) ∧ w'.ownsRow 0 50 2 v l.length (flatE l) ∧ Chg [] w w' ∧ ∀ x, v.ownBlock = some x → w.heap.size ≤ x := by
  have c2 : w.cell? ⟨b, 2, none⟩ = some (.map (some r)) := by rw [cell_at h.cell]; rfl
  have hs := h.small
  have hlen := length_le_tot h.g.wf.pos
  have hlk : (kv t).length = t.length := by simp [kv]
  have hr := lt_of_heap h.map
  have hbl := lt_of_heap h.cell
  refine Ret.enter Try.func13 rfl rfl ?_
  refine CW.seq fun kK1 kh1 => ?_
  refine CW.region fun kR2 kr2 => ?_  -- region 0
  refine WL.ev (Ev.assign rfl) rfl ?_
  refine WL.nil (kr2 _ _ _ ?_)
  refine kh1 _ _ _ ?_
  refine CW.seq fun kK3 kh3 => ?_
  refine CW.region fun kR4 kr4 => ?_  -- region 1
  refine WL.ev (Ev.move rfl) rfl ?_
  refine WL.ev (Ev.nilPtr rfl) rfl ?_
  refine WL.ev (Ev.fieldAddr rfl) rfl ?_
  refine WL.ev (Ev.load rfl rfl (c2)) rfl ?_
  refine WL.ev (Ev.lenMap rfl h.map) rfl ?_
  rw [show ((t.map toME).map (meV .u64)).toArray.size = t.length by simp]
  refine WL.makeOwn rfl rfl (by omega) (by unfold maxLen; omega) rfl fun bo w2 ho2 hc2 hge2 hlt2 => ?_
  refine WL.ev (Ev.assign rfl) rfl ?_
  refine WL.nil (kr4 _ _ _ ?_)
  refine kh3 _ _ _ ?_
  refine CW.seq fun kK5 kh5 => ?_
  refine CW.seq fun kK6 kh6 => ?_
  refine CW.region fun kR7 kr7 => ?_  -- region 2
  refine WL.ev (Ev.move rfl) rfl ?_
  refine WL.ev (Ev.nilPtr rfl) rfl ?_
  refine WL.ev (Ev.fieldAddr rfl) rfl ?_
  refine WL.ev (Ev.load rfl rfl (hc2.cell c2 (by simp))) rfl ?_
  refine WL.range (kk := .u64) rfl (hc2.heap h.map (by simp)) rfl fun it w3 n16 => ?_
  refine WL.nil (kr7 _ _ _ ?_)
  refine kh6 _ _ _ ?_
  refine CW.block ?_
  refine CW.loop (S := fun g : T3 × T3 × Value => [(0, .pointer (some ⟨b, 0, none⟩)), (16, .pointer (some ⟨it, 0, none⟩)), (3, g.2.2)]) (Inv := EInv w r it c t) (mu := fun g => g.2.1.length) (([], t, .slice (some ⟨bo, 0, none⟩) 0 t.length)) ?_ ?_ ?_
  ·
    exact ⟨List.Perm.refl _, own_keep ho2 n16.chg (fun _ _ hm => by cases hm), n16.heap (hc2.heap h.map (by simp)), n16.at_, hc2.trans n16.chg, (fun x hx => by have hx : some bo = some x := hx; injection hx with hx; subst hx; exact ⟨hge2, by have := n16.ge; omega⟩), by have := n16.ge; have := hc2.size; omega⟩
  ·
    repeat (first | exact Subs.nil | refine Subs.cons rfl ?_)
  ·
    rintro ⟨done, left, v⟩ wr hi
    refine CW.seq fun kK8 kh8 => ?_
    refine CW.region fun kR9 kr9 => ?_  -- region 3
    refine WL.next3 rfl hi.map hi.iter hi.perm h.g rfl (fun hnil => ?_) (fun e left' w4 hp ux => ?_)
    ·
      subst hnil
      have hperm : done.Perm t := by simpa using hi.perm
      refine WL.ev (Ev.extract rfl rfl) rfl ?_
      refine WL.nil (kr9 _ _ _ ?_)
      refine kh8 _ _ _ ?_
      refine CW.seq fun kK10 kh10 => ?_
      refine CW.condF rfl ?_
      refine CW.exit ?_  -- exit 0
      refine kh5 _ _ _ ?_
      refine CW.seq fun kK11 kh11 => ?_
      have hpk : (kv done).Perm (kv t) := hperm.map _
      have hkl : (kv done).length = done.length := by simp [kv]
      refine CW.region fun kR12 kr12 => ?_  -- region 6
      refine WL.ev (Ev.move rfl) rfl ?_
      refine WL.call hasF35 rfl rfl (sortE_any _ v (kv done) (fun p hp => (h.ok p (hpk.mem_iff.1 hp)).1) (by have := hperm.length_eq; rw [hkl]; omega) (by rw [hkl]; exact hi.own)) fun u w1 hh => ?_
      obtain ⟨l, hlp, hls, hcs, hos⟩ := hh
      refine WL.nil (kr12 _ _ _ ?_)
      refine kh11 _ _ _ ?_
      refine CW.seq fun kK13 kh13 => ?_
      refine CW.region fun kR14 kr14 => ?_  -- region 7
      refine WL.ev (Ev.move rfl) rfl ?_
      refine WL.ev (Ev.assign rfl) rfl ?_
      refine WL.nil (kr14 _ _ _ ?_)
      refine kh13 _ _ _ ?_
      refine CW.ret ?_
      refine bodyA.ret1 rfl rfl ?_
      have hpt := hlp.trans hpk
      refine ⟨l, srt_of_keys (fun p hp => h.ok p (hpt.mem_iff.1 hp)) ((hpt.map Prod.fst).nodup_iff.2 h.g.wf.nodup) hls, hpt, by rw [hlp.length_eq]; exact hos, ?_, fun x hx => (hi.loc x hx).1⟩
      refine ⟨hcs.os.trans hi.chg.os, hcs.tape.trans hi.chg.tape, hcs.output.trans hi.chg.output, Nat.le_trans hi.chg.size hcs.size, fun k hk _ => ?_⟩
      rw [hcs.block k (Nat.lt_of_lt_of_le hk hi.chg.size) (fun hm => by have := (hi.loc k (by simpa using hm)).1; omega), hi.chg.block k hk (by simp)]
    ·
      have hm4 := ux.heap hi.map (fun e => by have := lt_of_heap hi.iter; have := hi.ge; omega)
      refine WL.ev (Ev.extract rfl rfl) rfl ?_
      refine WL.nil (kr9 _ _ _ ?_)
      refine kh8 _ _ _ ?_
      refine CW.seq fun kK15 kh15 => ?_
      refine CW.condT rfl ?_
      refine CW.skip ?_
      refine kh15 _ _ _ ?_
      refine CW.block ?_
      refine CW.seq fun kK16 kh16 => ?_
      refine CW.region fun kR17 kr17 => ?_  -- region 4
      refine WL.ev (Ev.entry (kk := .u64) (es := t.map toME) (done := done.map toME) (e := toME e) rfl hm4 (by rw [ux.at_]; simp) (by rw [born_map]; exact h.g.born) (List.mem_map_of_mem (hi.perm.mem_iff.1 (List.mem_append_right _ (hp.mem_iff.2 (List.mem_cons_self ..)))))) rfl ?_
      refine WL.ev (Ev.extract rfl rfl) rfl ?_
      refine WL.ev (Ev.extract rfl rfl) rfl ?_
      refine WL.ev (Ev.assign rfl) rfl ?_
      refine WL.ev (Ev.assign rfl) rfl ?_
      refine WL.nil (kr17 _ _ _ ?_)
      refine kh16 _ _ _ ?_
      refine CW.region fun kR18 kr18 => ?_  -- region 5
      refine WL.ev (Ev.move rfl) rfl ?_
      refine WL.ev (Ev.move rfl) rfl ?_
      refine WL.ev (Ev.ext rfl (ext34 _ _)) rfl ?_
      refine WL.ev (Ev.move rfl) rfl ?_
      refine WL.ev (Ev.build (cs := [.float .f64 e.1, .int .i64 (e.2.1 : Int)]) rfl rfl) rfl ?_
      refine WL.buildSlice (cs := [.float .f64 e.1, .int .i64 (e.2.1 : Int)]) (by decide) (by decide) rfl (by kernel_rfl) rfl fun nb w5 n27 => ?_
      have hdl : done.length < t.length := by have := (hi.perm.length_eq); have := hp.length_eq; simp at *; omega
      have hown5 := own_keep (own_keep hi.own ux.chg (fun x hx hm => (hi.loc x hx).2 (by simpa using hm))) n27.chg (fun _ _ hm => by cases hm)
      refine WL.append (m := done.length) (news := [.float .f64 e.1, .int .i64 (e.2.1 : Int)]) (by rfl) (by decide) rfl rfl hown5 rfl (fun i u hu => by rw [add_addr, Nat.zero_add, cell_at n27.at_]; exact hu) (flatE_one [(e.1, e.2.1)]) (by unfold maxLen; omega) (by omega) rfl fun v' w6 ho hc hl => ?_
      refine WL.ev (Ev.assign rfl) rfl ?_
      refine WL.nil (kr18 _ _ _ ?_)
      refine ⟨rfl, (done ++ [e], left', v'), ?_, ?_, ?_⟩
      ·
        repeat (first | exact Subs.nil | refine Subs.cons rfl ?_)
      ·
        exact einv_end hi hr hp ux n27 ho hc hl
      ·
        have := hp.length_eq; simp at this; simp; omega

end Go.Proofs.Ytjlmenmlpmfokaa
