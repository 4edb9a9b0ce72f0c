/- Package tally's Merge: with another one, with itself. No condition. -/
import Derived.Test.YtjlmenmlpmfokaaEnts
namespace Go.Proofs.Ytjlmenmlpmfokaa
open Go Sx Fl Ty
set_option linter.unusedVariables false
set_option linter.unusedSimpArgs false

/-- How much a list adds at a key. -/
def msum (j : Bool) (l : KV) (k : Nat) : Nat := (l.map fun p => if cval j p.1 = k then p.2 else 0).sum
theorem msum_nil (j : Bool) (k : Nat) : msum j [] k = 0 := rfl
theorem msum_append (j : Bool) (a b : KV) (k : Nat) : msum j (a ++ b) k = msum j a k + msum j b k := by simp [msum]
theorem msum_one (j : Bool) (p : Nat × Nat) (k : Nat) : msum j [p] k = if cval j p.1 = k then p.2 else 0 := by simp [msum]
theorem msum_perm {j : Bool} {a b : KV} (h : a.Perm b) (k : Nat) : msum j a k = msum j b k := (h.map _).sum_nat

structure MInv (w : World) (b r r2 it : Nat) (j : Bool) (t t2 : T3) (c2 : Nat) (g : T3 × T3 × T3 × Nat) (wr : World) : Prop where
  perm : (g.1 ++ g.2.1).Perm t2
  cell : wr.heap[b]? = some (.cells [.bool j, .int .i64 ((tot (kv t) : Int) + (tot (kv t2) : Int)), .map (some r)].toArray 64 (0, 0))
  map : wr.heap[r]? = some (mapO .u64 (g.2.2.1.map toME) g.2.2.2)
  map2 : wr.heap[r2]? = some (mapO .u64 (t2.map toME) c2)
  iter : wr.heap[it]? = some (.mapIter (some r2) c2 ((g.1.map toME).map (·.born)).toArray c2)
  g3 : G3 g.2.2.1 g.2.2.2
  ok : ∀ p ∈ kv g.2.2.1, KeyOK j p.1
  cnt : ∀ k, Ty.cnt (kv g.2.2.1) k = Ty.cnt (kv t) k + msum j (kv g.1) k
  tot : tot (kv g.2.2.1) = tot (kv t) + tot (kv g.1)
  chg : Chg [b, r] w wr
  ge : w.heap.size ≤ it

theorem minv_step {w wr w1 w2 : World} {b r r2 it : Nat} {j : Bool} {t t2 : T3} {c2 : Nat} {done left left' ti : T3} {ci : Nat} {e : Nat × Nat × Nat} (hi : MInv w b r r2 it j t t2 c2 (done, left, ti, ci) wr)
    (hb : b < w.heap.size) (hr : r < w.heap.size) (hr2 : r2 < w.heap.size) (hbr : b ≠ r) (hrr : r ≠ r2) (he : e.1 < 18446744073709551616) (hpos : 0 < e.2.1)
    (hp : left.Perm (e :: left')) (u : Upd wr it (.mapIter (some r2) c2 (((done ++ [e]).map toME).map (·.born)).toArray c2) w1)
    (u2 : Upd w1.drew r (mapO .u64 (mput (ti.map toME) (cval j e.1 : Nat) (.int .i64 ((Ty.cnt (kv ti) (cval j e.1) : Int) + (e.2.1 : Int))) ci) (mclock (ti.map toME) (cval j e.1 : Nat) ci)) w2) :
    MInv w b r r2 it j t t2 c2 (done ++ [e], left', put3 ti (cval j e.1) (Ty.cnt (kv ti) (cval j e.1) + e.2.1) ci, clk3 ti (cval j e.1) ci) w2 := by
  have hge := hi.ge
  have e1 := mput3 ti (cval j e.1) (Ty.cnt (kv ti) (cval j e.1) + e.2.1) ci
  have e2 := mclock3 ti (cval j e.1) ci
  have et := put3_tot ti (cval j e.1) (Ty.cnt (kv ti) (cval j e.1) + e.2.1) ci
  have hib : it ≠ b := by omega
  have hir : it ≠ r := by omega
  have hir2 : it ≠ r2 := by omega
  have hk : kv (done ++ [e]) = kv done ++ [(e.1, e.2.1)] := by rw [kv_append]; rfl
  refine ⟨?_, ?_, ?_, ?_, ?_, put3_G hi.g3 _ (by omega), put3_ok hi.ok (cval_ok he), ?_, ?_, ?_, hge⟩
  · refine List.Perm.trans ?_ hi.perm
    simp only [List.append_assoc, List.cons_append, List.nil_append]
    exact List.Perm.append_left _ hp.symm
  · exact u2.heap (k := b) (u.heap hi.cell hib.symm) hbr
  · rw [u2.at_, ← e1, ← e2]; rfl
  · exact u2.heap (k := r2) (u.heap hi.map2 hir2.symm) hrr.symm
  · exact u2.heap (k := it) u.at_ hir
  · intro k
    show Ty.cnt (kv (put3 ti _ _ ci)) k = _ + msum j (kv (done ++ [e])) k
    rw [put3_cnt, hk, msum_append, msum_one]
    have := hi.cnt k
    have h2 := hi.cnt (cval j e.1)
    simp only at this h2
    by_cases hkk : k = cval j e.1
    · subst hkk; rw [if_pos rfl, if_pos rfl]; omega
    · rw [if_neg hkk, if_neg (fun x => hkk x.symm)]; omega
  · show tot (kv (put3 ti _ _ ci)) = _ + tot (kv (done ++ [e]))
    have := hi.tot
    simp only at this
    rw [hk, tot_append]
    have h3 : tot [(e.1, e.2.1)] = e.2.1 := by simp [tot]
    omega
  · have hc := hi.chg
    refine ⟨u2.chg.os.trans (u.chg.os.trans hc.os), u2.chg.tape.trans (u.chg.tape.trans hc.tape), u2.chg.output.trans (u.chg.output.trans hc.output), ?_, fun k hk hn => ?_⟩
    · exact Nat.le_trans hc.size (Nat.le_trans u.chg.size u2.chg.size)
    · have h1 := hc.size
      simp only [List.mem_cons, List.not_mem_nil, or_false, not_or] at hn
      have a1 : w2.heap[k]? = w1.heap[k]? := u2.chg.block k (Nat.lt_of_lt_of_le (by omega) u.chg.size) (by simp [hn.2])
      rw [a1, u.chg.block k (by omega) (by simp; omega), hc.block k hk (by simp [hn.1, hn.2])]

theorem Merge_other (b r b2 r2 : Nat) (j j2 : Bool) (t t2 : T3) (c c2 : Nat) (w : World) (h : TallyP w b r j t c) (h2 : TallyP w b2 r2 j2 t2 c2) (hb : b ≠ b2) (hr : r ≠ r2) (hx1 : b ≠ r2) (hx2 : r ≠ b2) : Ret Try.prog 11 [.pointer (some ⟨b, 0, none⟩), .pointer (some ⟨b2, 0, none⟩)] w fun v w' => (1099511627776 < tot (kv t) + tot (kv t2) ∧ v = .int .i64 2 ∧ Chg [] w w') ∨ (tot (kv t) + tot (kv t2) ≤ 1099511627776 ∧ v = .int .i64 0 ∧ Chg [b, r] w w' ∧ ∃ t' c', TallyP w' b r j t' c' ∧ (∀ k, cnt (kv t') k = cnt (kv t) k + msum j (kv t2) k) ∧ tot (kv t') = tot (kv t) + tot (kv t2)) := by
  have c1 : w.cell? ⟨b, 1, none⟩ = some (.int .i64 (tot (kv t) : Int)) := by rw [cell_at h.cell]; rfl
  have d1 : w.cell? ⟨b2, 1, none⟩ = some (.int .i64 (tot (kv t2) : Int)) := by rw [cell_at h2.cell]; rfl
  have hs := h.small
  have hs2 := h2.small
  have lb := lt_of_heap h.cell
  have lr := lt_of_heap h.map
  have lr2 := lt_of_heap h2.map
  refine Ret.enter Try.func11 rfl rfl ?_
  refine CW.seq fun kK1 kh1 => ?_
  refine CW.region fun kR2 kr2 => ?_  -- region 0
  refine WL.ev (Ev.assign rfl) rfl ?_
  refine WL.nil (kr2 _ _ _ ?_)
  refine kh1 _ _ _ ?_
  refine CW.seq fun kK3 kh3 => ?_
  refine CW.seq fun kK4 kh4 => ?_
  refine CW.regionS hmix (by kernel_rfl) fun kR5 kr5 => ?_  -- region 1
  refine WS.ev (Ev.move rfl) rfl ?_
  refine WS.ev (Ev.nilPtr rfl) rfl ?_
  refine WS.ev (Ev.fieldAddr rfl) rfl ?_
  refine WS.ev (Ev.load rfl rfl (c1)) rfl ?_
  refine WS.ev (Ev.move rfl) rfl ?_
  refine WS.ev (Ev.nilPtr rfl) rfl ?_
  refine WS.ev (Ev.fieldAddr rfl) rfl ?_
  refine WS.ev (Ev.load rfl rfl (d1)) rfl ?_
  first | refine WS.ev (Ev.addIn rfl rfl (by omega)) rfl ?_ | refine WS.ev (Ev.add rfl rfl) rfl ?_
  refine WS.ev (Ev.gtr rfl rfl) rfl ?_
  refine WS.nil (kr5 _ _ ?_)
  refine kh4 _ _ _ ?_
  refine CW.cond rfl (fun hc1 => ?_) (fun hc1 => ?_)  -- if 18
  ·
    simp only [decide_eq_true_eq, decide_eq_false_iff_not, Decidable.not_not, Bool.and_eq_true, Bool.or_eq_true, Bool.not_eq_true', ne_eq, Int.not_lt, Int.not_le] at hc1
    refine CW.seq fun kK6 kh6 => ?_
    refine CW.region fun kR7 kr7 => ?_  -- region 2
    refine WL.ev (Ev.assign rfl) rfl ?_
    refine WL.nil (kr7 _ _ _ ?_)
    refine kh6 _ _ _ ?_
    refine CW.ret ?_
    refine bodyA.ret1 rfl rfl ?_
    exact .inl ⟨by omega, rfl, Chg.drew _ w⟩
  ·
    simp only [decide_eq_true_eq, decide_eq_false_iff_not, Decidable.not_not, Bool.and_eq_true, Bool.or_eq_true, Bool.not_eq_true', ne_eq, Int.not_lt, Int.not_le] at hc1
    refine CW.skip ?_
    refine kh3 _ _ _ ?_
    refine CW.seq fun kK8 kh8 => ?_
    refine CW.regionT 11 hmix (by kernel_rfl) fun kR9 kr9 => ?_  -- region 3
    refine WS.ev (Ev.move rfl) rfl ?_
    refine WS.ev (Ev.nilPtr rfl) rfl ?_
    refine WS.ev (Ev.fieldAddr rfl) rfl ?_
    refine WS.ev (Ev.load rfl rfl (c1)) rfl ?_
    refine WS.ev (Ev.move rfl) rfl ?_
    refine WS.ev (Ev.nilPtr rfl) rfl ?_
    refine WS.ev (Ev.fieldAddr rfl) rfl ?_
    refine WS.ev (Ev.load rfl rfl (d1)) rfl ?_
    first | refine WS.ev (Ev.addIn rfl rfl (by omega)) rfl ?_ | refine WS.ev (Ev.add rfl rfl) rfl ?_
    refine WS.ev (Ev.nilPtr rfl) rfl ?_
    refine WS.ev (Ev.fieldAddr rfl) rfl ?_
    refine WS.nil ?_
    refine WL.store rfl rfl rfl h.cell (by simp) fun w1 u1 => ?_
    have e2 : w1.heap[b2]? = _ := u1.heap (k := b2) h2.cell hb.symm
    have ed2 : w1.cell? ⟨b2, 2, none⟩ = some (.map (some r2)) := by rw [cell_at e2]; rfl
    refine WL.nil (kr9 _ _ _ ?_)
    refine kh8 _ _ _ ?_
    refine CW.seq fun kK10 kh10 => ?_
    refine CW.seq fun kK11 kh11 => ?_
    refine CW.region fun kR12 kr12 => ?_  -- region 4
    refine WL.ev (Ev.move rfl) rfl ?_
    refine WL.ev (Ev.move rfl) rfl ?_
    refine WL.ev (Ev.eqlPtrF (by decide) rfl rfl hb u1.at_ e2) rfl ?_
    refine WL.nil (kr12 _ _ _ ?_)
    refine kh11 _ _ _ ?_
    refine CW.condF rfl ?_
    refine CW.skip ?_
    refine kh10 _ _ _ ?_
    refine CW.seq fun kK13 kh13 => ?_
    refine CW.seq fun kK14 kh14 => ?_
    refine CW.region fun kR15 kr15 => ?_  -- region 11
    refine WL.ev (Ev.move rfl) rfl ?_
    refine WL.ev (Ev.nilPtr rfl) rfl ?_
    refine WL.ev (Ev.fieldAddr rfl) rfl ?_
    refine WL.ev (Ev.load rfl rfl (ed2)) rfl ?_
    refine WL.range (kk := .u64) rfl (u1.heap (k := r2) h2.map hx1.symm) rfl fun it w2 n55 => ?_
    refine WL.nil (kr15 _ _ _ ?_)
    refine kh14 _ _ _ ?_
    refine CW.block ?_
    refine CW.loop (S := fun g : T3 × T3 × T3 × Nat => [(0, .pointer (some ⟨b, 0, none⟩)), (55, .pointer (some ⟨it, 0, none⟩))]) (Inv := MInv w b r r2 it j t t2 c2) (mu := fun g => g.2.1.length) (([], t2, t, c)) ?_ ?_ ?_
    ·
      exact ⟨List.Perm.refl _, n55.heap u1.at_, n55.heap (u1.heap h.map h.ne.symm), n55.heap (u1.heap h2.map hx1.symm), n55.at_, h.g, h.ok, fun k => by simp [kv_nil, msum_nil], by simp [kv_nil, tot], ((Chg.drew _ w).trans ((Chg.drew _ w.drew).trans ((u1.chg.mono (by simp)).trans n55.chg.any))), by have := n55.ge; have := u1.size; exact Nat.le_trans (Nat.le_of_eq this.symm) n55.ge⟩
    ·
      repeat (first | exact Subs.nil | refine Subs.cons rfl ?_)
    ·
      rintro ⟨done, left, ti, ci⟩ wr hi
      refine CW.seq fun kK16 kh16 => ?_
      refine CW.region fun kR17 kr17 => ?_  -- region 12
      refine WL.next3 rfl hi.map2 hi.iter hi.perm h2.g rfl (fun hnil => ?_) (fun e left' w4 hp ux => ?_)
      ·
        subst hnil
        have hperm : done.Perm t2 := by simpa using hi.perm
        refine WL.ev (Ev.extract rfl rfl) rfl ?_
        refine WL.nil (kr17 _ _ _ ?_)
        refine kh16 _ _ _ ?_
        refine CW.seq fun kK18 kh18 => ?_
        refine CW.condF rfl ?_
        refine CW.exit ?_  -- exit 2
        refine kh13 _ _ _ ?_
        refine CW.seq fun kK19 kh19 => ?_
        refine CW.region fun kR20 kr20 => ?_  -- region 15
        refine WL.ev (Ev.assign rfl) rfl ?_
        refine WL.nil (kr20 _ _ _ ?_)
        refine kh19 _ _ _ ?_
        refine CW.ret ?_
        refine bodyA.ret1 rfl rfl ?_
        have hpk : (kv done).Perm (kv t2) := hperm.map _
        have htd := tot_perm hpk
        have htt := hi.tot
        simp only at htt
        refine .inr ⟨by omega, rfl, hi.chg, ti, ci, ⟨?_, hi.map, h.ne, hi.g3, hi.ok, by omega⟩, fun k => by rw [hi.cnt k, msum_perm hpk], by omega⟩
        rw [hi.cell, htt, htd]; rfl
      ·
        have hge := hi.ge
        have hm2 := ux.heap hi.map2 (by omega)
        have hm4 : w4.heap[r]? = some (mapO .u64 (ti.map toME) ci) := ux.heap hi.map (by omega)
        have hcl := ux.heap hi.cell (by omega)
        have k0 : w4.cell? ⟨b, 0, none⟩ = some (.bool j) := by rw [cell_at hcl]; rfl
        have k2 : w4.cell? ⟨b, 2, none⟩ = some (.map (some r)) := by rw [cell_at hcl]; rfl
        have he2 : e ∈ t2 := hi.perm.mem_iff.1 (List.mem_append_right _ (hp.mem_iff.2 (List.mem_cons_self ..)))
        have hmem : (e.1, e.2.1) ∈ kv t2 := List.mem_map_of_mem (f := fun e => (e.1, e.2.1)) he2
        have hle := cnt_le_tot (kv ti) (cval j e.1)
        have htt := hi.tot
        have hdt : tot (kv done) ≤ tot (kv t2) := by have := tot_perm (hi.perm.map (fun e => (e.1, e.2.1))); rw [List.map_append] at this; have h3 := tot_append (kv done) (kv left); simp only [kv] at *; omega
        have hel := le_tot hmem
        simp only at htt hel
        refine WL.ev (Ev.extract rfl rfl) rfl ?_
        refine WL.nil (kr17 _ _ _ ?_)
        refine kh16 _ _ _ ?_
        refine CW.seq fun kK21 kh21 => ?_
        refine CW.condT rfl ?_
        refine CW.skip ?_
        refine kh21 _ _ _ ?_
        refine CW.block ?_
        refine CW.seq fun kK22 kh22 => ?_
        refine CW.region fun kR23 kr23 => ?_  -- region 13
        refine WL.ev (Ev.entry (kk := .u64) (es := t2.map toME) (done := done.map toME) (e := toME e) rfl hm2 (by rw [ux.at_]; simp) (by rw [born_map]; exact h2.g.born) (List.mem_map_of_mem he2)) rfl ?_
        refine WL.ev (Ev.extract rfl rfl) rfl ?_
        refine WL.ev (Ev.extract rfl rfl) rfl ?_
        refine WL.ev (Ev.assign rfl) rfl ?_
        refine WL.ev (Ev.assign rfl) rfl ?_
        refine WL.nil (kr23 _ _ _ ?_)
        refine kh22 _ _ _ ?_
        refine CW.regionT 11 hmix (by kernel_rfl) fun kR24 kr24 => ?_  -- region 14
        refine WS.ev (Ev.move rfl) rfl ?_
        refine WS.ev (Ev.nilPtr rfl) rfl ?_
        refine WS.ev (Ev.fieldAddr rfl) rfl ?_
        refine WS.ev (Ev.load rfl rfl (k2)) rfl ?_
        refine WS.ev (Ev.move rfl) rfl ?_
        refine WS.ev (Ev.move rfl) rfl ?_
        refine WS.ev (Ev.ext rfl (ext34 _ _)) rfl ?_
        refine WS.call hasF33 rfl rfl (value_spec b e.1 j _ k0) ?_
        refine WS.ev (Ev.lookup rfl rfl hm4) rfl ?_
        rw [mval3]
        refine WS.ev (Ev.move rfl) rfl ?_
        refine WS.ev (Ev.addIn rfl rfl (by omega)) rfl ?_
        refine WS.nil ?_
        refine WL.mapUpdate rfl rfl rfl hm4 fun w5 u2 => ?_
        refine WL.nil (kr24 _ _ _ ?_)
        refine ⟨rfl, (done ++ [e], left', put3 ti (cval j e.1) (Ty.cnt (kv ti) (cval j e.1) + e.2.1) ci, clk3 ti (cval j e.1) ci), ?_, ?_, ?_⟩
        ·
          repeat (first | exact Subs.nil | refine Subs.cons rfl ?_)
        ·
          exact minv_step hi lb lr lr2 h.ne hr (h2.ok _ hmem).1 (h2.g.wf.pos _ hmem) hp ux u2
        ·
          have := hp.length_eq; simp at this; simp; omega

theorem tot_map2 (l : KV) : tot (l.map fun p => (p.1, 2 * p.2)) = 2 * tot l := by
  induction l with
  | nil => rfl
  | cons p l ih => rw [List.map_cons, tot_cons, tot_cons, ih]; omega
theorem keys_map2 (l : KV) : keys (l.map fun p => (p.1, 2 * p.2)) = keys l := by simp [keys]
theorem cnt_map2 (l : KV) (k : Nat) : cnt (l.map fun p => (p.1, 2 * p.2)) k = 2 * cnt l k := by
  induction l with
  | nil => rfl
  | cons p l ih => rw [List.map_cons, cnt_cons, cnt_cons, ih]; split <;> rfl
theorem tot_double {a b : KV} (ha : WF a) (hb : WF b) (h : ∀ k, cnt b k = 2 * cnt a k) : tot b = 2 * tot a := by
  rw [← tot_map2]
  refine tot_perm (perm_of_cnt hb ⟨by rw [keys_map2]; exact ha.nodup, ?_⟩ fun k => by rw [h, cnt_map2])
  intro p hp
  obtain ⟨q, hq, rfl⟩ := List.mem_map.1 hp
  have := ha.pos q hq
  show 0 < 2 * q.2
  omega
structure SInv (w : World) (b r : Nat) (j : Bool) (t : T3) (l : KV) (v : Value) (g : Nat × T3 × Nat) (wr : World) : Prop where
  le : g.1 ≤ l.length
  cell : wr.heap[b]? = some (.cells [.bool j, .int .i64 ((tot (kv t) : Int) + (tot (kv t) : Int)), .map (some r)].toArray 64 (0, 0))
  map : wr.heap[r]? = some (mapO .u64 (g.2.1.map toME) g.2.2)
  own : wr.ownsRow 0 50 2 v l.length (flatE l)
  g3 : G3 g.2.1 g.2.2
  ok : ∀ p ∈ kv g.2.1, KeyOK j p.1
  cnt : ∀ k, Ty.cnt (kv g.2.1) k = if k ∈ keys (l.take g.1) then 2 * Ty.cnt (kv t) k else Ty.cnt (kv t) k
  chg : Chg [b, r] w wr
theorem sinv_step {w wr w1 w2 w3 : World} {b r b6 i ci : Nat} {j : Bool} {t ti : T3} {l : KV} {v : Value} {p : Nat × Nat} {cs : List Value} {T6 : Nat} (hi : SInv w b r j t l v (i, ti, ci) wr) (hb : b < w.heap.size) (hr : r < w.heap.size) (hbr : b ≠ r)
    (hv : ∀ x, v.ownBlock = some x → w.heap.size ≤ x) (hp : l[i]? = some p) (hpk : KeyOK j p.1) (hn : (keys l).Nodup) (hcp : Ty.cnt (kv t) p.1 = p.2) (hpos : 0 < p.2) (n6 : New wr b6 (.cells cs.toArray T6) w1) {o6 : Obj} (u6 : Upd w1 b6 o6 w2)
    (u2 : Upd w2.drew r (mapO .u64 (mput (ti.map toME) (cval j p.1 : Nat) (.int .i64 ((Ty.cnt (kv ti) (cval j p.1) : Int) * 2)) ci) (mclock (ti.map toME) (cval j p.1 : Nat) ci)) w3) :
    SInv w b r j t l v (i + 1, put3 ti (cval j p.1) (2 * Ty.cnt (kv t) p.1) ci, clk3 ti (cval j p.1) ci) w3 := by
  have hlt : i < l.length := by
    by_cases h : i < l.length
    · exact h
    · rw [List.getElem?_eq_none (by omega)] at hp; cases hp
  have htk : l.take (i + 1) = l.take i ++ [p] := by rw [List.take_succ_eq_append_getElem hlt]; congr 2; rw [List.getElem?_eq_getElem hlt] at hp; exact Option.some.inj hp
  have hk1 : keys (l.take (i + 1)) = keys (l.take i) ++ [p.1] := by rw [htk, keys_append]; rfl
  have hnot : p.1 ∉ keys (l.take i) := by
    have h1 : (keys (l.take (i + 1))).Nodup := by unfold keys; rw [List.map_take]; exact hn.sublist (List.take_sublist _ _)
    rw [hk1, List.nodup_append] at h1
    intro hm
    exact h1.2.2 _ hm _ (List.mem_singleton_self _) rfl
  have hci : Ty.cnt (kv ti) (cval j p.1) = Ty.cnt (kv t) p.1 := by
    have := hi.cnt (cval j p.1)
    simp only at this
    rw [hpk.2] at this ⊢
    rw [if_neg hnot] at this
    exact this
  have e1 := mput3 ti (cval j p.1) (2 * Ty.cnt (kv t) p.1) ci
  have e2 := mclock3 ti (cval j p.1) ci
  have e3 : ((Ty.cnt (kv ti) (cval j p.1) : Int) * 2) = ((2 * Ty.cnt (kv t) p.1 : Nat) : Int) := by rw [hci]; omega
  rw [e3, e1, e2] at u2
  have sz := hi.chg.size
  have h6 := n6.is
  have hb6 : b ≠ b6 := by omega
  have hr6 : r ≠ b6 := by omega
  refine ⟨by show i + 1 ≤ l.length; omega, ?_, u2.at_, ?_, put3_G hi.g3 _ (by omega), put3_ok hi.ok (by rw [hpk.2]; exact hpk), ?_, ?_⟩
  · exact u2.heap (k := b) (u6.heap (n6.heap hi.cell) hb6) hbr
  · refine own_keep (own_keep (own_keep hi.own n6.chg (fun _ _ hm => by cases hm)) u6.chg (fun x hx hm => ?_)) ((Chg.drew _ w2).trans u2.chg) (fun x hx hm => ?_)
    · have := own_lt hi.own hx; simp only [List.mem_singleton] at hm; omega
    · have := hv x hx; simp only [List.mem_singleton] at hm; omega
  · intro k
    show Ty.cnt (kv (put3 ti _ _ ci)) k = if k ∈ keys (l.take (i + 1)) then _ else _
    rw [put3_cnt, hk1, hpk.2]
    have := hi.cnt k
    simp only at this
    by_cases hkk : k = p.1
    · subst hkk; rw [if_pos rfl, if_pos (by simp)]
    · rw [if_neg hkk, this]
      simp [hkk]
  · have a := hi.chg
    refine ⟨u2.chg.os.trans (u6.chg.os.trans (n6.chg.os.trans a.os)), u2.chg.tape.trans (u6.chg.tape.trans (n6.chg.tape.trans a.tape)), u2.chg.output.trans (u6.chg.output.trans (n6.chg.output.trans a.output)), Nat.le_trans a.size (Nat.le_trans n6.chg.size (Nat.le_trans u6.chg.size u2.chg.size)), fun k hk hn => ?_⟩
    simp only [List.mem_cons, List.not_mem_nil, or_false, not_or] at hn
    have s1 := n6.chg.size
    have s2 := u6.chg.size
    have a1 : w3.heap[k]? = w2.heap[k]? := u2.chg.block k (Nat.lt_of_lt_of_le (by omega) s2) (by simp [hn.2])
    rw [a1, u6.chg.block k (by omega) (by simp; omega), n6.chg.block k (by omega) (by simp), a.block k hk (by simp [hn.1, hn.2])]

theorem row2 {w : World} {g o : Nat} {u v : Value} (h1 : w.cell? ⟨g, o, none⟩ = some u) (h2 : w.cell? ⟨g, o + 1, none⟩ = some v) : ∀ (q : Nat) (x : Value), [u, v][q]? = some x → w.cell? ⟨g, o + q, none⟩ = some x := by
  intro q x hq
  match q with
  | 0 => simp at hq; subst hq; exact h1
  | 1 => simp at hq; subst hq; exact h2
  | q + 2 => simp at hq

set_option maxRecDepth 20000 in
theorem Merge_self (b r : Nat) (j : Bool) (t : T3) (c : Nat) (w : World) (h : TallyP w b r j t c) : Ret Try.prog 11 [.pointer (some ⟨b, 0, none⟩), .pointer (some ⟨b, 0, none⟩)] w fun v w' => (1099511627776 < tot (kv t) + tot (kv t) ∧ v = .int .i64 2 ∧ Chg [] w w') ∨ (tot (kv t) + tot (kv t) ≤ 1099511627776 ∧ v = .int .i64 0 ∧ Chg [b, r] w w' ∧ ∃ t' c', TallyP w' b r j t' c' ∧ (∀ k, cnt (kv t') k = 2 * cnt (kv t) k) ∧ tot (kv t') = 2 * tot (kv t)) := by
  have c1 : w.cell? ⟨b, 1, none⟩ = some (.int .i64 (tot (kv t) : Int)) := by rw [cell_at h.cell]; rfl
  have hs := h.small
  have lb := lt_of_heap h.cell
  have lr := lt_of_heap h.map
  refine Ret.enter Try.func11 rfl rfl ?_
  refine CW.seq fun kK1 kh1 => ?_
  refine CW.region fun kR2 kr2 => ?_  -- region 0
  refine WL.ev (Ev.assign rfl) rfl ?_
  refine WL.nil (kr2 _ _ _ ?_)
  refine kh1 _ _ _ ?_
  refine CW.seq fun kK3 kh3 => ?_
  refine CW.seq fun kK4 kh4 => ?_
  refine CW.regionS hmix (by kernel_rfl) fun kR5 kr5 => ?_  -- region 1
  refine WS.ev (Ev.move rfl) rfl ?_
  refine WS.ev (Ev.nilPtr rfl) rfl ?_
  refine WS.ev (Ev.fieldAddr rfl) rfl ?_
  refine WS.ev (Ev.load rfl rfl (c1)) rfl ?_
  refine WS.ev (Ev.move rfl) rfl ?_
  refine WS.ev (Ev.nilPtr rfl) rfl ?_
  refine WS.ev (Ev.fieldAddr rfl) rfl ?_
  refine WS.ev (Ev.load rfl rfl (c1)) rfl ?_
  first | refine WS.ev (Ev.addIn rfl rfl (by omega)) rfl ?_ | refine WS.ev (Ev.add rfl rfl) rfl ?_
  refine WS.ev (Ev.gtr rfl rfl) rfl ?_
  refine WS.nil (kr5 _ _ ?_)
  refine kh4 _ _ _ ?_
  refine CW.cond rfl (fun hc1 => ?_) (fun hc1 => ?_)  -- if 18
  ·
    simp only [decide_eq_true_eq, decide_eq_false_iff_not, Decidable.not_not, Bool.and_eq_true, Bool.or_eq_true, Bool.not_eq_true', ne_eq, Int.not_lt, Int.not_le] at hc1
    refine CW.seq fun kK6 kh6 => ?_
    refine CW.region fun kR7 kr7 => ?_  -- region 2
    refine WL.ev (Ev.assign rfl) rfl ?_
    refine WL.nil (kr7 _ _ _ ?_)
    refine kh6 _ _ _ ?_
    refine CW.ret ?_
    refine bodyA.ret1 rfl rfl ?_
    exact .inl ⟨by omega, rfl, Chg.drew _ w⟩
  ·
    simp only [decide_eq_true_eq, decide_eq_false_iff_not, Decidable.not_not, Bool.and_eq_true, Bool.or_eq_true, Bool.not_eq_true', ne_eq, Int.not_lt, Int.not_le] at hc1
    refine CW.skip ?_
    refine kh3 _ _ _ ?_
    refine CW.seq fun kK8 kh8 => ?_
    refine CW.regionT 11 hmix (by kernel_rfl) fun kR9 kr9 => ?_  -- region 3
    refine WS.ev (Ev.move rfl) rfl ?_
    refine WS.ev (Ev.nilPtr rfl) rfl ?_
    refine WS.ev (Ev.fieldAddr rfl) rfl ?_
    refine WS.ev (Ev.load rfl rfl (c1)) rfl ?_
    refine WS.ev (Ev.move rfl) rfl ?_
    refine WS.ev (Ev.nilPtr rfl) rfl ?_
    refine WS.ev (Ev.fieldAddr rfl) rfl ?_
    refine WS.ev (Ev.load rfl rfl (c1)) rfl ?_
    first | refine WS.ev (Ev.addIn rfl rfl (by omega)) rfl ?_ | refine WS.ev (Ev.add rfl rfl) rfl ?_
    refine WS.ev (Ev.nilPtr rfl) rfl ?_
    refine WS.ev (Ev.fieldAddr rfl) rfl ?_
    refine WS.nil ?_
    refine WL.store rfl rfl rfl h.cell (by simp) fun w1 u1 => ?_
    refine WL.nil (kr9 _ _ _ ?_)
    refine kh8 _ _ _ ?_
    refine CW.seq fun kK10 kh10 => ?_
    refine CW.seq fun kK11 kh11 => ?_
    refine CW.region fun kR12 kr12 => ?_  -- region 4
    refine WL.ev (Ev.move rfl) rfl ?_
    refine WL.ev (Ev.move rfl) rfl ?_
    refine WL.ev (Ev.eqlPtrT (by decide) rfl rfl) rfl ?_
    refine WL.nil (kr12 _ _ _ ?_)
    refine kh11 _ _ _ ?_
    refine CW.condT rfl ?_
    refine CW.seq fun kK13 kh13 => ?_
    refine CW.seq fun kK14 kh14 => ?_
    refine CW.region fun kR15 kr15 => ?_  -- region 5
    refine WL.ev (Ev.move rfl) rfl ?_
    refine WL.call hasF13 rfl rfl (tally_Tally_Entries_spec b r j _ t c _ ⟨u1.at_, u1.heap (k := r) h.map h.ne.symm, h.ne, h.g, h.ok, h.small⟩) fun ve w1 he => ?_
    obtain ⟨l, hsrt, hlp, hoe, hce, hve0⟩ := he
    have hve : ∀ x, ve.ownBlock = some x → w.heap.size ≤ x := fun x hx => Nat.le_trans (Nat.le_of_eq u1.size.symm) (hve0 x hx)
    have hkn : (keys l).Nodup := hsrt.keys
    obtain ⟨a, cap, rfl⟩ := own_form hoe
    have hll : l.length ≤ 1099511627776 := by have := hlp.length_eq; have := length_le_tot h.g.wf.pos; omega
    refine WL.ev (Ev.len rfl) rfl ?_
    refine WL.ev (Ev.move rfl) rfl ?_
    refine WL.nil (kr15 _ _ _ ?_)
    refine kh14 _ _ _ ?_
    refine CW.block ?_
    refine CW.loop (S := fun g : Nat × T3 × Nat => [(0, .pointer (some ⟨b, 0, none⟩)), (34, .slice a l.length cap), (35, .int .i64 (l.length : Int)), (36, .int .i64 (g.1 : Int))]) (Inv := SInv w b r j t l (.slice a l.length cap)) (mu := fun g => l.length - g.1) ((0, t, c)) ?_ ?_ ?_
    ·
      exact ⟨Nat.zero_le _, hce.heap u1.at_ (by simp), hce.heap (u1.heap (k := r) h.map h.ne.symm) (by simp), hoe, h.g, h.ok, fun k => by simp [keys], ((Chg.drew _ w).trans (Chg.drew _ w.drew)).trans ((u1.chg.mono (by simp)).trans hce.any)⟩
    ·
      repeat (first | exact Subs.nil | refine Subs.cons rfl ?_)
    ·
      rintro ⟨i, ti, ci⟩ wr hi
      dsimp only
      have hle := hi.le
      simp only at hle
      refine CW.seq fun kK16 kh16 => ?_
      refine CW.region fun kR17 kr17 => ?_  -- region 6
      refine WL.ev (Ev.lss rfl rfl) rfl ?_
      refine WL.nil (kr17 _ _ _ ?_)
      refine kh16 _ _ _ ?_
      refine CW.seq fun kK18 kh18 => ?_
      refine CW.cond rfl (fun hc3 => ?_) (fun hc3 => ?_)  -- if 37
      ·
        simp only [decide_eq_true_eq, decide_eq_false_iff_not, Decidable.not_not, Bool.and_eq_true, Bool.or_eq_true, Bool.not_eq_true', ne_eq, Int.not_lt, Int.not_le] at hc3
        refine CW.skip ?_
        refine kh18 _ _ _ ?_
        refine CW.seq fun kK19 kh19 => ?_
        refine CW.block ?_
        refine CW.seq fun kK20 kh20 => ?_
        refine CW.region fun kR21 kr21 => ?_  -- region 7
        obtain ⟨p, hp⟩ : ∃ p, l[i]? = some p := ⟨l[i]'(by omega), by simp⟩
        have hpm0 : p ∈ l := List.mem_of_getElem? hp
        have hpm := hlp.mem_iff.1 hpm0
        have hcp := cnt_mem h.g.wf.nodup hpm
        have hpos := h.g.wf.pos _ hpm
        obtain ⟨gg, rfl, hcells⟩ := own_cell hi.own (by rw [flatE_length]; omega)
        obtain ⟨f1, f2⟩ := flatE_get l i p hp
        refine WL.ev (Ev.indexAddr rfl rfl (by omega) (by omega)) rfl ?_
        rw [show 0 + (i : Int).toNat * 2 = i * 2 by omega]
        refine WL.ev (Ev.loadAgg (cs := [.float .f64 p.1, .int .i64 (p.2 : Int)]) rfl rfl rfl (fun q x hq => ?_)) rfl ?_
        · rw [add_addr]; exact row2 (hcells _ _ f1) (hcells _ _ f2) q x hq
        refine WL.alloc (l := [.float .f64 0, .int .i64 0]) rfl rfl fun b6 w5 n6 => ?_
        refine WL.storeAgg (vs := [.float .f64 p.1, .int .i64 (p.2 : Int)]) rfl rfl rfl (flatE_one [p]) n6.at_ (by simp) fun w6 u6 => ?_
        have sz := hi.chg.size
        have h6 := n6.is
        have hcl := u6.heap (n6.heap hi.cell) (by omega : b ≠ b6)
        have hm4 : w6.heap[r]? = some (mapO .u64 (ti.map toME) ci) := u6.heap (k := r) (n6.heap hi.map) (by omega)
        have k0 : w6.cell? ⟨b, 0, none⟩ = some (.bool j) := by rw [cell_at hcl]; rfl
        have k2 : w6.cell? ⟨b, 2, none⟩ = some (.map (some r)) := by rw [cell_at hcl]; rfl
        have k6 : w6.cell? ⟨b6, 0, none⟩ = some (.float .f64 p.1) := by rw [cell_at u6.at_]; rfl
        have hq := hi.cnt (cval j p.1)
        simp only at hq
        have hle2 := cnt_le_tot (kv t) (cval j p.1)
        have hq2 : Ty.cnt (kv ti) (cval j p.1) ≤ 2 * Ty.cnt (kv t) (cval j p.1) := by rw [hq]; split <;> omega
        refine WL.nil (kr21 _ _ _ ?_)
        refine kh20 _ _ _ ?_
        refine CW.regionT 10 hmix (by kernel_rfl) fun kR22 kr22 => ?_  -- region 8
        refine WS.ev (Ev.move rfl) rfl ?_
        refine WS.ev (Ev.nilPtr rfl) rfl ?_
        refine WS.ev (Ev.fieldAddr rfl) rfl ?_
        refine WS.ev (Ev.load rfl rfl (k2)) rfl ?_
        refine WS.ev (Ev.move rfl) rfl ?_
        refine WS.ev (Ev.fieldAddr rfl) rfl ?_
        refine WS.ev (Ev.load rfl rfl (k6)) rfl ?_
        refine WS.call hasF33 rfl rfl (value_spec b p.1 j _ k0) ?_
        refine WS.ev (Ev.lookup rfl rfl hm4) rfl ?_
        rw [mval3]
        refine WS.ev (Ev.mul rfl rfl) rfl ?_
        rw [wrap_i64 (by omega)]
        refine WS.nil ?_
        refine WL.mapUpdate rfl rfl rfl hm4 fun w7 u2 => ?_
        refine WL.nil (kr22 _ _ _ ?_)
        refine kh19 _ _ _ ?_
        refine CW.region fun kR23 kr23 => ?_  -- region 9
        first | refine WL.ev (Ev.addIn rfl rfl (by omega)) rfl ?_ | refine WL.ev (Ev.add rfl rfl) rfl ?_
        refine WL.ev (Ev.move rfl) rfl ?_
        refine WL.nil (kr23 _ _ _ ?_)
        refine ⟨rfl, (i + 1, put3 ti (cval j p.1) (2 * Ty.cnt (kv t) p.1) ci, clk3 ti (cval j p.1) ci), ?_, ?_, ?_⟩
        ·
          repeat (first | exact Subs.nil | refine Subs.cons rfl ?_)
        ·
          exact sinv_step hi lb lr h.ne hve hp (h.ok _ hpm) hkn hcp hpos n6 u6 u2
        ·
          show l.length - (i + 1) < l.length - i; omega
      ·
        simp only [decide_eq_true_eq, decide_eq_false_iff_not, Decidable.not_not, Bool.and_eq_true, Bool.or_eq_true, Bool.not_eq_true', ne_eq, Int.not_lt, Int.not_le] at hc3
        refine CW.exit ?_  -- exit 0
        refine kh13 _ _ _ ?_
        refine CW.seq fun kK24 kh24 => ?_
        refine CW.region fun kR25 kr25 => ?_  -- region 10
        refine WL.ev (Ev.assign rfl) rfl ?_
        refine WL.nil (kr25 _ _ _ ?_)
        refine kh24 _ _ _ ?_
        refine CW.ret ?_
        refine bodyA.ret1 rfl rfl ?_
        have hil : i = l.length := by omega
        subst hil
        have hcn : ∀ k, Ty.cnt (kv ti) k = 2 * Ty.cnt (kv t) k := fun k => by
          have := hi.cnt k
          simp only [List.take_length] at this
          rw [this]
          split
          · rfl
          · rename_i hk
            have hk2 : k ∉ keys (kv t) := fun hm => hk ((hlp.map Prod.fst).mem_iff.2 hm)
            rw [cnt_none hk2]
        have htd : tot (kv ti) = 2 * tot (kv t) := tot_double h.g.wf hi.g3.wf hcn
        refine .inr ⟨by omega, rfl, hi.chg, ti, ci, ⟨?_, hi.map, h.ne, hi.g3, hi.ok, by omega⟩, hcn, htd⟩
        rw [hi.cell, htd, show ((tot (kv t) : Int) + (tot (kv t) : Int)) = ((2 * tot (kv t) : Nat) : Int) by omega]; try rfl

end Go.Proofs.Ytjlmenmlpmfokaa
