/- The walks of package tally, but for Merge, Entries, Often. No condition. -/
import Derived.Test.YtjlmenmlpmfokaaBits
import Derived.Test.YtjlmenmlpmfokaaTpure
namespace Go.Proofs.Ytjlmenmlpmfokaa
open Go Sx Fl Ty
set_option linter.unusedVariables false
set_option linter.unusedSimpArgs false

def KeyOK (j : Bool) (k : Nat) : Prop := k < 18446744073709551616 ∧ cval j k = k
/-- A tally of the program: the struct at b, its map at r. -/
structure TallyP (w : World) (b r : Nat) (j : Bool) (t : T3) (c : Nat) : Prop where
  cell : w.heap[b]? = some (.cells [.bool j, .int .i64 (tot (kv t) : Int), .map (some r)].toArray 64 (0, 0))
  map : w.heap[r]? = some (mapO .u64 (t.map toME) c)
  ne : b ≠ r
  g : G3 t c
  ok : ∀ p ∈ kv t, KeyOK j p.1
  small : tot (kv t) ≤ 1099511627776
/-- Likewise, whatever the count of all. -/
structure TallyQ (w : World) (b r : Nat) (j : Bool) (a : Value) (t : T3) (c : Nat) : Prop where
  cell : w.heap[b]? = some (.cells [.bool j, a, .map (some r)].toArray 64 (0, 0))
  map : w.heap[r]? = some (mapO .u64 (t.map toME) c)
  ne : b ≠ r
  g : G3 t c
  ok : ∀ p ∈ kv t, KeyOK j p.1
  small : tot (kv t) ≤ 1099511627776
theorem TallyP.q {w : World} {b r : Nat} {j : Bool} {t : T3} {c : Nat} (h : TallyP w b r j t c) : TallyQ w b r j (.int .i64 (tot (kv t) : Int)) t c := ⟨h.cell, h.map, h.ne, h.g, h.ok, h.small⟩
theorem cval_ok {j : Bool} {x : Nat} (h : x < 18446744073709551616) : KeyOK j (cval j x) := by
  unfold KeyOK cval
  by_cases h1 : isNaN x = true
  · rw [if_pos h1]; exact ⟨by decide, by rw [if_pos (by decide)]⟩
  · rw [if_neg h1]
    by_cases h2 : j = true ∧ x % 9223372036854775808 = 0
    · rw [if_pos h2]; exact ⟨by decide, by rw [if_neg (by decide), if_pos ⟨h2.1, by decide⟩]⟩
    · rw [if_neg h2]; exact ⟨h, by rw [if_neg h1, if_neg h2]⟩
theorem cval_nan {j : Bool} {x : Nat} (h : isNaN x = true) : cval j x = 9221120237041090560 := by rw [cval, if_pos h]
theorem cval_zero {x : Nat} (h : isNaN x = false) (h2 : x % 9223372036854775808 = 0) : cval true x = 0 := by rw [cval, if_neg (by simp [h]), if_pos ⟨rfl, h2⟩]
theorem cval_same {j : Bool} {x : Nat} (h : isNaN x = false) (h2 : ¬ (j = true ∧ x % 9223372036854775808 = 0)) : cval j x = x := by rw [cval, if_neg (by simp [h]), if_neg h2]

theorem value_nan (b x : Nat) (j : Bool) (w : World) (c0 : w.cell? ⟨b, 0, none⟩ = some (.bool j)) (hn : isNaN x = true) : Ret Try.prog 33 [.pointer (some ⟨b, 0, none⟩), .float .f64 x] w fun v w' => v = .int .u64 (cval j x : Nat) ∧ w = w' := by
  refine Ret.enter Try.func33 rfl rfl ?_
  refine CW.seq fun kK1 kh1 => ?_
  refine CW.region fun kR2 kr2 => ?_  -- region 0
  refine WL.ev (Ev.assign rfl) rfl ?_
  refine WL.nil (kr2 _ _ _ ?_)
  refine kh1 _ _ _ ?_
  refine CW.seq fun kK3 kh3 => ?_
  refine CW.block ?_
  refine CW.seq fun kK4 kh4 => ?_
  refine CW.region fun kR5 kr5 => ?_  -- region 1
  refine WL.ev (Ev.move rfl) rfl ?_
  refine WL.call hasF44 rfl rfl (math_IsNaN_spec _ _) fun v w1 h => ?_
  obtain ⟨rfl, rfl⟩ := h
  refine WL.ev (Ev.assign rfl) rfl ?_
  refine WL.nil (kr5 _ _ _ ?_)
  refine kh4 _ _ _ ?_
  refine CW.cond rfl (fun hc1 => ?_) (fun hc1 => ?_)  -- if 5
  ·
    skip
    refine CW.region fun kR6 kr6 => ?_  -- region 2
    refine WL.call hasF45 rfl rfl (bits_NaN_spec _) fun v w2 h => ?_
    obtain ⟨rfl, rfl⟩ := h
    refine WL.ev (Ev.assign rfl) rfl ?_
    refine WL.nil (kr6 _ _ _ ?_)
    refine kh3 _ _ _ ?_
    refine CW.seq fun kK7 kh7 => ?_
    refine CW.region fun kR8 kr8 => ?_  -- region 5
    refine WL.ev (Ev.move rfl) rfl ?_
    refine WL.ev (Ev.ext rfl (ext42 _ _)) rfl ?_
    refine WL.ev (Ev.assign rfl) rfl ?_
    refine WL.nil (kr8 _ _ _ ?_)
    refine kh7 _ _ _ ?_
    refine CW.ret ?_
    refine bodyA.ret1 rfl rfl ?_
    exact ⟨by rw [cval_nan hn]; try rfl, rfl⟩
  ·
    skip
    exfalso; rw [hn] at hc1; cases hc1

theorem value_z (b x : Nat) (j : Bool) (w : World) (c0 : w.cell? ⟨b, 0, none⟩ = some (.bool j)) (hn : isNaN x = false) (hz : x % 9223372036854775808 = 0) : Ret Try.prog 33 [.pointer (some ⟨b, 0, none⟩), .float .f64 x] w fun v w' => v = .int .u64 (cval j x : Nat) ∧ w = w' := by
  have hq : (FloatKind.f64.format.order x 0 == some .eq) = true := by rw [order_zero]; simpa using hz
  refine Ret.enter Try.func33 rfl rfl ?_
  refine CW.seq fun kK1 kh1 => ?_
  refine CW.region fun kR2 kr2 => ?_  -- region 0
  refine WL.ev (Ev.assign rfl) rfl ?_
  refine WL.nil (kr2 _ _ _ ?_)
  refine kh1 _ _ _ ?_
  refine CW.seq fun kK3 kh3 => ?_
  refine CW.block ?_
  refine CW.seq fun kK4 kh4 => ?_
  refine CW.region fun kR5 kr5 => ?_  -- region 1
  refine WL.ev (Ev.move rfl) rfl ?_
  refine WL.call hasF44 rfl rfl (math_IsNaN_spec _ _) fun v w1 h => ?_
  obtain ⟨rfl, rfl⟩ := h
  refine WL.ev (Ev.assign rfl) rfl ?_
  refine WL.nil (kr5 _ _ _ ?_)
  refine kh4 _ _ _ ?_
  refine CW.cond rfl (fun hc1 => ?_) (fun hc1 => ?_)  -- if 5
  ·
    skip
    exfalso; rw [hn] at hc1; cases hc1
  ·
    skip
    refine CW.seq fun kK6 kh6 => ?_
    refine CW.region fun kR7 kr7 => ?_  -- region 3
    refine WL.ev (Ev.move rfl) rfl ?_
    refine WL.ev (Ev.feql rfl rfl) rfl ?_
    refine WL.ev (Ev.move rfl) rfl ?_
    refine WL.want rfl rfl rfl (by rw [hq]; rfl) ?_
    refine WL.ev (Ev.move rfl) rfl ?_
    refine WL.want rfl rfl rfl (by rw [hq]; rfl) ?_
    refine WL.ev (Ev.nilPtr rfl) rfl ?_
    refine WL.want rfl rfl rfl (by rw [hq]; rfl) ?_
    refine WL.ev (Ev.fieldAddr rfl) rfl ?_
    refine WL.want rfl rfl rfl (by rw [hq]; rfl) ?_
    refine WL.ev (Ev.load rfl rfl (c0)) rfl ?_
    refine WL.ev (Ev.pickT rfl hq rfl) rfl ?_
    refine WL.ev (Ev.assign rfl) rfl ?_
    refine WL.nil (kr7 _ _ _ ?_)
    refine kh6 _ _ _ ?_
    refine CW.cond rfl (fun hc2 => ?_) (fun hc2 => ?_)  -- if 9
    ·
      subst hc2
      refine CW.region fun kR8 kr8 => ?_  -- region 4
      refine WL.ev (Ev.assign rfl) rfl ?_
      refine WL.nil (kr8 _ _ _ ?_)
      refine kh3 _ _ _ ?_
      refine CW.seq fun kK9 kh9 => ?_
      refine CW.region fun kR10 kr10 => ?_  -- region 5
      refine WL.ev (Ev.move rfl) rfl ?_
      refine WL.ev (Ev.ext rfl (ext42 _ _)) rfl ?_
      refine WL.ev (Ev.assign rfl) rfl ?_
      refine WL.nil (kr10 _ _ _ ?_)
      refine kh9 _ _ _ ?_
      refine CW.ret ?_
      refine bodyA.ret1 rfl rfl ?_
      exact ⟨by rw [cval_zero hn hz]; try rfl, rfl⟩
    ·
      subst hc2
      refine CW.skip ?_
      refine kh3 _ _ _ ?_
      refine CW.seq fun kK11 kh11 => ?_
      refine CW.region fun kR12 kr12 => ?_  -- region 5
      refine WL.ev (Ev.move rfl) rfl ?_
      refine WL.ev (Ev.ext rfl (ext42 _ _)) rfl ?_
      refine WL.ev (Ev.assign rfl) rfl ?_
      refine WL.nil (kr12 _ _ _ ?_)
      refine kh11 _ _ _ ?_
      refine CW.ret ?_
      refine bodyA.ret1 rfl rfl ?_
      exact ⟨by rw [cval_same hn (by simp)], rfl⟩

theorem value_o (b x : Nat) (j : Bool) (w : World) (c0 : w.cell? ⟨b, 0, none⟩ = some (.bool j)) (hn : isNaN x = false) (hz : ¬ x % 9223372036854775808 = 0) : Ret Try.prog 33 [.pointer (some ⟨b, 0, none⟩), .float .f64 x] w fun v w' => v = .int .u64 (cval j x : Nat) ∧ w = w' := by
  have hq : (FloatKind.f64.format.order x 0 == some .eq) = false := by rw [order_zero]; simpa using hz
  refine Ret.enter Try.func33 rfl rfl ?_
  refine CW.seq fun kK1 kh1 => ?_
  refine CW.region fun kR2 kr2 => ?_  -- region 0
  refine WL.ev (Ev.assign rfl) rfl ?_
  refine WL.nil (kr2 _ _ _ ?_)
  refine kh1 _ _ _ ?_
  refine CW.seq fun kK3 kh3 => ?_
  refine CW.block ?_
  refine CW.seq fun kK4 kh4 => ?_
  refine CW.region fun kR5 kr5 => ?_  -- region 1
  refine WL.ev (Ev.move rfl) rfl ?_
  refine WL.call hasF44 rfl rfl (math_IsNaN_spec _ _) fun v w1 h => ?_
  obtain ⟨rfl, rfl⟩ := h
  refine WL.ev (Ev.assign rfl) rfl ?_
  refine WL.nil (kr5 _ _ _ ?_)
  refine kh4 _ _ _ ?_
  refine CW.cond rfl (fun hc1 => ?_) (fun hc1 => ?_)  -- if 5
  ·
    skip
    exfalso; rw [hn] at hc1; cases hc1
  ·
    skip
    refine CW.seq fun kK6 kh6 => ?_
    refine CW.region fun kR7 kr7 => ?_  -- region 3
    refine WL.ev (Ev.move rfl) rfl ?_
    refine WL.ev (Ev.feql rfl rfl) rfl ?_
    refine WL.ev (Ev.move rfl) rfl ?_
    refine WL.pass rfl rfl rfl (by rw [hq]; rfl) rfl ?_
    refine WL.pass rfl rfl rfl (by rw [hq]; rfl) rfl ?_
    refine WL.pass rfl rfl rfl (by rw [hq]; rfl) rfl ?_
    refine WL.pass rfl rfl rfl (by rw [hq]; rfl) rfl ?_
    refine WL.ev (Ev.pickF rfl hq rfl) rfl ?_
    refine WL.ev (Ev.assign rfl) rfl ?_
    refine WL.nil (kr7 _ _ _ ?_)
    refine kh6 _ _ _ ?_
    refine CW.condF rfl ?_
    refine CW.skip ?_
    refine kh3 _ _ _ ?_
    refine CW.seq fun kK8 kh8 => ?_
    refine CW.region fun kR9 kr9 => ?_  -- region 5
    refine WL.ev (Ev.move rfl) rfl ?_
    refine WL.ev (Ev.ext rfl (ext42 _ _)) rfl ?_
    refine WL.ev (Ev.assign rfl) rfl ?_
    refine WL.nil (kr9 _ _ _ ?_)
    refine kh8 _ _ _ ?_
    refine CW.ret ?_
    refine bodyA.ret1 rfl rfl ?_
    exact ⟨by rw [cval_same hn (fun h => hz h.2)], rfl⟩

theorem value_spec (b x : Nat) (j : Bool) (w : World) (c0 : w.cell? ⟨b, 0, none⟩ = some (.bool j)) : Ret Try.prog 33 [.pointer (some ⟨b, 0, none⟩), .float .f64 x] w fun v w' => v = .int .u64 (cval j x : Nat) ∧ w = w' := by
  by_cases hn : isNaN x = true
  · exact value_nan b x j w c0 hn
  · have hn' : isNaN x = false := by simpa using hn
    by_cases hz : x % 9223372036854775808 = 0
    · exact value_z b x j w c0 hn' hz
    · exact value_o b x j w c0 hn' hz

theorem tally_New_spec (j : Bool) (w : World) : Ret Try.prog 9 [.bool j] w fun v w' => ∃ b r, v = .pointer (some ⟨b, 0, none⟩) ∧ w.heap.size ≤ b ∧ w.heap.size ≤ r ∧ Chg [] w w' ∧ TallyP w' b r j [] 0 := by
  refine Ret.enter Try.func9 rfl rfl ?_
  refine CW.seq fun kK1 kh1 => ?_
  refine CW.region fun kR2 kr2 => ?_  -- region 0
  refine WL.ev (Ev.assign rfl) rfl ?_
  refine WL.nil (kr2 _ _ _ ?_)
  refine kh1 _ _ _ ?_
  refine CW.seq fun kK3 kh3 => ?_
  refine CW.region fun kR4 kr4 => ?_  -- region 1
  refine WL.ev (Ev.move rfl) rfl ?_
  refine WL.makeMap (kk := .u64) rfl fun r w1 n1 => ?_
  refine WL.ev (Ev.build (cs := [.bool j, .int .i64 0, .map (some r)]) rfl rfl) rfl ?_
  refine WL.box rfl rfl rfl fun b w2 n2 => ?_
  refine WL.ev (Ev.assign rfl) rfl ?_
  refine WL.nil (kr4 _ _ _ ?_)
  refine kh3 _ _ _ ?_
  refine CW.ret ?_
  refine bodyA.ret1 rfl rfl ?_
  exact ⟨b, r, rfl, by have := n1.size; have := n2.ge; omega, n1.ge, n1.chg.trans n2.chg, n2.at_, n2.heap n1.at_, fun e => by have := n2.ge; have := n1.lt; omega, G3.nil, (fun p hp => by cases hp), by decide⟩

theorem tally_Tally_All_spec (b r : Nat) (j : Bool) (t : T3) (c : Nat) (w : World) (h : TallyP w b r j t c) : Ret Try.prog 15 [.pointer (some ⟨b, 0, none⟩)] w fun v w' => v = .int .i64 (tot (kv t) : Int) ∧ w = w' := by
  have c0 : w.cell? ⟨b, 0, none⟩ = some (.bool j) := by rw [cell_at h.cell]; rfl
  have c1 : w.cell? ⟨b, 1, none⟩ = some (.int .i64 (tot (kv t) : Int)) := by rw [cell_at h.cell]; rfl
  have c2 : w.cell? ⟨b, 2, none⟩ = some (.map (some r)) := by rw [cell_at h.cell]; rfl
  have hs := h.small
  refine Ret.enter Try.func15 rfl rfl ?_
  refine CW.seq fun kK1 kh1 => ?_
  refine CW.region fun kR2 kr2 => ?_  -- region 0
  refine WL.ev (Ev.assign rfl) rfl ?_
  refine WL.nil (kr2 _ _ _ ?_)
  refine kh1 _ _ _ ?_
  refine CW.seq fun kK3 kh3 => ?_
  refine CW.region fun kR4 kr4 => ?_  -- region 1
  refine WL.ev (Ev.move rfl) rfl ?_
  refine WL.ev (Ev.nilPtr rfl) rfl ?_
  refine WL.ev (Ev.fieldAddr rfl) rfl ?_
  refine WL.ev (Ev.load rfl rfl (c1)) rfl ?_
  refine WL.ev (Ev.assign rfl) rfl ?_
  refine WL.nil (kr4 _ _ _ ?_)
  refine kh3 _ _ _ ?_
  refine CW.ret ?_
  refine bodyA.ret1 rfl rfl ?_
  exact ⟨rfl, rfl⟩

theorem tally_Tally_Unlike_spec (b r : Nat) (j : Bool) (t : T3) (c : Nat) (w : World) (h : TallyP w b r j t c) : Ret Try.prog 19 [.pointer (some ⟨b, 0, none⟩)] w fun v w' => v = .int .i64 ((kv t).length : Int) ∧ w = w' := by
  have c0 : w.cell? ⟨b, 0, none⟩ = some (.bool j) := by rw [cell_at h.cell]; rfl
  have c1 : w.cell? ⟨b, 1, none⟩ = some (.int .i64 (tot (kv t) : Int)) := by rw [cell_at h.cell]; rfl
  have c2 : w.cell? ⟨b, 2, none⟩ = some (.map (some r)) := by rw [cell_at h.cell]; rfl
  have hs := h.small
  refine Ret.enter Try.func19 rfl rfl ?_
  refine CW.seq fun kK1 kh1 => ?_
  refine CW.region fun kR2 kr2 => ?_  -- region 0
  refine WL.ev (Ev.assign rfl) rfl ?_
  refine WL.nil (kr2 _ _ _ ?_)
  refine kh1 _ _ _ ?_
  refine CW.seq fun kK3 kh3 => ?_
  refine CW.region fun kR4 kr4 => ?_  -- region 1
  refine WL.ev (Ev.move rfl) rfl ?_
  refine WL.ev (Ev.nilPtr rfl) rfl ?_
  refine WL.ev (Ev.fieldAddr rfl) rfl ?_
  refine WL.ev (Ev.load rfl rfl (c2)) rfl ?_
  refine WL.ev (Ev.lenMap rfl (h.map)) rfl ?_
  refine WL.ev (Ev.assign rfl) rfl ?_
  refine WL.nil (kr4 _ _ _ ?_)
  refine kh3 _ _ _ ?_
  refine CW.ret ?_
  refine bodyA.ret1 rfl rfl ?_
  exact ⟨by simp [kv], rfl⟩

theorem tally_Tally_Count_spec (b r x : Nat) (hx : x < 18446744073709551616) (j : Bool) (t : T3) (c : Nat) (w : World) (h : TallyP w b r j t c) : Ret Try.prog 18 [.pointer (some ⟨b, 0, none⟩), .float .f64 x] w fun v w' => v = .int .i64 (cnt (kv t) (cval j x) : Int) ∧ w.drew = w' := by
  have c0 : w.cell? ⟨b, 0, none⟩ = some (.bool j) := by rw [cell_at h.cell]; rfl
  have c1 : w.cell? ⟨b, 1, none⟩ = some (.int .i64 (tot (kv t) : Int)) := by rw [cell_at h.cell]; rfl
  have c2 : w.cell? ⟨b, 2, none⟩ = some (.map (some r)) := by rw [cell_at h.cell]; rfl
  have hs := h.small
  refine Ret.enter Try.func18 rfl rfl ?_
  refine CW.seq fun kK1 kh1 => ?_
  refine CW.region fun kR2 kr2 => ?_  -- region 0
  refine WL.ev (Ev.assign rfl) rfl ?_
  refine WL.nil (kr2 _ _ _ ?_)
  refine kh1 _ _ _ ?_
  refine CW.seq fun kK3 kh3 => ?_
  refine CW.regionS hmix (by kernel_rfl) fun kR4 kr4 => ?_  -- region 1
  refine WS.ev (Ev.move rfl) rfl ?_
  refine WS.ev (Ev.nilPtr rfl) rfl ?_
  refine WS.ev (Ev.fieldAddr rfl) rfl ?_
  refine WS.ev (Ev.load rfl rfl (c2)) rfl ?_
  refine WS.ev (Ev.move rfl) rfl ?_
  refine WS.ev (Ev.move rfl) rfl ?_
  refine WS.call hasF33 rfl rfl (value_spec b x j _ c0) ?_
  refine WS.ev (Ev.lookup rfl rfl (h.map)) rfl ?_
  refine WS.ev (Ev.assign rfl) rfl ?_
  refine WS.nil (kr4 _ _ ?_)
  refine kh3 _ _ _ ?_
  refine CW.ret ?_
  refine bodyA.ret1 rfl rfl ?_
  exact ⟨by rw [mval3], rfl⟩

theorem put3_ok {j : Bool} {t : T3} {k n c : Nat} (h : ∀ p ∈ kv t, KeyOK j p.1) (hk : KeyOK j k) : ∀ p ∈ kv (put3 t k n c), KeyOK j p.1 := by
  intro p hp
  rcases put3_cases t k n c with ⟨_, h2, _, _⟩ | ⟨t1, m, b, t2, h1, h2, _, _, _⟩
  · rw [h2, kv_append, List.mem_append] at hp
    rcases hp with hp | hp
    · exact h p hp
    · simp [kv] at hp; subst hp; exact hk
  · rw [h2, kv_append, List.mem_append, kv_cons, List.mem_cons] at hp
    rw [h1, kv_append, kv_cons] at h
    rcases hp with hp | hp | hp
    · exact h p (List.mem_append_left _ hp)
    · subst hp; exact hk
    · exact h p (List.mem_append_right _ (List.mem_cons_of_mem _ hp))
theorem add_end {b r x : Nat} {j : Bool} {t : T3} {c : Nat} {w w1 w2 : World} (h : TallyP w b r j t c) (hx : x < 18446744073709551616) (hs : tot (kv t) < 1099511627776)
    (u1 : Upd w b (.cells ([Value.bool j, .int .i64 (tot (kv t) : Int), .map (some r)].set 1 (.int .i64 ((tot (kv t) : Int) + 1))).toArray 64 (0, 0)) w1)
    (u2 : Upd w1.drew r (mapO .u64 (mput (t.map toME) (cval j x : Nat) (.int .i64 ((cnt (kv t) (cval j x) : Int) + 1)) c) (mclock (t.map toME) (cval j x : Nat) c)) w2) :
    Chg [b, r] w w2 ∧ TallyP w2 b r j (put3 t (cval j x) (cnt (kv t) (cval j x) + 1) c) (clk3 t (cval j x) c) := by
  have e := mput3 t (cval j x) (cnt (kv t) (cval j x) + 1) c
  have e2 := mclock3 t (cval j x) c
  have et := put3_tot t (cval j x) (cnt (kv t) (cval j x) + 1) c
  have et' : tot (kv (put3 t (cval j x) (cnt (kv t) (cval j x) + 1) c)) = tot (kv t) + 1 := by omega
  refine ⟨((u1.chg.mono (by simp)).trans (Chg.drew _ w1)).trans (u2.chg.mono (by simp)), ?_, ?_, h.ne, put3_G h.g _ (by omega), ?_, by omega⟩
  · have h1 : w2.heap[b]? = _ := u2.heap (k := b) u1.at_ h.ne
    rw [h1, et']; rfl
  · rw [u2.at_, ← e, ← e2]; rfl
  · exact put3_ok h.ok (cval_ok hx)

theorem tally_Tally_Add_spec (b r x : Nat) (hx : x < 18446744073709551616) (j : Bool) (t : T3) (c : Nat) (w : World) (h : TallyP w b r j t c) : Ret Try.prog 10 [.pointer (some ⟨b, 0, none⟩), .float .f64 x] w fun v w' => (tot (kv t) = 1099511627776 ∧ v = .int .i64 2 ∧ w = w') ∨ (tot (kv t) < 1099511627776 ∧ v = .int .i64 0 ∧ Chg [b, r] w w' ∧ TallyP w' b r j (put3 t (cval j x) (cnt (kv t) (cval j x) + 1) c) (clk3 t (cval j x) c)) := by
  have c0 : w.cell? ⟨b, 0, none⟩ = some (.bool j) := by rw [cell_at h.cell]; rfl
  have c1 : w.cell? ⟨b, 1, none⟩ = some (.int .i64 (tot (kv t) : Int)) := by rw [cell_at h.cell]; rfl
  have c2 : w.cell? ⟨b, 2, none⟩ = some (.map (some r)) := by rw [cell_at h.cell]; rfl
  have hs := h.small
  refine Ret.enter Try.func10 rfl rfl ?_
  refine CW.seq fun kK1 kh1 => ?_
  refine CW.region fun kR2 kr2 => ?_  -- region 0
  refine WL.ev (Ev.assign rfl) rfl ?_
  refine WL.nil (kr2 _ _ _ ?_)
  refine kh1 _ _ _ ?_
  refine CW.seq fun kK3 kh3 => ?_
  refine CW.seq fun kK4 kh4 => ?_
  refine CW.region fun kR5 kr5 => ?_  -- region 1
  refine WL.ev (Ev.move rfl) rfl ?_
  refine WL.ev (Ev.nilPtr rfl) rfl ?_
  refine WL.ev (Ev.fieldAddr rfl) rfl ?_
  refine WL.ev (Ev.load rfl rfl (c1)) rfl ?_
  refine WL.ev (Ev.geq rfl rfl) rfl ?_
  refine WL.nil (kr5 _ _ _ ?_)
  refine kh4 _ _ _ ?_
  refine CW.cond rfl (fun hc1 => ?_) (fun hc1 => ?_)  -- if 9
  ·
    simp only [decide_eq_true_eq, decide_eq_false_iff_not, Decidable.not_not, Bool.and_eq_true, Bool.or_eq_true, Bool.not_eq_true', ne_eq, Int.not_lt, Int.not_le] at hc1
    refine CW.seq fun kK6 kh6 => ?_
    refine CW.region fun kR7 kr7 => ?_  -- region 2
    refine WL.ev (Ev.assign rfl) rfl ?_
    refine WL.nil (kr7 _ _ _ ?_)
    refine kh6 _ _ _ ?_
    refine CW.ret ?_
    refine bodyA.ret1 rfl rfl ?_
    exact .inl ⟨by omega, rfl, rfl⟩
  ·
    simp only [decide_eq_true_eq, decide_eq_false_iff_not, Decidable.not_not, Bool.and_eq_true, Bool.or_eq_true, Bool.not_eq_true', ne_eq, Int.not_lt, Int.not_le] at hc1
    refine CW.skip ?_
    refine kh3 _ _ _ ?_
    refine CW.seq fun kK8 kh8 => ?_
    refine CW.region fun kR9 kr9 => ?_  -- region 3
    refine WL.ev (Ev.move rfl) rfl ?_
    refine WL.ev (Ev.nilPtr rfl) rfl ?_
    refine WL.ev (Ev.fieldAddr rfl) rfl ?_
    refine WL.ev (Ev.load rfl rfl (c1)) rfl ?_
    first | refine WL.ev (Ev.addIn rfl rfl (by omega)) rfl ?_ | refine WL.ev (Ev.add rfl rfl) rfl ?_
    refine WL.ev (Ev.nilPtr rfl) rfl ?_
    refine WL.ev (Ev.fieldAddr rfl) rfl ?_
    refine WL.store rfl rfl rfl h.cell (by simp) fun w1 u1 => ?_
    have uc0 : w1.cell? ⟨b, 0, none⟩ = some (.bool j) := by rw [cell_at u1.at_]; rfl
    have uc2 : w1.cell? ⟨b, 2, none⟩ = some (.map (some r)) := by rw [cell_at u1.at_]; rfl
    have um := u1.heap h.map (fun e => h.ne e.symm)
    refine WL.nil (kr9 _ _ _ ?_)
    refine kh8 _ _ _ ?_
    refine CW.seq fun kK10 kh10 => ?_
    refine CW.regionT 9 hmix (by kernel_rfl) fun kR11 kr11 => ?_  -- region 4
    refine WS.ev (Ev.move rfl) rfl ?_
    refine WS.ev (Ev.nilPtr rfl) rfl ?_
    refine WS.ev (Ev.fieldAddr rfl) rfl ?_
    refine WS.ev (Ev.load rfl rfl (uc2)) rfl ?_
    refine WS.ev (Ev.move rfl) rfl ?_
    refine WS.ev (Ev.move rfl) rfl ?_
    refine WS.call hasF33 rfl rfl (value_spec b x j _ uc0) ?_
    refine WS.ev (Ev.lookup rfl rfl um) rfl ?_
    rw [mval3]
    have hle := cnt_le_tot (kv t) (cval j x)
    refine WS.ev (Ev.addIn rfl rfl (by omega)) rfl ?_
    refine WS.nil ?_
    refine WL.mapUpdate rfl rfl rfl um fun w2 u2 => ?_
    refine WL.nil (kr11 _ _ _ ?_)
    refine kh10 _ _ _ ?_
    refine CW.seq fun kK12 kh12 => ?_
    refine CW.region fun kR13 kr13 => ?_  -- region 5
    refine WL.ev (Ev.assign rfl) rfl ?_
    refine WL.nil (kr13 _ _ _ ?_)
    refine kh12 _ _ _ ?_
    refine CW.ret ?_
    refine bodyA.ret1 rfl rfl ?_
    exact .inr ⟨by omega, rfl, add_end h hx (by omega) u1 u2⟩

def tk3 (t : T3) (k c : Nat) : T3 := if cnt (kv t) k = 1 then del3 t k else put3 t k (cnt (kv t) k - 1) c
def tkc (t : T3) (k c : Nat) : Nat := if cnt (kv t) k = 1 then c else clk3 t k c
theorem del3_ok {j : Bool} {t : T3} {k : Nat} (h : ∀ p ∈ kv t, KeyOK j p.1) : ∀ p ∈ kv (del3 t k), KeyOK j p.1 := by
  intro p hp
  obtain ⟨e, he, rfl⟩ := List.mem_map.1 hp
  exact h _ (List.mem_map_of_mem ((del3_sub t k).subset he))
theorem tk3_cnt {t : T3} {c : Nat} (h : G3 t c) (k : Nat) (hk : 0 < cnt (kv t) k) (k' : Nat) : cnt (kv (tk3 t k c)) k' = if k' = k then cnt (kv t) k - 1 else cnt (kv t) k' := by
  unfold tk3
  by_cases h1 : cnt (kv t) k = 1
  · rw [if_pos h1, del3_cnt h.wf.nodup, h1]
  · rw [if_neg h1, put3_cnt]
theorem tk3_tot {t : T3} {c : Nat} (k : Nat) (hk : 0 < cnt (kv t) k) : tot (kv (tk3 t k c)) + 1 = tot (kv t) := by
  unfold tk3
  by_cases h1 : cnt (kv t) k = 1
  · rw [if_pos h1]; have := del3_tot (t := t) k; omega
  · rw [if_neg h1]; have := put3_tot t k (cnt (kv t) k - 1) c; omega
theorem tk3_G {t : T3} {c : Nat} (h : G3 t c) (k : Nat) (hk : 0 < cnt (kv t) k) : G3 (tk3 t k c) (tkc t k c) := by
  unfold tk3 tkc
  by_cases h1 : cnt (kv t) k = 1
  · rw [if_pos h1, if_pos h1]; exact del3_G h k
  · rw [if_neg h1, if_neg h1]; exact put3_G h k (by omega)
theorem tk3_ok {j : Bool} {t : T3} {k c : Nat} (h : ∀ p ∈ kv t, KeyOK j p.1) (hk : KeyOK j k) : ∀ p ∈ kv (tk3 t k c), KeyOK j p.1 := by
  unfold tk3
  split
  · exact del3_ok h
  · exact put3_ok h hk
theorem take_end {b r x : Nat} {j : Bool} {t : T3} {c : Nat} {w w1 w2 : World} (h : TallyP w b r j t c) (hx : x < 18446744073709551616) (hk : 0 < cnt (kv t) (cval j x))
    (u1 : Upd w r (mapO .u64 ((tk3 t (cval j x) c).map toME) (tkc t (cval j x) c)) w1)
    (u2 : Upd w1 b (.cells ([Value.bool j, .int .i64 (tot (kv t) : Int), .map (some r)].set 1 (.int .i64 ((tot (kv t) : Int) - 1))).toArray 64 (0, 0)) w2) :
    Chg [b, r] w w2 ∧ TallyP w2 b r j (tk3 t (cval j x) c) (tkc t (cval j x) c) := by
  have et := tk3_tot (c := c) (cval j x) hk
  have hs := h.small
  refine ⟨(u1.chg.mono (by simp)).trans (u2.chg.mono (by simp)), ?_, ?_, h.ne, tk3_G h.g _ hk, tk3_ok h.ok (cval_ok hx), by omega⟩
  · rw [u2.at_]
    have : ((tot (kv t) : Int) - 1) = ((tot (kv (tk3 t (cval j x) c)) : Nat) : Int) := by omega
    rw [this]; rfl
  · exact u2.heap u1.at_ (fun e => h.ne e.symm)

theorem tally_Tally_Take_spec (b r x : Nat) (hx : x < 18446744073709551616) (j : Bool) (t : T3) (c : Nat) (w : World) (h : TallyP w b r j t c) : Ret Try.prog 12 [.pointer (some ⟨b, 0, none⟩), .float .f64 x] w fun v w' => (cnt (kv t) (cval j x) = 0 ∧ v = .bool false ∧ w = w') ∨ (0 < cnt (kv t) (cval j x) ∧ v = .bool true ∧ Chg [b, r] w w' ∧ TallyP w' b r j (tk3 t (cval j x) c) (tkc t (cval j x) c)) := by
  have c0 : w.cell? ⟨b, 0, none⟩ = some (.bool j) := by rw [cell_at h.cell]; rfl
  have c1 : w.cell? ⟨b, 1, none⟩ = some (.int .i64 (tot (kv t) : Int)) := by rw [cell_at h.cell]; rfl
  have c2 : w.cell? ⟨b, 2, none⟩ = some (.map (some r)) := by rw [cell_at h.cell]; rfl
  have hs := h.small
  have hle := cnt_le_tot (kv t) (cval j x)
  refine Ret.enter Try.func12 rfl rfl ?_
  refine CW.seq fun kK1 kh1 => ?_
  refine CW.region fun kR2 kr2 => ?_  -- region 0
  refine WL.ev (Ev.assign rfl) rfl ?_
  refine WL.nil (kr2 _ _ _ ?_)
  refine kh1 _ _ _ ?_
  refine CW.seq fun kK3 kh3 => ?_
  refine CW.region fun kR4 kr4 => ?_  -- region 1
  refine WL.ev (Ev.move rfl) rfl ?_
  refine WL.ev (Ev.move rfl) rfl ?_
  refine WL.call hasF33 rfl rfl (value_spec b x j _ c0) fun v w1 h => ?_
  obtain ⟨rfl, rfl⟩ := h
  refine WL.ev (Ev.assign rfl) rfl ?_
  refine WL.nil (kr4 _ _ _ ?_)
  refine kh3 _ _ _ ?_
  refine CW.seq fun kK5 kh5 => ?_
  refine CW.region fun kR6 kr6 => ?_  -- region 2
  refine WL.ev (Ev.move rfl) rfl ?_
  refine WL.ev (Ev.nilPtr rfl) rfl ?_
  refine WL.ev (Ev.fieldAddr rfl) rfl ?_
  refine WL.ev (Ev.load rfl rfl (by assumption)) rfl ?_
  refine WL.ev (Ev.move rfl) rfl ?_
  refine WL.ev (Ev.lookup rfl rfl h.map) rfl ?_
  rw [mval3]
  refine WL.ev (Ev.assign rfl) rfl ?_
  refine WL.nil (kr6 _ _ _ ?_)
  refine kh5 _ _ _ ?_
  refine CW.seq fun kK7 kh7 => ?_
  refine CW.block ?_
  refine CW.seq fun kK8 kh8 => ?_
  refine CW.region fun kR9 kr9 => ?_  -- region 4
  refine WL.ev (Ev.move rfl) rfl ?_
  refine WL.ev (Ev.eql rfl rfl) rfl ?_
  refine WL.ev (Ev.assign rfl) rfl ?_
  refine WL.nil (kr9 _ _ _ ?_)
  refine kh8 _ _ _ ?_
  refine CW.cond rfl (fun hc1 => ?_) (fun hc1 => ?_)  -- if 23
  ·
    simp only [decide_eq_true_eq, decide_eq_false_iff_not, Decidable.not_not, Bool.and_eq_true, Bool.or_eq_true, Bool.not_eq_true', ne_eq, Int.not_lt, Int.not_le] at hc1
    refine CW.seq fun kK10 kh10 => ?_
    refine CW.region fun kR11 kr11 => ?_  -- region 5
    refine WL.ev (Ev.assign rfl) rfl ?_
    refine WL.nil (kr11 _ _ _ ?_)
    refine kh10 _ _ _ ?_
    refine CW.ret ?_
    refine bodyA.ret1 rfl rfl ?_
    exact .inl ⟨by omega, rfl, rfl⟩
  ·
    simp only [decide_eq_true_eq, decide_eq_false_iff_not, Decidable.not_not, Bool.and_eq_true, Bool.or_eq_true, Bool.not_eq_true', ne_eq, Int.not_lt, Int.not_le] at hc1
    refine CW.seq fun kK12 kh12 => ?_
    refine CW.region fun kR13 kr13 => ?_  -- region 6
    refine WL.ev (Ev.move rfl) rfl ?_
    refine WL.ev (Ev.eql rfl rfl) rfl ?_
    refine WL.ev (Ev.assign rfl) rfl ?_
    refine WL.nil (kr13 _ _ _ ?_)
    refine kh12 _ _ _ ?_
    refine CW.cond rfl (fun hc2 => ?_) (fun hc2 => ?_)  -- if 26
    ·
      simp only [decide_eq_true_eq, decide_eq_false_iff_not, Decidable.not_not, Bool.and_eq_true, Bool.or_eq_true, Bool.not_eq_true', ne_eq, Int.not_lt, Int.not_le] at hc2
      refine CW.region fun kR14 kr14 => ?_  -- region 7
      refine WL.ev (Ev.move rfl) rfl ?_
      refine WL.ev (Ev.nilPtr rfl) rfl ?_
      refine WL.ev (Ev.fieldAddr rfl) rfl ?_
      refine WL.ev (Ev.load rfl rfl (c2)) rfl ?_
      refine WL.ev (Ev.move rfl) rfl ?_
      refine WL.mapDelete rfl rfl h.map fun w1 u1 => ?_
      rw [mdel3] at u1
      have u1 : Upd w r (mapO .u64 ((tk3 t (cval j x) c).map toME) (tkc t (cval j x) c)) w1 := by rw [tk3, tkc, if_pos (by omega), if_pos (by omega)]; exact u1
      have uc := u1.heap h.cell h.ne
      have uc1 : w1.cell? ⟨b, 1, none⟩ = some (.int .i64 (tot (kv t) : Int)) := by rw [cell_at uc]; rfl
      refine WL.nil (kr14 _ _ _ ?_)
      refine kh7 _ _ _ ?_
      refine CW.seq fun kK15 kh15 => ?_
      refine CW.region fun kR16 kr16 => ?_  -- region 8
      refine WL.ev (Ev.move rfl) rfl ?_
      refine WL.ev (Ev.nilPtr rfl) rfl ?_
      refine WL.ev (Ev.fieldAddr rfl) rfl ?_
      refine WL.ev (Ev.load rfl rfl (uc1)) rfl ?_
      first | refine WL.ev (Ev.subIn rfl rfl (by omega)) rfl ?_ | refine WL.ev (Ev.sub rfl rfl) rfl ?_
      refine WL.ev (Ev.nilPtr rfl) rfl ?_
      refine WL.ev (Ev.fieldAddr rfl) rfl ?_
      refine WL.store rfl rfl rfl uc (by simp) fun w2 u2 => ?_
      refine WL.nil (kr16 _ _ _ ?_)
      refine kh15 _ _ _ ?_
      refine CW.seq fun kK17 kh17 => ?_
      refine CW.region fun kR18 kr18 => ?_  -- region 9
      refine WL.ev (Ev.assign rfl) rfl ?_
      refine WL.nil (kr18 _ _ _ ?_)
      refine kh17 _ _ _ ?_
      refine CW.ret ?_
      refine bodyA.ret1 rfl rfl ?_
      exact .inr ⟨by omega, rfl, take_end h hx (by omega) u1 u2⟩
    ·
      simp only [decide_eq_true_eq, decide_eq_false_iff_not, Decidable.not_not, Bool.and_eq_true, Bool.or_eq_true, Bool.not_eq_true', ne_eq, Int.not_lt, Int.not_le] at hc2
      refine CW.region fun kR19 kr19 => ?_  -- region 3
      refine WL.ev (Ev.move rfl) rfl ?_
      refine WL.ev (Ev.nilPtr rfl) rfl ?_
      refine WL.ev (Ev.fieldAddr rfl) rfl ?_
      refine WL.ev (Ev.load rfl rfl (c2)) rfl ?_
      refine WL.ev (Ev.move rfl) rfl ?_
      refine WL.ev (Ev.move rfl) rfl ?_
      first | refine WL.ev (Ev.subIn rfl rfl (by omega)) rfl ?_ | refine WL.ev (Ev.sub rfl rfl) rfl ?_
      refine WL.mapUpdate rfl rfl rfl h.map fun w1 u1 => ?_
      have e5 : ((cnt (kv t) (cval j x) : Int) - 1) = ((cnt (kv t) (cval j x) - 1 : Nat) : Int) := by omega
      rw [e5, mput3, mclock3] at u1
      have u1 : Upd w r (mapO .u64 ((tk3 t (cval j x) c).map toME) (tkc t (cval j x) c)) w1 := by rw [tk3, tkc, if_neg (by omega), if_neg (by omega)]; exact u1
      have uc := u1.heap h.cell h.ne
      have uc1 : w1.cell? ⟨b, 1, none⟩ = some (.int .i64 (tot (kv t) : Int)) := by rw [cell_at uc]; rfl
      refine WL.nil (kr19 _ _ _ ?_)
      refine kh7 _ _ _ ?_
      refine CW.seq fun kK20 kh20 => ?_
      refine CW.region fun kR21 kr21 => ?_  -- region 8
      refine WL.ev (Ev.move rfl) rfl ?_
      refine WL.ev (Ev.nilPtr rfl) rfl ?_
      refine WL.ev (Ev.fieldAddr rfl) rfl ?_
      refine WL.ev (Ev.load rfl rfl (uc1)) rfl ?_
      first | refine WL.ev (Ev.subIn rfl rfl (by omega)) rfl ?_ | refine WL.ev (Ev.sub rfl rfl) rfl ?_
      refine WL.ev (Ev.nilPtr rfl) rfl ?_
      refine WL.ev (Ev.fieldAddr rfl) rfl ?_
      refine WL.store rfl rfl rfl uc (by simp) fun w2 u2 => ?_
      refine WL.nil (kr21 _ _ _ ?_)
      refine kh20 _ _ _ ?_
      refine CW.seq fun kK22 kh22 => ?_
      refine CW.region fun kR23 kr23 => ?_  -- region 9
      refine WL.ev (Ev.assign rfl) rfl ?_
      refine WL.nil (kr23 _ _ _ ?_)
      refine kh22 _ _ _ ?_
      refine CW.ret ?_
      refine bodyA.ret1 rfl rfl ?_
      exact .inr ⟨by omega, rfl, take_end h hx (by omega) u1 u2⟩

end Go.Proofs.Ytjlmenmlpmfokaa
