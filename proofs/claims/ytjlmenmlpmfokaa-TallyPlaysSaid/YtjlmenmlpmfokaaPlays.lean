/- Package steelyardlaw18: TallyPlays. No condition. -/
import Derived.Test.YtjlmenmlpmfokaaOwned
import Derived.Test.YtjlmenmlpmfokaaAwake
namespace Go.Proofs.Ytjlmenmlpmfokaa
open Go Sx Fl Ty
set_option linter.unusedVariables false
set_option linter.unusedSimpArgs false

/-- A step of a script, as it lies in memory. -/
structure OpR where
  kd : Int
  on : Int
  wi : Int
  nn : Int
  xb : Nat
  jj : Bool
def OpR.cells (o : OpR) : List Value := [.int .i64 o.kd, .int .i64 o.on, .int .i64 o.wi, .int .i64 o.nn, .float .f64 o.xb, .bool o.jj]
def OpR.ok (o : OpR) : Prop := (-9223372036854775808 ≤ o.on ∧ o.on ≤ 9223372036854775807) ∧ (-9223372036854775808 ≤ o.wi ∧ o.wi ≤ 9223372036854775807) ∧ o.xb < 18446744073709551616
def ORow (w : World) (a : Option Addr) (ops : List OpR) : Prop := ∀ (i : Nat) (o : OpR), ops[i]? = some o → ∃ ad, a = some ad ∧ ad.block < w.heap.size ∧ ∀ (j : Nat) v, o.cells[j]? = some v → w.cell? (ad.add (i * 6 + j)) = some v
theorem addr_block (ad : Addr) (i : Nat) : (ad.add i).block = ad.block := by unfold Addr.add; split <;> rfl
theorem addr_add (a : Addr) (m n : Nat) : (a.add m).add n = a.add (m + n) := by
  cases a with
  | mk b o f => simp only [Addr.add]; split <;> split <;> simp_all <;> omega
theorem SX.size {m : Nat} {w : World} {pp : Nat} {e : Bool} {k : Nat} (h : SX m w pp e k) : m ≤ w.heap.size := by
  obtain ⟨vl, vc, vw, ts, cv, wv, cs, h1, _⟩ := h
  have := h1.mp; have := lt_of_heap h1.cell; omega
structure K1 (w : World) (pp n i : Nat) (wr : World) : Prop where
  le : i ≤ n ∧ i ≤ 2000
  sx : SX w.heap.size wr pp true (i + 1)
  bel : RowKit.Below w.heap.size w wr
structure K2 (w : World) (pp : Nat) (vl : Value) (ts : List TB) (i : Nat) (wr : World) : Prop where
  le : i ≤ ts.length
  pb : ∃ vc vw cv wv cs, PB w.heap.size wr pp vl vc vw ts cv wv ∧ CM w.heap.size wr cv wv cs ∧ cs.length ≤ 2001 + i
  bel : RowKit.Below w.heap.size w wr
theorem PB.bel {m : Nat} {w w' : World} {pp : Nat} {vl vc vw : Value} {ts : List TB} {cv wv : List Value} (h : PB m w pp vl vc vw ts cv wv) (hc : Chg (PT pp vc vw) w w') : RowKit.Below m w w' :=
  below_chg hc (fun y hy => (h.ptlt y hy).2) (by have := h.mp; have := lt_of_heap h.cell; omega)
theorem getO {l : List OpR} {i : Nat} (h : i < l.length) : ∃ x, l[i]? = some x := ⟨l[i], by simp⟩
theorem getT {l : List TB} {i : Nat} (h : i < l.length) : ∃ x, l[i]? = some x := ⟨l[i], by simp⟩

set_option maxRecDepth 20000 in
set_option maxHeartbeats 2000000 in
theorem plays_spec (j : Bool) (a1 : Option Addr) (cap1 : Nat) (ops : List OpR) (w : World) (h1 : ORow w a1 ops) (hok : ∀ o ∈ ops, o.ok) : Ret Try.prog 3 [.bool j, .slice a1 ops.length cap1] w fun u w' => u = .bool true ∧ RowKit.Below w.heap.size w w' := by
  refine Ret.enter Try.func3 rfl rfl ?_
  refine CW.seq fun kK1 kh1 => ?_
  refine CW.region fun kR2 kr2 => ?_  -- region 0
  refine WL.ev (Ev.assign rfl) rfl ?_
  refine WL.nil (kr2 _ _ _ ?_)
  refine kh1 _ _ _ ?_
  refine CW.seq fun kK3 kh3 => ?_
  refine CW.region fun kR4 kr4 => ?_  -- region 1
  refine WL.call hasF5 rfl rfl (awake_spec _) fun v w1 h => ?_
  obtain ⟨rfl, ha0⟩ := h
  have sz0 := ha0.size
  refine WL.ev (Ev.assign rfl) rfl ?_
  refine WL.nil (kr4 _ _ _ ?_)
  refine kh3 _ _ _ ?_
  refine CW.seq fun kK5 kh5 => ?_
  refine CW.region fun kR6 kr6 => ?_  -- region 2
  refine WL.ev (Ev.build (vs := []) (cs := [.slice none 0 0, .slice none 0 0, .slice none 0 0]) rfl rfl) rfl ?_
  refine WL.box (l := [.slice none 0 0, .slice none 0 0, .slice none 0 0]) rfl rfl rfl fun pp u1 n1 => ?_
  have hpp : w.heap.size ≤ pp := by have := n1.ge; omega
  have own0 : ∀ e sz, u1.ownsRow 0 e sz (.slice none 0 0) 0 [] := fun e sz => ⟨by simp, .inl ⟨rfl, rfl⟩⟩
  have hS0 : SX w.heap.size u1 pp false 0 := ⟨.slice none 0 0, .slice none 0 0, .slice none 0 0, [], [], [], [], ⟨n1.at_, own0 _ _, own0 _ _, own0 _ _, (fun x hx => by cases hx), (fun x hx => by cases hx), by simp, by simp, by simp, hpp, (fun x hx => by cases hx), (fun x hx => by cases hx), (fun x hx => by cases hx)⟩, ⟨rfl, rfl, (fun i v l hv => by simp at hv), (fun i v l hv => by simp at hv), (fun l hl => by cases hl), (fun i j v u x hv => by simp at hv), (fun v hv => by cases hv)⟩, (fun h => by cases h), by simp, by simp⟩
  refine WL.ev (Ev.assign rfl) rfl ?_
  refine WL.nil (kr6 _ _ _ ?_)
  refine kh5 _ _ _ ?_
  refine CW.seq fun kK7 kh7 => ?_
  refine CW.region fun kR8 kr8 => ?_  -- region 3
  refine WL.ev (Ev.move rfl) rfl ?_
  refine WL.ev (Ev.move rfl) rfl ?_
  refine WL.ev (Ev.build (vs := [(0, .int .i64 1), (5, .bool j)]) (cs := [.int .i64 1, .int .i64 0, .int .i64 0, .int .i64 0, .float .f64 0, .bool j]) rfl rfl) rfl ?_
  refine WL.call hasF6 rfl rfl (step_new w.heap.size pp 0 false 0 0 0 0 j _ hS0) fun v w2 h' => ?_
  obtain ⟨rfl, hS1, hbn⟩ := h'
  have hb1 : RowKit.Below w.heap.size w w2 := (ha0.below.trans (below_chg n1.chg (by simp) sz0)).trans hbn
  refine WL.ev (Ev.assign rfl) rfl ?_
  refine WL.nil (kr8 _ _ _ ?_)
  refine kh7 _ _ _ ?_
  refine CW.seq fun kK9 kh9 => ?_
  refine CW.seq fun kK10 kh10 => ?_
  refine CW.region fun kR11 kr11 => ?_  -- region 4
  refine WL.ev (Ev.move rfl) rfl ?_
  refine WL.ev (Ev.not rfl) rfl ?_
  refine WL.ev (Ev.move rfl) rfl ?_
  refine WL.want rfl rfl rfl rfl ?_
  refine WL.ev (Ev.move rfl) rfl ?_
  refine WL.want rfl rfl rfl rfl ?_
  refine WL.ev (Ev.not rfl) rfl ?_
  refine WL.ev (Ev.pickF rfl rfl rfl) rfl ?_
  refine WL.nil (kr11 _ _ _ ?_)
  refine kh10 _ _ _ ?_
  refine CW.condF rfl ?_
  refine CW.skip ?_
  refine kh9 _ _ _ ?_
  refine CW.seqJ (fun D s' w' => D = [] ∧ ∃ k, k ≤ 2001 ∧ SX w.heap.size w' pp true k ∧ RowKit.Below w.heap.size w w' ∧ Subs [(4, .bool false), (5, .bool true), (6, .pointer (some ⟨pp, 0, none⟩))] s') ?_ ?_
  ·
    refine CW.seq fun kK13 kh13 => ?_
    refine CW.region fun kR14 kr14 => ?_  -- region 6
    refine WL.ev (Ev.assign rfl) rfl ?_
    refine WL.nil (kr14 _ _ _ ?_)
    refine kh13 _ _ _ ?_
    refine CW.block ?_
    refine CW.loop (S := fun i : Nat => [(1, .slice a1 ops.length cap1), (4, .bool false), (5, .bool true), (6, .pointer (some ⟨pp, 0, none⟩)), (8, .int .i64 (i : Int))]) (Inv := K1 w pp ops.length) (mu := fun i => 2000 - i) (0) ?_ ?_ ?_
    ·
      exact ⟨⟨Nat.zero_le _, Nat.zero_le _⟩, hS1, hb1⟩
    ·
      repeat (first | exact Subs.nil | refine Subs.cons rfl ?_)
    ·
      intro i wr hi
      have hle := hi.le.1
      have hle2 := hi.le.2
      have hS := hi.sx
      refine CW.seq fun kK15 kh15 => ?_
      refine CW.seq fun kK16 kh16 => ?_
      rcases Nat.lt_or_ge i ops.length with hln | hln
      ·
        have hd : decide ((i : Int) < (ops.length : Int)) = true := decide_eq_true (by omega)
        refine CW.region fun kR18 kr18 => ?_  -- region 7
        refine WL.ev (Ev.move rfl) rfl ?_
        refine WL.ev (Ev.move rfl) rfl ?_
        refine WL.ev (Ev.len rfl) rfl ?_
        refine WL.ev (Ev.lss rfl rfl) rfl ?_
        refine WL.ev (Ev.move rfl) rfl ?_
        refine WL.want rfl rfl rfl (by rw [hd]; rfl) ?_
        refine WL.ev (Ev.move rfl) rfl ?_
        refine WL.want rfl rfl rfl (by rw [hd]; rfl) ?_
        refine WL.ev (Ev.lss rfl rfl) rfl ?_
        refine WL.ev (Ev.pickT rfl hd rfl) rfl ?_
        refine WL.nil (kr18 _ _ _ ?_)
        refine kh16 _ _ _ ?_
        refine CW.cond rfl (fun hc2 => ?_) (fun hc2 => ?_)  -- if 34
        ·
          simp only [decide_eq_true_eq, decide_eq_false_iff_not, Decidable.not_not, Bool.and_eq_true, Bool.or_eq_true, Bool.not_eq_true', ne_eq, Int.not_lt, Int.not_le] at hc2
          refine CW.skip ?_
          refine kh15 _ _ _ ?_
          refine CW.seq fun kK19 kh19 => ?_
          refine CW.block ?_
          refine CW.seq fun kK20 kh20 => ?_
          refine CW.region fun kR21 kr21 => ?_  -- region 9
          refine WL.ev (Ev.move rfl) rfl ?_
          refine WL.ev (Ev.move rfl) rfl ?_
          refine WL.ev (Ev.move rfl) rfl ?_
          obtain ⟨q, hq⟩ := getO (l := ops) (i := i) (by omega)
          obtain ⟨q1, q2, q3⟩ := hok q (List.mem_of_getElem? hq)
          obtain ⟨ad, had, hadb, hcell⟩ := h1 _ _ hq
          cases had
          refine WL.ev (Ev.indexAddrG rfl rfl (by omega) (by omega)) rfl ?_
          rw [show (((i : Nat) : Int)).toNat * 6 = i * 6 by omega]
          refine WL.ev (Ev.loadAgg (cs := q.cells) rfl rfl rfl (fun k x' hk => ?_)) rfl ?_
          · rw [addr_add, hi.bel.cell (by rw [addr_block]; exact hadb)]; exact hcell k x' hk
          refine WL.call hasF6 rfl rfl (step_spec q.kd w.heap.size pp (i + 1) q.on q.wi q.nn q.xb q.jj q1 q2 q3 (by omega) _ hS) fun v w3 h' => ?_
          obtain ⟨rfl, hS2, hb2⟩ := h'
          refine WL.ev (Ev.assign rfl) rfl ?_
          refine WL.nil (kr21 _ _ _ ?_)
          refine kh20 _ _ _ ?_
          refine CW.seq fun kK22 kh22 => ?_
          refine CW.region fun kR23 kr23 => ?_  -- region 10
          refine WL.ev (Ev.move rfl) rfl ?_
          refine WL.ev (Ev.not rfl) rfl ?_
          refine WL.nil (kr23 _ _ _ ?_)
          refine kh22 _ _ _ ?_
          refine CW.condF rfl ?_
          refine CW.skip ?_
          refine kh19 _ _ _ ?_
          refine CW.region fun kR24 kr24 => ?_  -- region 8
          refine WL.ev (Ev.move rfl) rfl ?_
          first | refine WL.ev (Ev.addIn rfl rfl (by omega)) rfl ?_ | refine WL.ev (Ev.add rfl rfl) rfl ?_
          refine WL.ev (Ev.assign rfl) rfl ?_
          refine WL.nil (kr24 _ _ _ ?_)
          refine ⟨rfl, i + 1, ?_, ?_, ?_⟩
          ·
            repeat (first | exact Subs.nil | refine Subs.cons rfl ?_)
          ·
            exact ⟨by omega, hS2, hi.bel.trans hb2⟩
          ·
            show 2000 - (i + 1) < 2000 - i; omega
        ·
          simp only [decide_eq_true_eq, decide_eq_false_iff_not, Decidable.not_not, Bool.and_eq_true, Bool.or_eq_true, Bool.not_eq_true', ne_eq, Int.not_lt, Int.not_le] at hc2
          refine CW.exit ?_  -- exit 0
          exact ⟨rfl, _, by omega, hS, hi.bel, (by repeat (first | exact Subs.nil | refine Subs.cons rfl ?_))⟩
      ·
        have hd : decide ((i : Int) < (ops.length : Int)) = false := decide_eq_false (by omega)
        refine CW.region fun kR25 kr25 => ?_  -- region 7
        refine WL.ev (Ev.move rfl) rfl ?_
        refine WL.ev (Ev.move rfl) rfl ?_
        refine WL.ev (Ev.len rfl) rfl ?_
        refine WL.ev (Ev.lss rfl rfl) rfl ?_
        refine WL.ev (Ev.move rfl) rfl ?_
        refine WL.pass rfl rfl rfl (by rw [hd]; rfl) rfl ?_
        refine WL.pass rfl rfl rfl (by rw [hd]; rfl) rfl ?_
        refine WL.ev (Ev.pickF rfl hd rfl) rfl ?_
        refine WL.nil (kr25 _ _ _ ?_)
        refine kh16 _ _ _ ?_
        refine CW.condF rfl ?_
        refine CW.exit ?_  -- exit 0
        exact ⟨rfl, _, by omega, hS, hi.bel, (by repeat (first | exact Subs.nil | refine Subs.cons rfl ?_))⟩
  ·
    rintro _ s' wJ ⟨rfl, kJ, hkJ, hSJ, hbJ, hsub⟩
    refine CW.sub hsub ?_
    obtain ⟨vl, vc, vw, ts, cv, wv, cs, hPB, hCM, hts, h16, hcsk⟩ := hSJ
    have htl := hts rfl
    refine CW.seq fun kK26 kh26 => ?_
    refine CW.seq fun kK27 kh27 => ?_
    refine CW.region fun kR28 kr28 => ?_  -- region 12
    refine WL.ev (Ev.assign rfl) rfl ?_
    refine WL.nil (kr28 _ _ _ ?_)
    refine kh27 _ _ _ ?_
    refine CW.block ?_
    refine CW.loop (S := fun i : Nat => [(4, .bool false), (5, .bool true), (6, .pointer (some ⟨pp, 0, none⟩)), (10, .int .i64 (i : Int))]) (Inv := K2 w pp vl ts) (mu := fun i => ts.length - i) (0) ?_ ?_ ?_
    ·
      exact ⟨Nat.zero_le _, ⟨vc, vw, cv, wv, cs, hPB, hCM, by omega⟩, hbJ⟩
    ·
      repeat (first | exact Subs.nil | refine Subs.cons rfl ?_)
    ·
      intro i wr hi
      have hle := hi.le
      obtain ⟨vc2, vw2, cv2, wv2, cs2, hP2, hC2, hk2⟩ := hi.pb
      have hcl2 := hC2.lc
      have hwl2 := hC2.lw
      have k0 : wr.cell? ⟨pp, 0, none⟩ = some vl := by rw [cell_at hP2.cell]; rfl
      obtain ⟨al, capl, hvl⟩ := own_form hP2.ol
      subst hvl
      refine CW.seq fun kK29 kh29 => ?_
      refine CW.seq fun kK30 kh30 => ?_
      refine CW.region fun kR31 kr31 => ?_  -- region 13
      refine WL.ev (Ev.move rfl) rfl ?_
      refine WL.ev (Ev.move rfl) rfl ?_
      refine WL.ev (Ev.nilPtr rfl) rfl ?_
      refine WL.ev (Ev.fieldAddr rfl) rfl ?_
      refine WL.ev (Ev.load rfl rfl (k0)) rfl ?_
      refine WL.ev (Ev.len rfl) rfl ?_
      refine WL.ev (Ev.lss rfl rfl) rfl ?_
      refine WL.nil (kr31 _ _ _ ?_)
      refine kh30 _ _ _ ?_
      refine CW.cond rfl (fun hc5 => ?_) (fun hc5 => ?_)  -- if 51
      ·
        simp only [decide_eq_true_eq, decide_eq_false_iff_not, Decidable.not_not, Bool.and_eq_true, Bool.or_eq_true, Bool.not_eq_true', ne_eq, Int.not_lt, Int.not_le] at hc5
        obtain ⟨x, hx⟩ := getT (l := ts) (i := i) (by omega)
        obtain ⟨f1, f2⟩ := flatB_get ts _ x hx
        obtain ⟨gl, hgl, hcl⟩ := own_cell hP2.ol (by rw [flatB_length]; omega)
        subst hgl
        refine CW.skip ?_
        refine kh29 _ _ _ ?_
        refine CW.seq fun kK32 kh32 => ?_
        refine CW.block ?_
        refine CW.seq fun kK33 kh33 => ?_
        refine CW.region fun kR34 kr34 => ?_  -- region 15
        refine WL.ev (Ev.move rfl) rfl ?_
        refine WL.ev (Ev.move rfl) rfl ?_
        refine WL.ev (Ev.nilPtr rfl) rfl ?_
        refine WL.ev (Ev.fieldAddr rfl) rfl ?_
        refine WL.ev (Ev.load rfl rfl (k0)) rfl ?_
        refine WL.ev (Ev.move rfl) rfl ?_
        refine WL.ev (Ev.indexAddr rfl rfl (by omega) (by omega)) rfl ?_
        rw [show 0 + (((i : Nat) : Int)).toNat * 2 = i * 2 by omega]
        refine WL.ev (Ev.loadAgg (cs := [.pointer (some ⟨x.1, 0, none⟩), .pointer (some ⟨x.2.2.1, 0, none⟩)]) rfl rfl rfl (fun k x' hk => ?_)) rfl ?_
        · rw [add_addr]; exact row2 (hcl _ _ f1) (hcl _ _ f2) k x' hk
        refine WL.call hasF7 rfl rfl (asked_spec _ _ _ _ _ _ _ _ x (List.mem_of_getElem? hx) 0 (by omega) (by omega) (by omega) _ hP2) fun v w3 h' => ?_
        obtain ⟨rfl, hcA, vc3, vw3, va3, vb3, l3, hP3, hC3⟩ := h'
        refine WL.ev (Ev.assign rfl) rfl ?_
        refine WL.nil (kr34 _ _ _ ?_)
        refine kh33 _ _ _ ?_
        refine CW.seq fun kK35 kh35 => ?_
        refine CW.region fun kR36 kr36 => ?_  -- region 16
        refine WL.ev (Ev.move rfl) rfl ?_
        refine WL.ev (Ev.not rfl) rfl ?_
        refine WL.nil (kr36 _ _ _ ?_)
        refine kh35 _ _ _ ?_
        refine CW.condF rfl ?_
        refine CW.skip ?_
        refine kh32 _ _ _ ?_
        refine CW.region fun kR37 kr37 => ?_  -- region 14
        refine WL.ev (Ev.move rfl) rfl ?_
        first | refine WL.ev (Ev.addIn rfl rfl (by omega)) rfl ?_ | refine WL.ev (Ev.add rfl rfl) rfl ?_
        refine WL.ev (Ev.assign rfl) rfl ?_
        refine WL.nil (kr37 _ _ _ ?_)
        refine ⟨rfl, i + 1, ?_, ?_, ?_⟩
        ·
          repeat (first | exact Subs.nil | refine Subs.cons rfl ?_)
        ·
          exact ⟨by omega, ⟨_, _, _, _, _, hP3, hC3 _ hC2, by simp; omega⟩, hi.bel.trans (hP2.bel hcA)⟩
        ·
          show ts.length - (i + 1) < ts.length - i; omega
      ·
        simp only [decide_eq_true_eq, decide_eq_false_iff_not, Decidable.not_not, Bool.and_eq_true, Bool.or_eq_true, Bool.not_eq_true', ne_eq, Int.not_lt, Int.not_le] at hc5
        refine CW.exit ?_  -- exit 2
        refine kh26 _ _ _ ?_
        refine CW.seq fun kK38 kh38 => ?_
        refine CW.region fun kR39 kr39 => ?_  -- region 18
        refine WL.ev (Ev.move rfl) rfl ?_
        refine WL.call hasF8 rfl rfl (owned_spec _ _ _ _ _ _ _ _ _ (by omega) _ hP2 hC2) fun v w4 h' => ?_
        obtain ⟨rfl, hPo, hbo⟩ := h'
        have ko : w4.cell? ⟨pp, 0, none⟩ = some (.slice al ts.length capl) := by rw [cell_at hPo.cell]; rfl
        obtain ⟨x, hx⟩ := getT (l := ts) (i := 0) (by omega)
        obtain ⟨f1, f2⟩ := flatB_get ts _ x hx
        obtain ⟨gl, hgl, hcl⟩ := own_cell hPo.ol (by rw [flatB_length]; omega)
        subst hgl
        refine WL.ev (Ev.assign rfl) rfl ?_
        refine WL.nil (kr39 _ _ _ ?_)
        refine kh38 _ _ _ ?_
        refine CW.seq fun kK40 kh40 => ?_
        refine CW.region fun kR41 kr41 => ?_  -- region 19
        refine WL.ev (Ev.move rfl) rfl ?_
        refine WL.ev (Ev.move rfl) rfl ?_
        refine WL.ev (Ev.nilPtr rfl) rfl ?_
        refine WL.ev (Ev.fieldAddr rfl) rfl ?_
        refine WL.ev (Ev.load rfl rfl (ko)) rfl ?_
        refine WL.ev (Ev.indexAddr rfl rfl (by omega) (by omega)) rfl ?_
        rw [show 0 + (0 : Int).toNat * 2 = 0 * 2 by omega]
        refine WL.ev (Ev.loadAgg (cs := [.pointer (some ⟨x.1, 0, none⟩), .pointer (some ⟨x.2.2.1, 0, none⟩)]) rfl rfl rfl (fun k x' hk => ?_)) rfl ?_
        · rw [add_addr]; exact row2 (hcl _ _ f1) (hcl _ _ f2) k x' hk
        refine WL.call hasF7 rfl rfl (asked_spec _ _ _ _ _ _ _ _ x (List.mem_of_getElem? hx) 4607182418800017408 (by omega) (by omega) (by omega) _ hPo) fun v w5 h' => ?_
        obtain ⟨rfl, hcB, _⟩ := h'
        refine WL.ev (Ev.assign rfl) rfl ?_
        refine WL.nil (kr41 _ _ _ ?_)
        refine kh40 _ _ _ ?_
        refine CW.seq fun kK42 kh42 => ?_
        refine CW.region fun kR43 kr43 => ?_  -- region 20
        refine WL.ev (Ev.move rfl) rfl ?_
        refine WL.ev (Ev.move rfl) rfl ?_
        refine WL.want rfl rfl rfl rfl ?_
        refine WL.ev (Ev.move rfl) rfl ?_
        refine WL.ev (Ev.pickT rfl rfl rfl) rfl ?_
        refine WL.ev (Ev.assign rfl) rfl ?_
        refine WL.nil (kr43 _ _ _ ?_)
        refine kh42 _ _ _ ?_
        refine CW.ret ?_
        refine bodyA.ret1 rfl rfl ?_
        exact ⟨rfl, (hi.bel.trans hbo).trans (hPo.bel hcB)⟩

end Go.Proofs.Ytjlmenmlpmfokaa
