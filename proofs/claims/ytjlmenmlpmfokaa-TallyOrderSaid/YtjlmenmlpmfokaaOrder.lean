/- Package steelyardlaw18: TallyOrder. No condition. -/
import Derived.Test.YtjlmenmlpmfokaaOrd
namespace Go.Proofs.Ytjlmenmlpmfokaa
open Go Sx Fl Ty
set_option linter.unusedVariables false
set_option linter.unusedSimpArgs false

structure I1 (w : World) (ba ra bb rb bc rc : Nat) (j : Bool) (l : List Nat) (i : Nat) (wr : World) : Prop where
  le : i ≤ l.length
  s : S3 w ba ra bb rb bc rc j (occ j (l.take i)) (occ j (l.drop (l.length - i))) (fun _ => 0) i i 0 wr
structure I2 (w : World) (ba ra bb rb bc rc : Nat) (j : Bool) (l : List Nat) (sh : Nat) (i : Nat) (wr : World) : Prop where
  le : i ≤ sh
  s : S3 w ba ra bb rb bc rc j (occ j l) (occ j l) (cP j l (pC sh i)) l.length l.length (cI l.length (pC sh i)) wr
structure I3 (w : World) (ba ra bb rb bc rc : Nat) (j : Bool) (l : List Nat) (sh i bd rd : Nat) (kk : Nat) (wr : World) : Prop where
  md : kk % sh = i
  le : kk < l.length + sh
  s : S3 w ba ra bb rb bc rc j (occ j l) (occ j l) (cP j l (pC sh i)) l.length l.length (cI l.length (pC sh i)) wr
  d : TC wr bd rd j (cP j l (pD sh i kk)) (cI l.length (pD sh i kk))
structure I4 (w : World) (ba ra bb rb bc rc : Nat) (j : Bool) (l mo : List Nat) (i : Nat) (wr : World) : Prop where
  le : i ≤ mo.length
  s : S3 w ba ra bb rb bc rc j (fun k => occ j l k + occ j (mo.take i) k) (occ j l) (occ j l) (l.length + i) l.length l.length wr
structure I5 (w : World) (ba ra bb rb bc rc : Nat) (j : Bool) (l mo : List Nat) (i : Nat) (wr : World) : Prop where
  le : i ≤ mo.length
  s : S3 w ba ra bb rb bc rc j (fun k => occ j l k + occ j (mo.drop i) k) (occ j l) (occ j l) (l.length + (mo.length - i)) l.length l.length wr
structure I6 (w : World) (ba ra : Nat) (j : Bool) (l : List Nat) (L : KV) (vx : Value) (i : Nat) (wr : World) : Prop where
  le : i ≤ L.length
  a : TC wr ba ra j (occ j l) l.length
  own : wr.ownsRow 0 50 2 vx L.length (flatE L)
  chg : Chg [] w wr
structure I7 (w : World) (ba ra : Nat) (j : Bool) (l : List Nat) (L : KV) (vx : Value) (k : Nat) (wr : World) : Prop where
  le : k ≤ l.length
  a : TC wr ba ra j (occ j l) l.length
  own : wr.ownsRow 0 50 2 vx L.length (flatE L)
  chg : Chg [] w wr
theorem getN {l : List Nat} {i : Nat} (h : i < l.length) : ∃ x, l[i]? = some x := ⟨l[i], by simp⟩
theorem getK {l : KV} {i : Nat} (h : i < l.length) : ∃ p, l[i]? = some p := ⟨l[i], by simp⟩
theorem four (b j c : Bool) : b = true ∨ (b = false ∧ j = false) ∨ (b = false ∧ j = true ∧ c = false) ∨ (b = false ∧ j = true ∧ c = true) := by cases b <;> cases j <;> cases c <;> simp
theorem occ_le (j : Bool) (l : List Nat) (k : Nat) : occ j l k ≤ l.length := List.countP_le_length

set_option maxRecDepth 20000 in
set_option maxHeartbeats 2000000 in
theorem order_spec (j : Bool) (a1 a2 : Option Addr) (cap1 cap2 : Nat) (l mo : List Nat) (a3 : Int) (w : World) (h1 : FRow w a1 l) (h2 : FRow w a2 mo) (hl : ∀ x ∈ l, x < 18446744073709551616) (hm : ∀ x ∈ mo, x < 18446744073709551616) : Ret Try.prog 4 [.bool j, .slice a1 l.length cap1, .slice a2 mo.length cap2, .int .i64 a3] w fun v w' => v = .bool true ∧ Chg [] w w' := by
  refine Ret.enter Try.func4 rfl rfl ?_
  refine CW.seq fun kK1 kh1 => ?_
  refine CW.region fun kR2 kr2 => ?_  -- region 0
  refine WL.ev (Ev.assign rfl) rfl ?_
  refine WL.nil (kr2 _ _ _ ?_)
  refine kh1 _ _ _ ?_
  refine CW.seq fun kK3 kh3 => ?_
  refine CW.region fun kR4 kr4 => ?_  -- region 1
  refine WL.call hasF5 rfl rfl (awake_spec _) fun v w1 h => ?_
  obtain ⟨rfl, ha0⟩ := h
  have sz0 := ha0.size
  refine WL.ev (Ev.assign rfl) rfl ?_
  refine WL.nil (kr4 _ _ _ ?_)
  refine kh3 _ _ _ ?_
  refine CW.seq fun kK5 kh5 => ?_
  refine CW.seq fun kK6 kh6 => ?_
  rcases Nat.lt_or_ge 4000 l.length with hln | hln
  ·
    have hd : decide ((4000 : Int) < (l.length : Int)) = true := decide_eq_true (by omega)
    refine CW.region fun kR8 kr8 => ?_  -- region 2
    refine WL.ev (Ev.move rfl) rfl ?_
    refine WL.ev (Ev.not rfl) rfl ?_
    refine WL.ev (Ev.move rfl) rfl ?_
    refine WL.want rfl rfl rfl rfl ?_
    refine WL.ev (Ev.move rfl) rfl ?_
    refine WL.want rfl rfl rfl rfl ?_
    refine WL.ev (Ev.len rfl) rfl ?_
    refine WL.want rfl rfl rfl rfl ?_
    refine WL.ev (Ev.gtr rfl rfl) rfl ?_
    refine WL.ev (Ev.pickF rfl rfl rfl) rfl ?_
    refine WL.ev (Ev.move rfl) rfl ?_
    refine WL.pass rfl rfl rfl (by rw [hd]; rfl) rfl ?_
    refine WL.pass rfl rfl rfl (by rw [hd]; rfl) rfl ?_
    refine WL.pass rfl rfl rfl (by rw [hd]; rfl) rfl ?_
    refine WL.ev (Ev.pickT rfl hd rfl) rfl ?_
    refine WL.nil (kr8 _ _ _ ?_)
    refine kh6 _ _ _ ?_
    refine CW.condT rfl ?_
    refine CW.seq fun kK9 kh9 => ?_
    refine CW.region fun kR10 kr10 => ?_  -- region 3
    refine WL.ev (Ev.move rfl) rfl ?_
    refine WL.ev (Ev.assign rfl) rfl ?_
    refine WL.nil (kr10 _ _ _ ?_)
    refine kh9 _ _ _ ?_
    refine CW.ret ?_
    refine bodyA.ret1 rfl rfl ?_
    exact ⟨rfl, ha0⟩
  ·
    have hd : decide ((4000 : Int) < (l.length : Int)) = false := decide_eq_false (by omega)
    refine CW.region fun kR11 kr11 => ?_  -- region 2
    refine WL.ev (Ev.move rfl) rfl ?_
    refine WL.ev (Ev.not rfl) rfl ?_
    refine WL.ev (Ev.move rfl) rfl ?_
    refine WL.want rfl rfl rfl rfl ?_
    refine WL.ev (Ev.move rfl) rfl ?_
    refine WL.want rfl rfl rfl rfl ?_
    refine WL.ev (Ev.len rfl) rfl ?_
    refine WL.want rfl rfl rfl rfl ?_
    refine WL.ev (Ev.gtr rfl rfl) rfl ?_
    refine WL.ev (Ev.pickF rfl rfl rfl) rfl ?_
    refine WL.ev (Ev.move rfl) rfl ?_
    refine WL.want rfl rfl rfl (by rw [hd]; rfl) ?_
    refine WL.ev (Ev.move rfl) rfl ?_
    refine WL.want rfl rfl rfl (by rw [hd]; rfl) ?_
    refine WL.ev (Ev.len rfl) rfl ?_
    refine WL.want rfl rfl rfl (by rw [hd]; rfl) ?_
    refine WL.ev (Ev.gtr rfl rfl) rfl ?_
    refine WL.ev (Ev.pickF rfl hd rfl) rfl ?_
    refine WL.nil (kr11 _ _ _ ?_)
    refine kh6 _ _ _ ?_
    refine CW.cond rfl (fun hc2 => ?_) (fun hc2 => ?_)  -- if 39
    ·
      simp only [decide_eq_true_eq, decide_eq_false_iff_not, Decidable.not_not, Bool.and_eq_true, Bool.or_eq_true, Bool.not_eq_true', ne_eq, Int.not_lt, Int.not_le] at hc2
      refine CW.seq fun kK12 kh12 => ?_
      refine CW.region fun kR13 kr13 => ?_  -- region 3
      refine WL.ev (Ev.move rfl) rfl ?_
      refine WL.ev (Ev.assign rfl) rfl ?_
      refine WL.nil (kr13 _ _ _ ?_)
      refine kh12 _ _ _ ?_
      refine CW.ret ?_
      refine bodyA.ret1 rfl rfl ?_
      exact ⟨rfl, ha0⟩
    ·
      simp only [decide_eq_true_eq, decide_eq_false_iff_not, Decidable.not_not, Bool.and_eq_true, Bool.or_eq_true, Bool.not_eq_true', ne_eq, Int.not_lt, Int.not_le] at hc2
      refine CW.skip ?_
      refine kh5 _ _ _ ?_
      refine CW.seq fun kK14 kh14 => ?_
      refine CW.region fun kR15 kr15 => ?_  -- region 4
      refine WL.ev (Ev.move rfl) rfl ?_
      refine WL.call hasF9 rfl rfl (tc_New j _) fun v w2 h => ?_
      obtain ⟨ba, ra, rfl, gba, gra, hca, hta⟩ := h
      obtain ⟨lba, lra, _⟩ := hta.lt
      have sza := hca.size
      refine WL.ev (Ev.assign rfl) rfl ?_
      refine WL.nil (kr15 _ _ _ ?_)
      refine kh14 _ _ _ ?_
      refine CW.seq fun kK16 kh16 => ?_
      refine CW.region fun kR17 kr17 => ?_  -- region 5
      refine WL.ev (Ev.move rfl) rfl ?_
      refine WL.call hasF9 rfl rfl (tc_New j _) fun v w3 h => ?_
      obtain ⟨bb, rb, rfl, gbb, grb, hcb, htb⟩ := h
      obtain ⟨lbb, lrb, _⟩ := htb.lt
      have szb := hcb.size
      refine WL.ev (Ev.assign rfl) rfl ?_
      refine WL.nil (kr17 _ _ _ ?_)
      refine kh16 _ _ _ ?_
      refine CW.seq fun kK18 kh18 => ?_
      refine CW.region fun kR19 kr19 => ?_  -- region 6
      refine WL.ev (Ev.move rfl) rfl ?_
      refine WL.call hasF9 rfl rfl (tc_New j _) fun v w4 h => ?_
      obtain ⟨bc, rc, rfl, gbc, grc, hcc, htc⟩ := h
      obtain ⟨lbc, lrc, _⟩ := htc.lt
      have szc := hcc.size
      refine WL.ev (Ev.assign rfl) rfl ?_
      refine WL.nil (kr19 _ _ _ ?_)
      refine kh18 _ _ _ ?_
      refine CW.seqJ (fun D s' w' => D = [] ∧ w' = w4 ∧ ∃ sh : Nat, 1 ≤ sh ∧ sh ≤ 64 ∧ Subs [(0, .bool j), (1, .slice a1 l.length cap1), (2, .slice a2 mo.length cap2), (3, .int .i64 (sh : Int)), (8, .bool false), (10, .pointer (some ⟨ba, 0, none⟩)), (11, .pointer (some ⟨bb, 0, none⟩)), (12, .pointer (some ⟨bc, 0, none⟩))] s') ?_ ?_
      ·
        refine CW.seq fun kK21 kh21 => ?_
        rcases Int.lt_or_le a3 1 with ha3 | ha3
        ·
          have hd : decide (a3 < 1) = true := decide_eq_true ha3
          refine CW.region fun kR23 kr23 => ?_  -- region 7
          refine WL.ev (Ev.move rfl) rfl ?_
          refine WL.ev (Ev.lss rfl rfl) rfl ?_
          refine WL.ev (Ev.move rfl) rfl ?_
          refine WL.pass rfl rfl rfl (by rw [hd]; rfl) rfl ?_
          refine WL.pass rfl rfl rfl (by rw [hd]; rfl) rfl ?_
          refine WL.ev (Ev.pickT rfl hd rfl) rfl ?_
          refine WL.nil (kr23 _ _ _ ?_)
          refine kh21 _ _ _ ?_
          refine CW.condT rfl ?_
          refine CW.region fun kR24 kr24 => ?_  -- region 8
          refine WL.ev (Ev.move rfl) rfl ?_
          refine WL.ev (Ev.len rfl) rfl ?_
          first | refine WL.ev (Ev.remIn rfl rfl (by omega) (by omega)) rfl ?_ | refine WL.ev (Ev.rem rfl rfl (by omega)) rfl ?_
          refine WL.ev (Ev.addIn rfl rfl (by omega)) rfl ?_
          rw [show (1 : Int) + (l.length : Int) % 5 = ((1 + l.length % 5 : Nat) : Int) by omega]
          refine WL.ev (Ev.assign rfl) rfl ?_
          refine WL.nil (kr24 _ _ _ ?_)
          exact ⟨rfl, rfl, 1 + l.length % 5, by omega, by omega, (by repeat (first | exact Subs.nil | refine Subs.cons rfl ?_))⟩
        ·
          have hd : decide (a3 < 1) = false := decide_eq_false (by omega)
          refine CW.region fun kR25 kr25 => ?_  -- region 7
          refine WL.ev (Ev.move rfl) rfl ?_
          refine WL.ev (Ev.lss rfl rfl) rfl ?_
          refine WL.ev (Ev.move rfl) rfl ?_
          refine WL.want rfl rfl rfl (by rw [hd]; rfl) ?_
          refine WL.ev (Ev.move rfl) rfl ?_
          refine WL.want rfl rfl rfl (by rw [hd]; rfl) ?_
          refine WL.ev (Ev.gtr rfl rfl) rfl ?_
          refine WL.ev (Ev.pickF rfl hd rfl) rfl ?_
          refine WL.nil (kr25 _ _ _ ?_)
          refine kh21 _ _ _ ?_
          refine CW.cond rfl (fun hc4 => ?_) (fun hc4 => ?_)  -- if 52
          ·
            simp only [decide_eq_true_eq, decide_eq_false_iff_not, Decidable.not_not, Bool.and_eq_true, Bool.or_eq_true, Bool.not_eq_true', ne_eq, Int.not_lt, Int.not_le] at hc4
            refine CW.region fun kR26 kr26 => ?_  -- region 8
            refine WL.ev (Ev.move rfl) rfl ?_
            refine WL.ev (Ev.len rfl) rfl ?_
            first | refine WL.ev (Ev.remIn rfl rfl (by omega) (by omega)) rfl ?_ | refine WL.ev (Ev.rem rfl rfl (by omega)) rfl ?_
            refine WL.ev (Ev.addIn rfl rfl (by omega)) rfl ?_
            rw [show (1 : Int) + (l.length : Int) % 5 = ((1 + l.length % 5 : Nat) : Int) by omega]
            refine WL.ev (Ev.assign rfl) rfl ?_
            refine WL.nil (kr26 _ _ _ ?_)
            exact ⟨rfl, rfl, 1 + l.length % 5, by omega, by omega, (by repeat (first | exact Subs.nil | refine Subs.cons rfl ?_))⟩
          ·
            simp only [decide_eq_true_eq, decide_eq_false_iff_not, Decidable.not_not, Bool.and_eq_true, Bool.or_eq_true, Bool.not_eq_true', ne_eq, Int.not_lt, Int.not_le] at hc4
            obtain ⟨sh, rfl⟩ : ∃ sh : Nat, a3 = (sh : Int) := ⟨a3.toNat, by omega⟩
            refine CW.skip ?_
            exact ⟨rfl, rfl, sh, by omega, by omega, (by repeat (first | exact Subs.nil | refine Subs.cons rfl ?_))⟩
      ·
        rintro _ s' _ ⟨rfl, rfl, sh, hsh1, hsh2, hsub⟩
        refine CW.sub hsub ?_
        have hD : D6 w ba ra bb rb bc rc := ⟨⟨by omega, by omega, by omega, by omega, by omega, by omega⟩, ⟨by omega, by omega, by omega, by omega⟩, ⟨by omega, by omega, by omega, by omega⟩, ⟨by omega, by omega, by omega, by omega⟩⟩
        have hD2 := hD
        refine CW.seq fun kK27 kh27 => ?_
        refine CW.seq fun kK28 kh28 => ?_
        refine CW.region fun kR29 kr29 => ?_  -- region 9
        refine WL.ev (Ev.assign rfl) rfl ?_
        refine WL.nil (kr29 _ _ _ ?_)
        refine kh28 _ _ _ ?_
        refine CW.block ?_
        refine CW.loop (S := fun i : Nat => [(0, .bool j), (1, .slice a1 l.length cap1), (2, .slice a2 mo.length cap2), (3, .int .i64 (sh : Int)), (8, .bool false), (10, .pointer (some ⟨ba, 0, none⟩)), (11, .pointer (some ⟨bb, 0, none⟩)), (12, .pointer (some ⟨bc, 0, none⟩)), (13, .int .i64 (i : Int))]) (Inv := I1 w ba ra bb rb bc rc j l) (mu := fun i => l.length - i) (0) ?_ ?_ ?_
        ·
          refine ⟨Nat.zero_le _, ⟨((hta.keep hcb (by simp) (by simp)).keep hcc (by simp) (by simp)).congr (fun k => rfl) rfl, (htb.keep hcc (by simp) (by simp)).congr (fun k => ?_) rfl, htc, ((ha0.trans hca).trans hcb).trans hcc⟩⟩
          rw [Nat.sub_zero, List.drop_length]; rfl
        ·
          repeat (first | exact Subs.nil | refine Subs.cons rfl ?_)
        ·
          intro i wr hi
          have hle := hi.le
          have hs := hi.s
          refine CW.seq fun kK30 kh30 => ?_
          refine CW.seq fun kK31 kh31 => ?_
          refine CW.region fun kR32 kr32 => ?_  -- region 10
          refine WL.ev (Ev.move rfl) rfl ?_
          refine WL.ev (Ev.move rfl) rfl ?_
          refine WL.ev (Ev.len rfl) rfl ?_
          refine WL.ev (Ev.lss rfl rfl) rfl ?_
          refine WL.nil (kr32 _ _ _ ?_)
          refine kh31 _ _ _ ?_
          refine CW.cond rfl (fun hc5 => ?_) (fun hc5 => ?_)  -- if 60
          ·
            simp only [decide_eq_true_eq, decide_eq_false_iff_not, Decidable.not_not, Bool.and_eq_true, Bool.or_eq_true, Bool.not_eq_true', ne_eq, Int.not_lt, Int.not_le] at hc5
            refine CW.skip ?_
            refine kh30 _ _ _ ?_
            refine CW.seq fun kK33 kh33 => ?_
            refine CW.block ?_
            refine CW.seq fun kK34 kh34 => ?_
            refine CW.region fun kR35 kr35 => ?_  -- region 12
            refine WL.ev (Ev.move rfl) rfl ?_
            refine WL.ev (Ev.move rfl) rfl ?_
            refine WL.ev (Ev.move rfl) rfl ?_
            obtain ⟨x, hx⟩ := getN (l := l) (i := i) (by omega)
            obtain ⟨adx, hadx, hcx⟩ := h1 _ _ hx
            cases hadx
            refine WL.ev (Ev.indexAddrG rfl rfl (by omega) (by omega)) rfl ?_
            rw [show (((i : Nat) : Int)).toNat * 1 = i by omega]
            refine WL.ev (Ev.load rfl rfl (hs.chg.cell hcx (by simp))) rfl ?_
            refine WL.call hasF10 rfl rfl (tc_Add (hl x (List.mem_of_getElem? hx)) (by omega) hs.a) fun v w5 h' => ?_
            obtain ⟨rfl, hc1, ht1⟩ := h'
            refine WL.nil (kr35 _ _ _ ?_)
            refine kh34 _ _ _ ?_
            refine CW.region fun kR36 kr36 => ?_  -- region 13
            refine WL.ev (Ev.move rfl) rfl ?_
            refine WL.ev (Ev.move rfl) rfl ?_
            refine WL.ev (Ev.move rfl) rfl ?_
            refine WL.ev (Ev.len rfl) rfl ?_
            first | refine WL.ev (Ev.subIn rfl rfl (by omega)) rfl ?_ | refine WL.ev (Ev.sub rfl rfl) rfl ?_
            refine WL.ev (Ev.move rfl) rfl ?_
            refine WL.ev (Ev.subIn rfl rfl (by omega)) rfl ?_
            rw [show (l.length : Int) - 1 - (i : Int) = ((l.length - 1 - i : Nat) : Int) by omega]
            obtain ⟨y, hy⟩ := getN (l := l) (i := l.length - 1 - i) (by omega)
            obtain ⟨ady, hady, hcy⟩ := h1 _ _ hy
            cases hady
            refine WL.ev (Ev.indexAddrG rfl rfl (by omega) (by omega)) rfl ?_
            rw [show (((l.length - 1 - i : Nat) : Int)).toNat * 1 = l.length - 1 - i by omega]
            refine WL.ev (Ev.load rfl rfl ((hs.doA hD hc1 ht1).chg.cell hcy (by simp))) rfl ?_
            refine WL.call hasF10 rfl rfl (tc_Add (hl y (List.mem_of_getElem? hy)) (by omega) (hs.doA hD hc1 ht1).b) fun v w6 h' => ?_
            obtain ⟨rfl, hc2, ht2⟩ := h'
            refine WL.nil (kr36 _ _ _ ?_)
            refine kh33 _ _ _ ?_
            refine CW.region fun kR37 kr37 => ?_  -- region 11
            refine WL.ev (Ev.move rfl) rfl ?_
            first | refine WL.ev (Ev.addIn rfl rfl (by omega)) rfl ?_ | refine WL.ev (Ev.add rfl rfl) rfl ?_
            refine WL.ev (Ev.assign rfl) rfl ?_
            refine WL.nil (kr37 _ _ _ ?_)
            refine ⟨rfl, i + 1, ?_, ?_, ?_⟩
            ·
              repeat (first | exact Subs.nil | refine Subs.cons rfl ?_)
            ·
              refine ⟨by omega, (((hs.doA hD hc1 ht1).doB hD hc2 ht2).set (fun k => occ_step hx k) (fun k => ?_) (fun _ => rfl) rfl rfl rfl)⟩
              have := occ_drop (j := j) hy k
              rw [show l.length - 1 - i + 1 = l.length - i by omega] at this
              rw [show l.length - (i + 1) = l.length - 1 - i by omega, this]
              split <;> omega
            ·
              show l.length - (i + 1) < l.length - i; omega
          ·
            simp only [decide_eq_true_eq, decide_eq_false_iff_not, Decidable.not_not, Bool.and_eq_true, Bool.or_eq_true, Bool.not_eq_true', ne_eq, Int.not_lt, Int.not_le] at hc5
            refine CW.exit ?_  -- exit 0
            refine kh27 _ _ _ ?_
            refine CW.seq fun kK38 kh38 => ?_
            refine CW.seq fun kK39 kh39 => ?_
            refine CW.region fun kR40 kr40 => ?_  -- region 14
            refine WL.ev (Ev.assign rfl) rfl ?_
            refine WL.nil (kr40 _ _ _ ?_)
            refine kh39 _ _ _ ?_
            refine CW.block ?_
            refine CW.loop (S := fun i : Nat => [(0, .bool j), (1, .slice a1 l.length cap1), (2, .slice a2 mo.length cap2), (3, .int .i64 (sh : Int)), (8, .bool false), (10, .pointer (some ⟨ba, 0, none⟩)), (11, .pointer (some ⟨bb, 0, none⟩)), (12, .pointer (some ⟨bc, 0, none⟩)), (14, .int .i64 (i : Int))]) (Inv := I2 w ba ra bb rb bc rc j l sh) (mu := fun i => sh - i) (0) ?_ ?_ ?_
            ·
              have hil : i = l.length := by omega
              subst hil
              refine ⟨Nat.zero_le _, hi.s.set (fun k => by rw [List.take_length]) (fun k => by rw [Nat.sub_self, List.drop_zero]) (fun k => by rw [pC_zero, cP_false]) rfl rfl (by rw [pC_zero, cI_false])⟩
            ·
              repeat (first | exact Subs.nil | refine Subs.cons rfl ?_)
            ·
              intro i wr hi
              have hle := hi.le
              have hs := hi.s
              refine CW.seq fun kK41 kh41 => ?_
              refine CW.seq fun kK42 kh42 => ?_
              refine CW.region fun kR43 kr43 => ?_  -- region 15
              refine WL.ev (Ev.move rfl) rfl ?_
              refine WL.ev (Ev.move rfl) rfl ?_
              refine WL.ev (Ev.lss rfl rfl) rfl ?_
              refine WL.nil (kr43 _ _ _ ?_)
              refine kh42 _ _ _ ?_
              refine CW.cond rfl (fun hc6 => ?_) (fun hc6 => ?_)  -- if 81
              ·
                simp only [decide_eq_true_eq, decide_eq_false_iff_not, Decidable.not_not, Bool.and_eq_true, Bool.or_eq_true, Bool.not_eq_true', ne_eq, Int.not_lt, Int.not_le] at hc6
                refine CW.skip ?_
                refine kh41 _ _ _ ?_
                refine CW.seq fun kK44 kh44 => ?_
                refine CW.block ?_
                refine CW.seq fun kK45 kh45 => ?_
                refine CW.region fun kR46 kr46 => ?_  -- region 17
                refine WL.ev (Ev.move rfl) rfl ?_
                refine WL.call hasF9 rfl rfl (tc_New j _) fun v w7 h' => ?_
                obtain ⟨bd, rd, rfl, gbd, grd, hcd, htd⟩ := h'
                obtain ⟨qa1, qa2, _⟩ := hs.a.lt
                obtain ⟨qb1, qb2, _⟩ := hs.b.lt
                obtain ⟨qc1, qc2, _⟩ := hs.c.lt
                have szr := hs.chg.size
                refine WL.ev (Ev.assign rfl) rfl ?_
                refine WL.nil (kr46 _ _ _ ?_)
                refine kh45 _ _ _ ?_
                refine CW.seq fun kK47 kh47 => ?_
                refine CW.seq fun kK48 kh48 => ?_
                refine CW.region fun kR49 kr49 => ?_  -- region 18
                refine WL.ev (Ev.move rfl) rfl ?_
                refine WL.ev (Ev.assign rfl) rfl ?_
                refine WL.nil (kr49 _ _ _ ?_)
                refine kh48 _ _ _ ?_
                refine CW.block ?_
                refine CW.loop (S := fun kk : Nat => [(0, .bool j), (1, .slice a1 l.length cap1), (2, .slice a2 mo.length cap2), (3, .int .i64 (sh : Int)), (8, .bool false), (10, .pointer (some ⟨ba, 0, none⟩)), (11, .pointer (some ⟨bb, 0, none⟩)), (12, .pointer (some ⟨bc, 0, none⟩)), (14, .int .i64 (i : Int)), (15, .pointer (some ⟨bd, 0, none⟩)), (16, .int .i64 (kk : Int))]) (Inv := I3 w ba ra bb rb bc rc j l sh i bd rd) (mu := fun kk => l.length - kk) (i) ?_ ?_ ?_
                ·
                  refine ⟨Nat.mod_eq_of_lt (by omega), by omega, hs.idle hcd (by simp), htd.congr (fun k => by rw [pD_zero (by omega), cP_false]) (by rw [pD_zero (by omega), cI_false])⟩
                ·
                  repeat (first | exact Subs.nil | refine Subs.cons rfl ?_)
                ·
                  intro kk wi hq
                  have hmd := hq.md
                  have hkl := hq.le
                  have hs2 := hq.s
                  refine CW.seq fun kK50 kh50 => ?_
                  refine CW.seq fun kK51 kh51 => ?_
                  refine CW.region fun kR52 kr52 => ?_  -- region 19
                  refine WL.ev (Ev.move rfl) rfl ?_
                  refine WL.ev (Ev.move rfl) rfl ?_
                  refine WL.ev (Ev.len rfl) rfl ?_
                  refine WL.ev (Ev.lss rfl rfl) rfl ?_
                  refine WL.nil (kr52 _ _ _ ?_)
                  refine kh51 _ _ _ ?_
                  refine CW.cond rfl (fun hc7 => ?_) (fun hc7 => ?_)  -- if 90
                  ·
                    simp only [decide_eq_true_eq, decide_eq_false_iff_not, Decidable.not_not, Bool.and_eq_true, Bool.or_eq_true, Bool.not_eq_true', ne_eq, Int.not_lt, Int.not_le] at hc7
                    refine CW.skip ?_
                    refine kh50 _ _ _ ?_
                    refine CW.seq fun kK53 kh53 => ?_
                    refine CW.block ?_
                    refine CW.region fun kR54 kr54 => ?_  -- region 21
                    refine WL.ev (Ev.move rfl) rfl ?_
                    refine WL.ev (Ev.move rfl) rfl ?_
                    refine WL.ev (Ev.move rfl) rfl ?_
                    obtain ⟨x, hx⟩ := getN (l := l) (i := kk) (by omega)
                    obtain ⟨adx, hadx, hcx⟩ := h1 _ _ hx
                    cases hadx
                    refine WL.ev (Ev.indexAddrG rfl rfl (by omega) (by omega)) rfl ?_
                    rw [show (((kk : Nat) : Int)).toNat * 1 = kk by omega]
                    refine WL.ev (Ev.load rfl rfl (hs2.chg.cell hcx (by simp))) rfl ?_
                    refine WL.call hasF10 rfl rfl (tc_Add (hl x (List.mem_of_getElem? hx)) (by have := cI_le l.length (pD sh i kk); omega) hq.d) fun v w8 h' => ?_
                    obtain ⟨rfl, hc1, ht1⟩ := h'
                    refine WL.nil (kr54 _ _ _ ?_)
                    refine kh53 _ _ _ ?_
                    refine CW.region fun kR55 kr55 => ?_  -- region 20
                    refine WL.ev (Ev.move rfl) rfl ?_
                    refine WL.ev (Ev.move rfl) rfl ?_
                    first | refine WL.ev (Ev.addIn rfl rfl (by omega)) rfl ?_ | refine WL.ev (Ev.add rfl rfl) rfl ?_
                    refine WL.ev (Ev.assign rfl) rfl ?_
                    refine WL.nil (kr55 _ _ _ ?_)
                    refine ⟨rfl, kk + sh, ?_, ?_, ?_⟩
                    ·
                      repeat (first | exact Subs.nil | refine Subs.cons rfl ?_)
                    ·
                      refine ⟨by rw [Nat.add_mod_right]; exact hmd, by omega, hs2.idle hc1 (fun x hx => by simp only [List.mem_cons, List.not_mem_nil, or_false] at hx; omega), ht1.congr (fun k => pD_cnt (by omega) hmd hx k) (pD_num (by omega) hmd hx)⟩
                    ·
                      show l.length - (kk + sh) < l.length - kk; omega
                  ·
                    simp only [decide_eq_true_eq, decide_eq_false_iff_not, Decidable.not_not, Bool.and_eq_true, Bool.or_eq_true, Bool.not_eq_true', ne_eq, Int.not_lt, Int.not_le] at hc7
                    refine CW.exit ?_  -- exit 4
                    refine kh47 _ _ _ ?_
                    refine CW.seq fun kK56 kh56 => ?_
                    have hkn : l.length ≤ kk := by omega
                    obtain ⟨ld, hld, hlc, _, hlk⟩ := hq.d.list
                    have hcl := cI_le l.length (pC sh i)
                    have hdl := cI_le l.length (pD sh i kk)
                    refine CW.region fun kR57 kr57 => ?_  -- region 22
                    refine WL.ev (Ev.move rfl) rfl ?_
                    refine WL.ev (Ev.move rfl) rfl ?_
                    refine WL.call hasF11 rfl rfl (tc_Merge hs2.c hq.d hld hlc (by omega) (by omega) (by omega) (by omega)) fun v w9 h' => ?_
                    rcases h' with ⟨hbig, _, _⟩ | ⟨_, rfl, hcm, htm⟩
                    · exfalso; omega
                    have hs3 := hs2
                    refine WL.ev (Ev.assign rfl) rfl ?_
                    refine WL.nil (kr57 _ _ _ ?_)
                    refine kh56 _ _ _ ?_
                    refine CW.seq fun kK58 kh58 => ?_
                    refine CW.region fun kR59 kr59 => ?_  -- region 23
                    refine WL.ev (Ev.move rfl) rfl ?_
                    refine WL.ev (Ev.neq rfl rfl) rfl ?_
                    refine WL.nil (kr59 _ _ _ ?_)
                    refine kh58 _ _ _ ?_
                    refine CW.condF rfl ?_
                    refine CW.skip ?_
                    refine kh44 _ _ _ ?_
                    refine CW.region fun kR60 kr60 => ?_  -- region 16
                    refine WL.ev (Ev.move rfl) rfl ?_
                    first | refine WL.ev (Ev.addIn rfl rfl (by omega)) rfl ?_ | refine WL.ev (Ev.add rfl rfl) rfl ?_
                    refine WL.ev (Ev.assign rfl) rfl ?_
                    refine WL.nil (kr60 _ _ _ ?_)
                    refine ⟨rfl, i + 1, ?_, ?_, ?_⟩
                    ·
                      repeat (first | exact Subs.nil | refine Subs.cons rfl ?_)
                    ·
                      refine ⟨by omega, (hs3.doC hD hcm htm).set (fun _ => rfl) (fun _ => rfl) (fun k => ?_) rfl rfl (pC_num (by omega))⟩
                      show cP j l (pC sh i) k + msum j ld k = _
                      rw [msum_ok hld.nodup (fun p hp => (hlk p hp).2), hlc]
                      exact pC_cnt (by omega) k
                    ·
                      show sh - (i + 1) < sh - i; omega
              ·
                simp only [decide_eq_true_eq, decide_eq_false_iff_not, Decidable.not_not, Bool.and_eq_true, Bool.or_eq_true, Bool.not_eq_true', ne_eq, Int.not_lt, Int.not_le] at hc6
                refine CW.exit ?_  -- exit 2
                refine kh38 _ _ _ ?_
                refine CW.seq fun kK61 kh61 => ?_
                refine CW.seq fun kK62 kh62 => ?_
                refine CW.region fun kR63 kr63 => ?_  -- region 25
                refine WL.ev (Ev.assign rfl) rfl ?_
                refine WL.nil (kr63 _ _ _ ?_)
                refine kh62 _ _ _ ?_
                refine CW.block ?_
                refine CW.loop (S := fun i : Nat => [(0, .bool j), (1, .slice a1 l.length cap1), (2, .slice a2 mo.length cap2), (3, .int .i64 (sh : Int)), (8, .bool false), (10, .pointer (some ⟨ba, 0, none⟩)), (11, .pointer (some ⟨bb, 0, none⟩)), (12, .pointer (some ⟨bc, 0, none⟩)), (18, .int .i64 (i : Int))]) (Inv := I4 w ba ra bb rb bc rc j l mo) (mu := fun i => mo.length - i) (0) ?_ ?_ ?_
                ·
                  have hil : i = sh := by omega
                  subst hil
                  refine ⟨Nat.zero_le _, hi.s.set (fun k => rfl) (fun k => rfl) (fun k => by rw [pC_full (by omega), cP_true]) rfl rfl (by rw [pC_full (by omega), cI_true])⟩
                ·
                  repeat (first | exact Subs.nil | refine Subs.cons rfl ?_)
                ·
                  intro i wr hi
                  have hle := hi.le
                  have hs := hi.s
                  refine CW.seq fun kK64 kh64 => ?_
                  refine CW.seq fun kK65 kh65 => ?_
                  refine CW.region fun kR66 kr66 => ?_  -- region 26
                  refine WL.ev (Ev.move rfl) rfl ?_
                  refine WL.ev (Ev.move rfl) rfl ?_
                  refine WL.ev (Ev.len rfl) rfl ?_
                  refine WL.ev (Ev.lss rfl rfl) rfl ?_
                  refine WL.nil (kr66 _ _ _ ?_)
                  refine kh65 _ _ _ ?_
                  refine CW.cond rfl (fun hc9 => ?_) (fun hc9 => ?_)  -- if 108
                  ·
                    simp only [decide_eq_true_eq, decide_eq_false_iff_not, Decidable.not_not, Bool.and_eq_true, Bool.or_eq_true, Bool.not_eq_true', ne_eq, Int.not_lt, Int.not_le] at hc9
                    refine CW.skip ?_
                    refine kh64 _ _ _ ?_
                    refine CW.seq fun kK67 kh67 => ?_
                    refine CW.block ?_
                    refine CW.region fun kR68 kr68 => ?_  -- region 28
                    refine WL.ev (Ev.move rfl) rfl ?_
                    refine WL.ev (Ev.move rfl) rfl ?_
                    refine WL.ev (Ev.move rfl) rfl ?_
                    obtain ⟨x, hx⟩ := getN (l := mo) (i := i) (by omega)
                    obtain ⟨adx, hadx, hcx⟩ := h2 _ _ hx
                    cases hadx
                    refine WL.ev (Ev.indexAddrG rfl rfl (by omega) (by omega)) rfl ?_
                    rw [show (((i : Nat) : Int)).toNat * 1 = i by omega]
                    refine WL.ev (Ev.load rfl rfl (hs.chg.cell hcx (by simp))) rfl ?_
                    refine WL.call hasF10 rfl rfl (tc_Add (hm x (List.mem_of_getElem? hx)) (by omega) hs.a) fun v w10 h' => ?_
                    obtain ⟨rfl, hc1, ht1⟩ := h'
                    refine WL.nil (kr68 _ _ _ ?_)
                    refine kh67 _ _ _ ?_
                    refine CW.region fun kR69 kr69 => ?_  -- region 27
                    refine WL.ev (Ev.move rfl) rfl ?_
                    first | refine WL.ev (Ev.addIn rfl rfl (by omega)) rfl ?_ | refine WL.ev (Ev.add rfl rfl) rfl ?_
                    refine WL.ev (Ev.assign rfl) rfl ?_
                    refine WL.nil (kr69 _ _ _ ?_)
                    refine ⟨rfl, i + 1, ?_, ?_, ?_⟩
                    ·
                      repeat (first | exact Subs.nil | refine Subs.cons rfl ?_)
                    ·
                      refine ⟨by omega, (hs.doA hD hc1 ht1).set (fun k => ?_) (fun _ => rfl) (fun _ => rfl) rfl rfl rfl⟩
                      have := occ_step (j := j) hx k
                      try dsimp only
                      by_cases hk : k = cval j x
                      · rw [if_pos hk] at this ⊢; omega
                      · rw [if_neg hk] at this ⊢; omega
                    ·
                      show mo.length - (i + 1) < mo.length - i; omega
                  ·
                    simp only [decide_eq_true_eq, decide_eq_false_iff_not, Decidable.not_not, Bool.and_eq_true, Bool.or_eq_true, Bool.not_eq_true', ne_eq, Int.not_lt, Int.not_le] at hc9
                    refine CW.exit ?_  -- exit 6
                    refine kh61 _ _ _ ?_
                    refine CW.seq fun kK70 kh70 => ?_
                    refine CW.seq fun kK71 kh71 => ?_
                    refine CW.region fun kR72 kr72 => ?_  -- region 29
                    refine WL.ev (Ev.assign rfl) rfl ?_
                    refine WL.nil (kr72 _ _ _ ?_)
                    refine kh71 _ _ _ ?_
                    refine CW.block ?_
                    refine CW.loop (S := fun i : Nat => [(0, .bool j), (1, .slice a1 l.length cap1), (2, .slice a2 mo.length cap2), (3, .int .i64 (sh : Int)), (8, .bool false), (10, .pointer (some ⟨ba, 0, none⟩)), (11, .pointer (some ⟨bb, 0, none⟩)), (12, .pointer (some ⟨bc, 0, none⟩)), (19, .int .i64 (i : Int))]) (Inv := I5 w ba ra bb rb bc rc j l mo) (mu := fun i => mo.length - i) (0) ?_ ?_ ?_
                    ·
                      have hil : i = mo.length := by omega
                      subst hil
                      refine ⟨Nat.zero_le _, hi.s.set (fun k => by rw [List.take_length, List.drop_zero]) (fun k => rfl) (fun k => rfl) (by omega) rfl rfl⟩
                    ·
                      repeat (first | exact Subs.nil | refine Subs.cons rfl ?_)
                    ·
                      intro i wr hi
                      have hle := hi.le
                      have hs := hi.s
                      refine CW.seq fun kK73 kh73 => ?_
                      refine CW.seq fun kK74 kh74 => ?_
                      refine CW.region fun kR75 kr75 => ?_  -- region 30
                      refine WL.ev (Ev.move rfl) rfl ?_
                      refine WL.ev (Ev.move rfl) rfl ?_
                      refine WL.ev (Ev.len rfl) rfl ?_
                      refine WL.ev (Ev.lss rfl rfl) rfl ?_
                      refine WL.nil (kr75 _ _ _ ?_)
                      refine kh74 _ _ _ ?_
                      refine CW.cond rfl (fun hc10 => ?_) (fun hc10 => ?_)  -- if 120
                      ·
                        simp only [decide_eq_true_eq, decide_eq_false_iff_not, Decidable.not_not, Bool.and_eq_true, Bool.or_eq_true, Bool.not_eq_true', ne_eq, Int.not_lt, Int.not_le] at hc10
                        refine CW.skip ?_
                        refine kh73 _ _ _ ?_
                        refine CW.seq fun kK76 kh76 => ?_
                        refine CW.block ?_
                        refine CW.seq fun kK77 kh77 => ?_
                        refine CW.region fun kR78 kr78 => ?_  -- region 32
                        refine WL.ev (Ev.move rfl) rfl ?_
                        refine WL.ev (Ev.move rfl) rfl ?_
                        refine WL.ev (Ev.move rfl) rfl ?_
                        obtain ⟨x, hx⟩ := getN (l := mo) (i := i) (by omega)
                        obtain ⟨adx, hadx, hcx⟩ := h2 _ _ hx
                        cases hadx
                        refine WL.ev (Ev.indexAddrG rfl rfl (by omega) (by omega)) rfl ?_
                        rw [show (((i : Nat) : Int)).toNat * 1 = i by omega]
                        refine WL.ev (Ev.load rfl rfl (hs.chg.cell hcx (by simp))) rfl ?_
                        refine WL.call hasF12 rfl rfl (tc_Take (hm x (List.mem_of_getElem? hx)) (by have := occ_drop (j := j) hx (cval j x); rw [if_pos rfl] at this; show 0 < occ j l _ + occ j (mo.drop i) _; omega) hs.a) fun v w11 h' => ?_
                        obtain ⟨rfl, hc1, ht1⟩ := h'
                        refine WL.ev (Ev.assign rfl) rfl ?_
                        refine WL.nil (kr78 _ _ _ ?_)
                        refine kh77 _ _ _ ?_
                        refine CW.seq fun kK79 kh79 => ?_
                        refine CW.region fun kR80 kr80 => ?_  -- region 33
                        refine WL.ev (Ev.move rfl) rfl ?_
                        refine WL.ev (Ev.not rfl) rfl ?_
                        refine WL.nil (kr80 _ _ _ ?_)
                        refine kh79 _ _ _ ?_
                        refine CW.condF rfl ?_
                        refine CW.skip ?_
                        refine kh76 _ _ _ ?_
                        refine CW.region fun kR81 kr81 => ?_  -- region 31
                        refine WL.ev (Ev.move rfl) rfl ?_
                        first | refine WL.ev (Ev.addIn rfl rfl (by omega)) rfl ?_ | refine WL.ev (Ev.add rfl rfl) rfl ?_
                        refine WL.ev (Ev.assign rfl) rfl ?_
                        refine WL.nil (kr81 _ _ _ ?_)
                        refine ⟨rfl, i + 1, ?_, ?_, ?_⟩
                        ·
                          repeat (first | exact Subs.nil | refine Subs.cons rfl ?_)
                        ·
                          refine ⟨by omega, (hs.doA hD hc1 ht1).set (fun k => ?_) (fun _ => rfl) (fun _ => rfl) (by omega) rfl rfl⟩
                          have := occ_drop (j := j) hx k
                          try dsimp only
                          by_cases hk : k = cval j x
                          · rw [if_pos hk] at this ⊢; omega
                          · rw [if_neg hk] at this ⊢; omega
                        ·
                          show mo.length - (i + 1) < mo.length - i; omega
                      ·
                        simp only [decide_eq_true_eq, decide_eq_false_iff_not, Decidable.not_not, Bool.and_eq_true, Bool.or_eq_true, Bool.not_eq_true', ne_eq, Int.not_lt, Int.not_le] at hc10
                        refine CW.exit ?_  -- exit 8
                        refine kh70 _ _ _ ?_
                        refine CW.seq fun kK82 kh82 => ?_
                        have him : i = mo.length := by omega
                        subst him
                        have hs0 : S3 w ba ra bb rb bc rc j (occ j l) (occ j l) (occ j l) l.length l.length l.length wr := hi.s.set (fun k => by rw [List.drop_length]; rfl) (fun _ => rfl) (fun _ => rfl) (by omega) rfl rfl
                        refine CW.region fun kR83 kr83 => ?_  -- region 35
                        refine WL.ev (Ev.move rfl) rfl ?_
                        refine WL.call hasF13 rfl rfl (tc_Entries hs0.a) fun vx w12 h' => ?_
                        obtain ⟨L, hL, hox, hcx, hfx⟩ := h'
                        obtain ⟨ax, capx, hvx⟩ := own_form hox
                        subst hvx
                        have hs1 := hs0.idle hcx (by simp)
                        have hok := hs0.a.ok hL
                        have htL := hs0.a.tot hL
                        have hlL := length_le_tot hL.pos
                        refine WL.ev (Ev.assign rfl) rfl ?_
                        refine WL.nil (kr83 _ _ _ ?_)
                        refine kh82 _ _ _ ?_
                        refine CW.seq fun kK84 kh84 => ?_
                        refine CW.seq fun kK85 kh85 => ?_
                        refine CW.region fun kR86 kr86 => ?_  -- region 36
                        refine WL.ev (Ev.move rfl) rfl ?_
                        refine WL.ev (Ev.move rfl) rfl ?_
                        refine WL.call hasF13 rfl rfl (tc_Entries hs1.b) fun vb w13 h' => ?_
                        obtain ⟨Lb, hLb, hob, hcb2, hfb⟩ := h'
                        obtain rfl := hL.uniq hLb
                        have hs4 := hs1.idle hcb2 (by simp)
                        have hox2 := own_keep hox hcb2 (by simp)
                        refine WL.call hasF14 rfl rfl (same_spec _ _ L L (by omega) _ hox2 hob) fun v w14 h' => ?_
                        obtain ⟨rfl, hcs⟩ := h'
                        rw [show decide (L = L) = true from decide_eq_true rfl]
                        have hs5 := hs4.idle hcs (by simp)
                        have hox4 := own_keep hox2 hcs (by simp)
                        refine WL.ev (Ev.not rfl) rfl ?_
                        refine WL.ev (Ev.move rfl) rfl ?_
                        refine WL.want rfl rfl rfl rfl ?_
                        refine WL.ev (Ev.move rfl) rfl ?_
                        refine WL.want rfl rfl rfl rfl ?_
                        refine WL.ev (Ev.move rfl) rfl ?_
                        refine WL.want rfl rfl rfl rfl ?_
                        refine WL.call hasF13 rfl rfl (tc_Entries hs5.c) fun vc w15 h' => ?_
                        obtain ⟨Lc, hLc, hoc, hcc2, hfc⟩ := h'
                        obtain rfl := hL.uniq hLc
                        have hs6 := hs5.idle hcc2 (by simp)
                        have hox5 := own_keep hox4 hcc2 (by simp)
                        refine WL.want rfl rfl rfl rfl ?_
                        refine WL.call hasF14 rfl rfl (same_spec _ _ L L (by omega) _ hox5 hoc) fun v w16 h' => ?_
                        obtain ⟨rfl, hcs2⟩ := h'
                        rw [show decide (L = L) = true from decide_eq_true rfl]
                        have hsE := hs6.idle hcs2 (by simp)
                        have hoxE := own_keep hox5 hcs2 (by simp)
                        refine WL.want rfl rfl rfl rfl ?_
                        refine WL.ev (Ev.not rfl) rfl ?_
                        refine WL.ev (Ev.pickF rfl rfl rfl) rfl ?_
                        refine WL.ev (Ev.move rfl) rfl ?_
                        refine WL.want rfl rfl rfl rfl ?_
                        refine WL.ev (Ev.move rfl) rfl ?_
                        refine WL.want rfl rfl rfl rfl ?_
                        refine WL.call hasF15 rfl rfl (tc_All hsE.a) fun v w17 h' => ?_
                        obtain ⟨rfl, rfl⟩ := h'
                        refine WL.want rfl rfl rfl rfl ?_
                        refine WL.ev (Ev.move rfl) rfl ?_
                        refine WL.want rfl rfl rfl rfl ?_
                        refine WL.ev (Ev.len rfl) rfl ?_
                        refine WL.want rfl rfl rfl rfl ?_
                        refine WL.ev (Ev.neq rfl rfl) rfl ?_
                        rw [show decide ((l.length : Int) ≠ (l.length : Int)) = false from decide_eq_false (by omega)]
                        refine WL.ev (Ev.pickF rfl rfl rfl) rfl ?_
                        refine WL.nil (kr86 _ _ _ ?_)
                        refine kh85 _ _ _ ?_
                        refine CW.condF rfl ?_
                        refine CW.skip ?_
                        refine kh84 _ _ _ ?_
                        refine CW.seq fun kK87 kh87 => ?_
                        refine CW.region fun kR88 kr88 => ?_  -- region 38
                        refine WL.ev (Ev.assign rfl) rfl ?_
                        refine WL.nil (kr88 _ _ _ ?_)
                        refine kh87 _ _ _ ?_
                        refine CW.seq fun kK89 kh89 => ?_
                        refine CW.seq fun kK90 kh90 => ?_
                        refine CW.region fun kR91 kr91 => ?_  -- region 39
                        refine WL.ev (Ev.assign rfl) rfl ?_
                        refine WL.nil (kr91 _ _ _ ?_)
                        refine kh90 _ _ _ ?_
                        refine CW.block ?_
                        refine CW.loop (S := fun i : Nat => [(0, .bool j), (1, .slice a1 l.length cap1), (8, .bool false), (10, .pointer (some ⟨ba, 0, none⟩)), (21, .slice ax L.length capx), (22, .int .i64 (tot (L.take i) : Int)), (23, .int .i64 (i : Int))]) (Inv := I6 w ba ra j l L (.slice ax L.length capx)) (mu := fun i => L.length - i) (0) ?_ ?_ ?_
                        ·
                          exact ⟨Nat.zero_le _, hsE.a, hoxE, hsE.chg⟩
                        ·
                          repeat (first | exact Subs.nil | refine Subs.cons rfl ?_)
                        ·
                          intro i wr hi
                          have hle := hi.le
                          refine CW.seq fun kK92 kh92 => ?_
                          refine CW.seq fun kK93 kh93 => ?_
                          refine CW.region fun kR94 kr94 => ?_  -- region 40
                          refine WL.ev (Ev.move rfl) rfl ?_
                          refine WL.ev (Ev.move rfl) rfl ?_
                          refine WL.ev (Ev.len rfl) rfl ?_
                          refine WL.ev (Ev.lss rfl rfl) rfl ?_
                          refine WL.nil (kr94 _ _ _ ?_)
                          refine kh93 _ _ _ ?_
                          refine CW.cond rfl (fun hc13 => ?_) (fun hc13 => ?_)  -- if 155
                          ·
                            simp only [decide_eq_true_eq, decide_eq_false_iff_not, Decidable.not_not, Bool.and_eq_true, Bool.or_eq_true, Bool.not_eq_true', ne_eq, Int.not_lt, Int.not_le] at hc13
                            refine CW.skip ?_
                            refine kh92 _ _ _ ?_
                            refine CW.seq fun kK95 kh95 => ?_
                            refine CW.block ?_
                            refine CW.seq fun kK96 kh96 => ?_
                            refine CW.seq fun kK97 kh97 => ?_
                            rcases Nat.eq_zero_or_pos i with hi0 | hi0
                            ·
                              obtain ⟨p, hp⟩ := getK (l := L) (i := i) (by omega)
                              obtain ⟨gx, hgx, hk1, hk2⟩ := own_ptr hi.own hp
                              subst hgx
                              have hpm := List.mem_of_getElem? hp
                              have hpp := hL.pos p hpm
                              have hpk := hok p hpm
                              have hd6 : decide ((p.2 : Int) < 1) = false := decide_eq_false (by omega)
                              have htk : tot (L.take (i + 1)) = tot (L.take i) + p.2 := by rw [take_next hp, tot_append]; simp [tot]
                              have htl := tot_take L (i + 1)
                              have hd9 : decide ((0 : Int) < (i : Int)) = false := decide_eq_false (by omega)
                              refine CW.regionS hmix (by kernel_rfl) fun kR99 kr99 => ?_  -- region 42
                              refine WS.ev (Ev.move rfl) rfl ?_
                              refine WS.ev (Ev.move rfl) rfl ?_
                              refine WS.ev (Ev.indexAddr rfl rfl (by omega) (by omega)) rfl ?_
                              rw [show 0 + (((i : Nat) : Int)).toNat * 2 = i * 2 by omega]
                              refine WS.ev (Ev.fieldAddr rfl) rfl ?_
                              refine WS.ev (Ev.load rfl rfl ((Chg.drew [] wr).cell hk2 (by simp))) rfl ?_
                              refine WS.ev (Ev.lss rfl rfl) rfl ?_
                              refine WS.ev (Ev.move rfl) rfl ?_
                              refine WS.want rfl rfl rfl (by rw [hd6]; rfl) ?_
                              refine WS.ev (Ev.move rfl) rfl ?_
                              refine WS.want rfl rfl rfl (by rw [hd6]; rfl) ?_
                              refine WS.ev (Ev.gtr rfl rfl) rfl ?_
                              refine WS.want rfl rfl rfl (by rw [hd6]; rfl) ?_
                              refine WS.ev (Ev.move rfl) rfl ?_
                              refine WS.pass rfl rfl rfl (by rw [hd9]; rfl) rfl ?_
                              refine WS.pass rfl rfl rfl (by rw [hd9]; rfl) rfl ?_
                              refine WS.pass rfl rfl rfl (by rw [hd9]; rfl) rfl ?_
                              refine WS.pass rfl rfl rfl (by rw [hd9]; rfl) rfl ?_
                              refine WS.pass rfl rfl rfl (by rw [hd9]; rfl) rfl ?_
                              refine WS.pass rfl rfl rfl (by rw [hd9]; rfl) rfl ?_
                              refine WS.pass rfl rfl rfl (by rw [hd9]; rfl) rfl ?_
                              refine WS.pass rfl rfl rfl (by rw [hd9]; rfl) rfl ?_
                              refine WS.pass rfl rfl rfl (by rw [hd9]; rfl) rfl ?_
                              refine WS.pass rfl rfl rfl (by rw [hd9]; rfl) rfl ?_
                              refine WS.pass rfl rfl rfl (by rw [hd9]; rfl) rfl ?_
                              refine WS.pass rfl rfl rfl (by rw [hd9]; rfl) rfl ?_
                              refine WS.pass rfl rfl rfl (by rw [hd9]; rfl) rfl ?_
                              refine WS.want rfl rfl rfl (by rw [hd6]; rfl) ?_
                              refine WS.ev (Ev.pickF rfl hd9 rfl) rfl ?_
                              refine WS.ev (Ev.pickF rfl hd6 rfl) rfl ?_
                              refine WS.nil (kr99 _ _ ?_)
                              refine kh97 _ _ _ ?_
                              refine CW.condF rfl ?_
                              refine CW.skip ?_
                              refine kh96 _ _ _ ?_
                              refine CW.seq fun kK100 kh100 => ?_
                              refine CW.region fun kR101 kr101 => ?_  -- region 44
                              refine WL.ev (Ev.move rfl) rfl ?_
                              refine WL.ev (Ev.move rfl) rfl ?_
                              refine WL.ev (Ev.move rfl) rfl ?_
                              refine WL.ev (Ev.indexAddr rfl rfl (by omega) (by omega)) rfl ?_
                              rw [show 0 + (((i : Nat) : Int)).toNat * 2 = i * 2 by omega]
                              refine WL.ev (Ev.fieldAddr rfl) rfl ?_
                              refine WL.ev (Ev.load rfl rfl ((Chg.drew [] wr).cell hk2 (by simp))) rfl ?_
                              refine WL.ev (Ev.addIn rfl rfl (by omega)) rfl ?_
                              rw [show (tot (L.take i) : Int) + (p.2 : Int) = (tot (L.take (i + 1)) : Int) by omega]
                              refine WL.ev (Ev.assign rfl) rfl ?_
                              refine WL.nil (kr101 _ _ _ ?_)
                              refine kh100 _ _ _ ?_
                              refine CW.seq fun kK102 kh102 => ?_
                              refine CW.region fun kR103 kr103 => ?_  -- region 45
                              refine WL.ev (Ev.assign rfl) rfl ?_
                              refine WL.nil (kr103 _ _ _ ?_)
                              refine kh102 _ _ _ ?_
                              refine CW.seq fun kK104 kh104 => ?_
                              refine CW.seq fun kK105 kh105 => ?_
                              refine CW.region fun kR106 kr106 => ?_  -- region 46
                              refine WL.ev (Ev.assign rfl) rfl ?_
                              refine WL.nil (kr106 _ _ _ ?_)
                              refine kh105 _ _ _ ?_
                              refine CW.block ?_
                              refine CW.loop (S := fun k : Nat => [(0, .bool j), (1, .slice a1 l.length cap1), (8, .bool false), (10, .pointer (some ⟨ba, 0, none⟩)), (21, .slice (some ⟨gx, 0, none⟩) L.length capx), (22, .int .i64 (tot (L.take (i + 1)) : Int)), (23, .int .i64 (i : Int)), (24, .int .i64 (occ j (l.take k) p.1 : Int)), (25, .int .i64 (k : Int))]) (Inv := I7 w ba ra j l L (.slice (some ⟨gx, 0, none⟩) L.length capx)) (mu := fun k => l.length - k) (0) ?_ ?_ ?_
                              ·
                                exact ⟨Nat.zero_le _, hi.a.keep (Chg.drew [] wr) (by simp) (by simp), own_keep hi.own (Chg.drew [] wr) (by simp), hi.chg.trans (Chg.drew _ _)⟩
                              ·
                                repeat (first | exact Subs.nil | refine Subs.cons rfl ?_)
                              ·
                                intro k wq hq
                                have hkl := hq.le
                                refine CW.seq fun kK107 kh107 => ?_
                                refine CW.seq fun kK108 kh108 => ?_
                                refine CW.region fun kR109 kr109 => ?_  -- region 47
                                refine WL.ev (Ev.move rfl) rfl ?_
                                refine WL.ev (Ev.move rfl) rfl ?_
                                refine WL.ev (Ev.len rfl) rfl ?_
                                refine WL.ev (Ev.lss rfl rfl) rfl ?_
                                refine WL.nil (kr109 _ _ _ ?_)
                                refine kh108 _ _ _ ?_
                                refine CW.cond rfl (fun hc15 => ?_) (fun hc15 => ?_)  -- if 193
                                ·
                                  simp only [decide_eq_true_eq, decide_eq_false_iff_not, Decidable.not_not, Bool.and_eq_true, Bool.or_eq_true, Bool.not_eq_true', ne_eq, Int.not_lt, Int.not_le] at hc15
                                  refine CW.skip ?_
                                  refine kh107 _ _ _ ?_
                                  refine CW.seq fun kK110 kh110 => ?_
                                  refine CW.block ?_
                                  refine CW.seq fun kK111 kh111 => ?_
                                  obtain ⟨x, hx⟩ := getN (l := l) (i := k) (by omega)
                                  obtain ⟨adx, hadx, hcx⟩ := h1 _ _ hx
                                  cases hadx
                                  obtain ⟨g9, hg9, hk1q, hk2q⟩ := own_ptr hq.own hp
                                  cases hg9
                                  have hxl := hl x (List.mem_of_getElem? hx)
                                  have hosx := occ_step (j := j) hx p.1
                                  rcases four (decide (canon x = canon p.1)) j (decide (x % 9223372036854775808 = 0)) with hA | ⟨hA, hj⟩ | ⟨hA, hj, hz⟩ | ⟨hA, hj, hz⟩
                                  ·
                                    have hkey : cval j x = p.1 := (alike_key hxl hpk).1 (.inl hA)
                                    have hoT : occ j (l.take (k + 1)) p.1 = occ j (l.take k) p.1 + 1 := by rw [← hosx, if_pos hkey.symm]
                                    refine CW.regionS hmix (by kernel_rfl) fun kR113 kr113 => ?_  -- region 49
                                    refine WS.ev (Ev.move rfl) rfl ?_
                                    refine WS.ev (Ev.move rfl) rfl ?_
                                    refine WS.ev (Ev.indexAddrG rfl rfl (by omega) (by omega)) rfl ?_
                                    rw [show (((k : Nat) : Int)).toNat * 1 = k by omega]
                                    refine WS.ev (Ev.load rfl rfl ((Chg.drew [] wq).cell (hq.chg.cell hcx (by simp)) (by simp))) rfl ?_
                                    refine WS.ev (Ev.move rfl) rfl ?_
                                    refine WS.ev (Ev.move rfl) rfl ?_
                                    refine WS.ev (Ev.indexAddr rfl rfl (by omega) (by omega)) rfl ?_
                                    rw [show 0 + (((i : Nat) : Int)).toNat * 2 = i * 2 by omega]
                                    refine WS.ev (Ev.fieldAddr rfl) rfl ?_
                                    refine WS.ev (Ev.load rfl rfl ((Chg.drew [] wq).cell hk1q (by simp))) rfl ?_
                                    refine WS.call hasF17 rfl rfl (steelyardref01_Same_spec x p.1 hxl hpk.1 _) ?_
                                    refine WS.ev (Ev.move rfl) rfl ?_
                                    refine WS.pass rfl rfl rfl (by rw [hA]; rfl) rfl ?_
                                    refine WS.pass rfl rfl rfl (by rw [hA]; rfl) rfl ?_
                                    refine WS.passU rfl rfl rfl rfl ?_
                                    refine WS.passU rfl rfl rfl rfl ?_
                                    refine WS.passU rfl rfl rfl rfl ?_
                                    refine WS.passU rfl rfl rfl rfl ?_
                                    refine WS.passU rfl rfl rfl rfl ?_
                                    refine WS.pass rfl rfl rfl (by rw [hA]; rfl) rfl ?_
                                    refine WS.pass rfl rfl rfl (by rw [hA]; rfl) rfl ?_
                                    refine WS.passU rfl rfl rfl rfl ?_
                                    refine WS.passU rfl rfl rfl rfl ?_
                                    refine WS.passU rfl rfl rfl rfl ?_
                                    refine WS.passU rfl rfl rfl rfl ?_
                                    refine WS.passU rfl rfl rfl rfl ?_
                                    refine WS.passU rfl rfl rfl rfl ?_
                                    refine WS.pass rfl rfl rfl (by rw [hA]; rfl) rfl ?_
                                    refine WS.ev (Ev.pickT rfl hA rfl) rfl ?_
                                    refine WS.ev (Ev.assign rfl) rfl ?_
                                    refine WS.nil (kr113 _ _ ?_)
                                    refine kh111 _ _ _ ?_
                                    refine CW.seq fun kK114 kh114 => ?_
                                    refine CW.region fun kR115 kr115 => ?_  -- region 50
                                    refine WL.ev (Ev.move rfl) rfl ?_
                                    refine WL.nil (kr115 _ _ _ ?_)
                                    refine kh114 _ _ _ ?_
                                    refine CW.condT rfl ?_
                                    have hocl : occ j (l.take k) p.1 ≤ k := by have := occ_le j (l.take k) p.1; rw [List.length_take] at this; omega
                                    refine CW.region fun kR116 kr116 => ?_  -- region 51
                                    refine WL.ev (Ev.move rfl) rfl ?_
                                    first | refine WL.ev (Ev.addIn rfl rfl (by omega)) rfl ?_ | refine WL.ev (Ev.add rfl rfl) rfl ?_
                                    refine WL.ev (Ev.assign rfl) rfl ?_
                                    refine WL.nil (kr116 _ _ _ ?_)
                                    refine kh110 _ _ _ ?_
                                    refine CW.region fun kR117 kr117 => ?_  -- region 48
                                    refine WL.ev (Ev.move rfl) rfl ?_
                                    first | refine WL.ev (Ev.addIn rfl rfl (by omega)) rfl ?_ | refine WL.ev (Ev.add rfl rfl) rfl ?_
                                    refine WL.ev (Ev.assign rfl) rfl ?_
                                    refine WL.nil (kr117 _ _ _ ?_)
                                    refine ⟨rfl, k + 1, ?_, ?_, ?_⟩
                                    ·
                                      try dsimp only
                                      rw [hoT]
                                      repeat (first | exact Subs.nil | refine Subs.cons rfl ?_)
                                    ·
                                      exact ⟨by omega, hq.a.keep (Chg.drew [] wq) (by simp) (by simp), own_keep hq.own (Chg.drew [] wq) (by simp), hq.chg.trans (Chg.drew _ _)⟩
                                    ·
                                      show l.length - (k + 1) < l.length - k; omega
                                  ·
                                    have hkey : ¬ cval j x = p.1 := fun e => by
                                      rcases (alike_key hxl hpk).2 e with hh | ⟨hh, _, _⟩
                                      · rw [hA] at hh; cases hh
                                      · rw [hj] at hh; cases hh
                                    have hoF : occ j (l.take (k + 1)) p.1 = occ j (l.take k) p.1 := by rw [← hosx, if_neg (fun e => hkey e.symm)]
                                    refine CW.regionS hmix (by kernel_rfl) fun kR118 kr118 => ?_  -- region 49
                                    refine WS.ev (Ev.move rfl) rfl ?_
                                    refine WS.ev (Ev.move rfl) rfl ?_
                                    refine WS.ev (Ev.indexAddrG rfl rfl (by omega) (by omega)) rfl ?_
                                    rw [show (((k : Nat) : Int)).toNat * 1 = k by omega]
                                    refine WS.ev (Ev.load rfl rfl ((Chg.drew [] wq).cell (hq.chg.cell hcx (by simp)) (by simp))) rfl ?_
                                    refine WS.ev (Ev.move rfl) rfl ?_
                                    refine WS.ev (Ev.move rfl) rfl ?_
                                    refine WS.ev (Ev.indexAddr rfl rfl (by omega) (by omega)) rfl ?_
                                    rw [show 0 + (((i : Nat) : Int)).toNat * 2 = i * 2 by omega]
                                    refine WS.ev (Ev.fieldAddr rfl) rfl ?_
                                    refine WS.ev (Ev.load rfl rfl ((Chg.drew [] wq).cell hk1q (by simp))) rfl ?_
                                    refine WS.call hasF17 rfl rfl (steelyardref01_Same_spec x p.1 hxl hpk.1 _) ?_
                                    refine WS.ev (Ev.move rfl) rfl ?_
                                    refine WS.want rfl rfl rfl (by rw [hA]; rfl) ?_
                                    refine WS.ev (Ev.move rfl) rfl ?_
                                    refine WS.want rfl rfl rfl (by rw [hA]; rfl) ?_
                                    refine WS.ev (Ev.move rfl) rfl ?_
                                    refine WS.pass rfl rfl rfl (by rw [hj]; rfl) rfl ?_
                                    refine WS.pass rfl rfl rfl (by rw [hj]; rfl) rfl ?_
                                    refine WS.pass rfl rfl rfl (by rw [hj]; rfl) rfl ?_
                                    refine WS.pass rfl rfl rfl (by rw [hj]; rfl) rfl ?_
                                    refine WS.pass rfl rfl rfl (by rw [hj]; rfl) rfl ?_
                                    refine WS.want rfl rfl rfl (by rw [hA]; rfl) ?_
                                    refine WS.ev (Ev.pickF rfl hj rfl) rfl ?_
                                    refine WS.want rfl rfl rfl (by rw [hA]; rfl) ?_
                                    refine WS.ev (Ev.move rfl) rfl ?_
                                    refine WS.pass rfl rfl rfl rfl rfl ?_
                                    refine WS.pass rfl rfl rfl rfl rfl ?_
                                    refine WS.pass rfl rfl rfl rfl rfl ?_
                                    refine WS.pass rfl rfl rfl rfl rfl ?_
                                    refine WS.pass rfl rfl rfl rfl rfl ?_
                                    refine WS.pass rfl rfl rfl rfl rfl ?_
                                    refine WS.want rfl rfl rfl (by rw [hA]; rfl) ?_
                                    refine WS.ev (Ev.pickF rfl rfl rfl) rfl ?_
                                    refine WS.ev (Ev.pickF rfl hA rfl) rfl ?_
                                    refine WS.ev (Ev.assign rfl) rfl ?_
                                    refine WS.nil (kr118 _ _ ?_)
                                    refine kh111 _ _ _ ?_
                                    refine CW.seq fun kK119 kh119 => ?_
                                    refine CW.region fun kR120 kr120 => ?_  -- region 50
                                    refine WL.ev (Ev.move rfl) rfl ?_
                                    refine WL.nil (kr120 _ _ _ ?_)
                                    refine kh119 _ _ _ ?_
                                    refine CW.condF rfl ?_
                                    refine CW.skip ?_
                                    refine kh110 _ _ _ ?_
                                    refine CW.region fun kR121 kr121 => ?_  -- region 48
                                    refine WL.ev (Ev.move rfl) rfl ?_
                                    first | refine WL.ev (Ev.addIn rfl rfl (by omega)) rfl ?_ | refine WL.ev (Ev.add rfl rfl) rfl ?_
                                    refine WL.ev (Ev.assign rfl) rfl ?_
                                    refine WL.nil (kr121 _ _ _ ?_)
                                    refine ⟨rfl, k + 1, ?_, ?_, ?_⟩
                                    ·
                                      try dsimp only
                                      rw [hoF]
                                      repeat (first | exact Subs.nil | refine Subs.cons rfl ?_)
                                    ·
                                      exact ⟨by omega, hq.a.keep (Chg.drew [] wq) (by simp) (by simp), own_keep hq.own (Chg.drew [] wq) (by simp), hq.chg.trans (Chg.drew _ _)⟩
                                    ·
                                      show l.length - (k + 1) < l.length - k; omega
                                  ·
                                    have hkey : ¬ cval j x = p.1 := fun e => by
                                      rcases (alike_key hxl hpk).2 e with hh | ⟨_, hh, _⟩
                                      · rw [hA] at hh; cases hh
                                      · rw [hz] at hh; cases hh
                                    have hoF : occ j (l.take (k + 1)) p.1 = occ j (l.take k) p.1 := by rw [← hosx, if_neg (fun e => hkey e.symm)]
                                    refine CW.regionS hmix (by kernel_rfl) fun kR122 kr122 => ?_  -- region 49
                                    refine WS.ev (Ev.move rfl) rfl ?_
                                    refine WS.ev (Ev.move rfl) rfl ?_
                                    refine WS.ev (Ev.indexAddrG rfl rfl (by omega) (by omega)) rfl ?_
                                    rw [show (((k : Nat) : Int)).toNat * 1 = k by omega]
                                    refine WS.ev (Ev.load rfl rfl ((Chg.drew [] wq).cell (hq.chg.cell hcx (by simp)) (by simp))) rfl ?_
                                    refine WS.ev (Ev.move rfl) rfl ?_
                                    refine WS.ev (Ev.move rfl) rfl ?_
                                    refine WS.ev (Ev.indexAddr rfl rfl (by omega) (by omega)) rfl ?_
                                    rw [show 0 + (((i : Nat) : Int)).toNat * 2 = i * 2 by omega]
                                    refine WS.ev (Ev.fieldAddr rfl) rfl ?_
                                    refine WS.ev (Ev.load rfl rfl ((Chg.drew [] wq).cell hk1q (by simp))) rfl ?_
                                    refine WS.call hasF17 rfl rfl (steelyardref01_Same_spec x p.1 hxl hpk.1 _) ?_
                                    refine WS.ev (Ev.move rfl) rfl ?_
                                    refine WS.want rfl rfl rfl (by rw [hA]; rfl) ?_
                                    refine WS.ev (Ev.move rfl) rfl ?_
                                    refine WS.want rfl rfl rfl (by rw [hA]; rfl) ?_
                                    refine WS.ev (Ev.move rfl) rfl ?_
                                    refine WS.want rfl rfl rfl (by rw [hj]; rfl) ?_
                                    refine WS.ev (Ev.move rfl) rfl ?_
                                    refine WS.want rfl rfl rfl (by rw [hj]; rfl) ?_
                                    refine WS.ev (Ev.move rfl) rfl ?_
                                    refine WS.want rfl rfl rfl (by rw [hj]; rfl) ?_
                                    refine WS.ev (Ev.indexAddrG rfl rfl (by omega) (by omega)) rfl ?_
                                    rw [show (((k : Nat) : Int)).toNat * 1 = k by omega]
                                    refine WS.want rfl rfl rfl (by rw [hj]; rfl) ?_
                                    refine WS.ev (Ev.load rfl rfl ((Chg.drew [] wq).cell (hq.chg.cell hcx (by simp)) (by simp))) rfl ?_
                                    refine WS.want rfl rfl rfl (by rw [hj]; rfl) ?_
                                    refine WS.ev (Ev.feql rfl rfl) rfl ?_
                                    rw [order_zero]
                                    refine WS.want rfl rfl rfl (by rw [hA]; rfl) ?_
                                    refine WS.ev (Ev.pickT rfl hj rfl) rfl ?_
                                    refine WS.want rfl rfl rfl (by rw [hA]; rfl) ?_
                                    refine WS.ev (Ev.move rfl) rfl ?_
                                    refine WS.pass rfl rfl rfl (by rw [hz]; rfl) rfl ?_
                                    refine WS.pass rfl rfl rfl (by rw [hz]; rfl) rfl ?_
                                    refine WS.pass rfl rfl rfl (by rw [hz]; rfl) rfl ?_
                                    refine WS.pass rfl rfl rfl (by rw [hz]; rfl) rfl ?_
                                    refine WS.pass rfl rfl rfl (by rw [hz]; rfl) rfl ?_
                                    refine WS.pass rfl rfl rfl (by rw [hz]; rfl) rfl ?_
                                    refine WS.want rfl rfl rfl (by rw [hA]; rfl) ?_
                                    refine WS.ev (Ev.pickF rfl hz rfl) rfl ?_
                                    refine WS.ev (Ev.pickF rfl hA rfl) rfl ?_
                                    refine WS.ev (Ev.assign rfl) rfl ?_
                                    refine WS.nil (kr122 _ _ ?_)
                                    refine kh111 _ _ _ ?_
                                    refine CW.seq fun kK123 kh123 => ?_
                                    refine CW.region fun kR124 kr124 => ?_  -- region 50
                                    refine WL.ev (Ev.move rfl) rfl ?_
                                    refine WL.nil (kr124 _ _ _ ?_)
                                    refine kh123 _ _ _ ?_
                                    refine CW.condF rfl ?_
                                    refine CW.skip ?_
                                    refine kh110 _ _ _ ?_
                                    refine CW.region fun kR125 kr125 => ?_  -- region 48
                                    refine WL.ev (Ev.move rfl) rfl ?_
                                    first | refine WL.ev (Ev.addIn rfl rfl (by omega)) rfl ?_ | refine WL.ev (Ev.add rfl rfl) rfl ?_
                                    refine WL.ev (Ev.assign rfl) rfl ?_
                                    refine WL.nil (kr125 _ _ _ ?_)
                                    refine ⟨rfl, k + 1, ?_, ?_, ?_⟩
                                    ·
                                      try dsimp only
                                      rw [hoF]
                                      repeat (first | exact Subs.nil | refine Subs.cons rfl ?_)
                                    ·
                                      exact ⟨by omega, hq.a.keep (Chg.drew [] wq) (by simp) (by simp), own_keep hq.own (Chg.drew [] wq) (by simp), hq.chg.trans (Chg.drew _ _)⟩
                                    ·
                                      show l.length - (k + 1) < l.length - k; omega
                                  ·
                                    refine CW.regionS hmix (by kernel_rfl) fun kR126 kr126 => ?_  -- region 49
                                    refine WS.ev (Ev.move rfl) rfl ?_
                                    refine WS.ev (Ev.move rfl) rfl ?_
                                    refine WS.ev (Ev.indexAddrG rfl rfl (by omega) (by omega)) rfl ?_
                                    rw [show (((k : Nat) : Int)).toNat * 1 = k by omega]
                                    refine WS.ev (Ev.load rfl rfl ((Chg.drew [] wq).cell (hq.chg.cell hcx (by simp)) (by simp))) rfl ?_
                                    refine WS.ev (Ev.move rfl) rfl ?_
                                    refine WS.ev (Ev.move rfl) rfl ?_
                                    refine WS.ev (Ev.indexAddr rfl rfl (by omega) (by omega)) rfl ?_
                                    rw [show 0 + (((i : Nat) : Int)).toNat * 2 = i * 2 by omega]
                                    refine WS.ev (Ev.fieldAddr rfl) rfl ?_
                                    refine WS.ev (Ev.load rfl rfl ((Chg.drew [] wq).cell hk1q (by simp))) rfl ?_
                                    refine WS.call hasF17 rfl rfl (steelyardref01_Same_spec x p.1 hxl hpk.1 _) ?_
                                    refine WS.ev (Ev.move rfl) rfl ?_
                                    refine WS.want rfl rfl rfl (by rw [hA]; rfl) ?_
                                    refine WS.ev (Ev.move rfl) rfl ?_
                                    refine WS.want rfl rfl rfl (by rw [hA]; rfl) ?_
                                    refine WS.ev (Ev.move rfl) rfl ?_
                                    refine WS.want rfl rfl rfl (by rw [hj]; rfl) ?_
                                    refine WS.ev (Ev.move rfl) rfl ?_
                                    refine WS.want rfl rfl rfl (by rw [hj]; rfl) ?_
                                    refine WS.ev (Ev.move rfl) rfl ?_
                                    refine WS.want rfl rfl rfl (by rw [hj]; rfl) ?_
                                    refine WS.ev (Ev.indexAddrG rfl rfl (by omega) (by omega)) rfl ?_
                                    rw [show (((k : Nat) : Int)).toNat * 1 = k by omega]
                                    refine WS.want rfl rfl rfl (by rw [hj]; rfl) ?_
                                    refine WS.ev (Ev.load rfl rfl ((Chg.drew [] wq).cell (hq.chg.cell hcx (by simp)) (by simp))) rfl ?_
                                    refine WS.want rfl rfl rfl (by rw [hj]; rfl) ?_
                                    refine WS.ev (Ev.feql rfl rfl) rfl ?_
                                    rw [order_zero]
                                    refine WS.want rfl rfl rfl (by rw [hA]; rfl) ?_
                                    refine WS.ev (Ev.pickT rfl hj rfl) rfl ?_
                                    refine WS.want rfl rfl rfl (by rw [hA]; rfl) ?_
                                    refine WS.ev (Ev.move rfl) rfl ?_
                                    refine WS.want rfl rfl rfl (by rw [hz]; rfl) ?_
                                    refine WS.ev (Ev.move rfl) rfl ?_
                                    refine WS.want rfl rfl rfl (by rw [hz]; rfl) ?_
                                    refine WS.ev (Ev.move rfl) rfl ?_
                                    refine WS.want rfl rfl rfl (by rw [hz]; rfl) ?_
                                    refine WS.ev (Ev.indexAddr rfl rfl (by omega) (by omega)) rfl ?_
                                    rw [show 0 + (((i : Nat) : Int)).toNat * 2 = i * 2 by omega]
                                    refine WS.want rfl rfl rfl (by rw [hz]; rfl) ?_
                                    refine WS.ev (Ev.fieldAddr rfl) rfl ?_
                                    refine WS.want rfl rfl rfl (by rw [hz]; rfl) ?_
                                    refine WS.ev (Ev.load rfl rfl ((Chg.drew [] wq).cell hk1q (by simp))) rfl ?_
                                    refine WS.want rfl rfl rfl (by rw [hz]; rfl) ?_
                                    refine WS.ev (Ev.feql rfl rfl) rfl ?_
                                    rw [order_zero]
                                    refine WS.want rfl rfl rfl (by rw [hA]; rfl) ?_
                                    refine WS.ev (Ev.pickT rfl hz rfl) rfl ?_
                                    refine WS.ev (Ev.pickF rfl hA rfl) rfl ?_
                                    refine WS.ev (Ev.assign rfl) rfl ?_
                                    refine WS.nil (kr126 _ _ ?_)
                                    refine kh111 _ _ _ ?_
                                    refine CW.seq fun kK127 kh127 => ?_
                                    refine CW.region fun kR128 kr128 => ?_  -- region 50
                                    refine WL.ev (Ev.move rfl) rfl ?_
                                    refine WL.nil (kr128 _ _ _ ?_)
                                    refine kh127 _ _ _ ?_
                                    refine CW.cond rfl (fun hc19 => ?_) (fun hc19 => ?_)  -- if 224
                                    ·
                                      simp only [decide_eq_true_eq, decide_eq_false_iff_not, Decidable.not_not, Bool.and_eq_true, Bool.or_eq_true, Bool.not_eq_true', ne_eq, Int.not_lt, Int.not_le] at hc19
                                      have hkey : cval j x = p.1 := (alike_key hxl hpk).1 (.inr ⟨hj, hz, decide_eq_true hc19⟩)
                                      have hoT : occ j (l.take (k + 1)) p.1 = occ j (l.take k) p.1 + 1 := by rw [← hosx, if_pos hkey.symm]
                                      have hocl : occ j (l.take k) p.1 ≤ k := by have := occ_le j (l.take k) p.1; rw [List.length_take] at this; omega
                                      refine CW.region fun kR129 kr129 => ?_  -- region 51
                                      refine WL.ev (Ev.move rfl) rfl ?_
                                      first | refine WL.ev (Ev.addIn rfl rfl (by omega)) rfl ?_ | refine WL.ev (Ev.add rfl rfl) rfl ?_
                                      refine WL.ev (Ev.assign rfl) rfl ?_
                                      refine WL.nil (kr129 _ _ _ ?_)
                                      refine kh110 _ _ _ ?_
                                      refine CW.region fun kR130 kr130 => ?_  -- region 48
                                      refine WL.ev (Ev.move rfl) rfl ?_
                                      first | refine WL.ev (Ev.addIn rfl rfl (by omega)) rfl ?_ | refine WL.ev (Ev.add rfl rfl) rfl ?_
                                      refine WL.ev (Ev.assign rfl) rfl ?_
                                      refine WL.nil (kr130 _ _ _ ?_)
                                      refine ⟨rfl, k + 1, ?_, ?_, ?_⟩
                                      ·
                                        try dsimp only
                                        rw [hoT]
                                        repeat (first | exact Subs.nil | refine Subs.cons rfl ?_)
                                      ·
                                        exact ⟨by omega, hq.a.keep (Chg.drew [] wq) (by simp) (by simp), own_keep hq.own (Chg.drew [] wq) (by simp), hq.chg.trans (Chg.drew _ _)⟩
                                      ·
                                        show l.length - (k + 1) < l.length - k; omega
                                    ·
                                      simp only [decide_eq_true_eq, decide_eq_false_iff_not, Decidable.not_not, Bool.and_eq_true, Bool.or_eq_true, Bool.not_eq_true', ne_eq, Int.not_lt, Int.not_le] at hc19
                                      have hkey : ¬ cval j x = p.1 := fun e => by
                                        rcases (alike_key hxl hpk).2 e with hh | ⟨_, _, hh⟩
                                        · rw [hA] at hh; cases hh
                                        · exact hc19 (of_decide_eq_true hh)
                                      have hoF : occ j (l.take (k + 1)) p.1 = occ j (l.take k) p.1 := by rw [← hosx, if_neg (fun e => hkey e.symm)]
                                      refine CW.skip ?_
                                      refine kh110 _ _ _ ?_
                                      refine CW.region fun kR131 kr131 => ?_  -- region 48
                                      refine WL.ev (Ev.move rfl) rfl ?_
                                      first | refine WL.ev (Ev.addIn rfl rfl (by omega)) rfl ?_ | refine WL.ev (Ev.add rfl rfl) rfl ?_
                                      refine WL.ev (Ev.assign rfl) rfl ?_
                                      refine WL.nil (kr131 _ _ _ ?_)
                                      refine ⟨rfl, k + 1, ?_, ?_, ?_⟩
                                      ·
                                        try dsimp only
                                        rw [hoF]
                                        repeat (first | exact Subs.nil | refine Subs.cons rfl ?_)
                                      ·
                                        exact ⟨by omega, hq.a.keep (Chg.drew [] wq) (by simp) (by simp), own_keep hq.own (Chg.drew [] wq) (by simp), hq.chg.trans (Chg.drew _ _)⟩
                                      ·
                                        show l.length - (k + 1) < l.length - k; omega
                                ·
                                  simp only [decide_eq_true_eq, decide_eq_false_iff_not, Decidable.not_not, Bool.and_eq_true, Bool.or_eq_true, Bool.not_eq_true', ne_eq, Int.not_lt, Int.not_le] at hc15
                                  refine CW.exit ?_  -- exit 12
                                  refine kh104 _ _ _ ?_
                                  refine CW.seq fun kK132 kh132 => ?_
                                  have hkl2 : k = l.length := by omega
                                  subst hkl2
                                  have hcp := cnt_mem hL.srt.keys hpm
                                  have hcL := hL.cnt p.1
                                  have hon : occ j l p.1 = p.2 := by omega
                                  have hd7 : decide ((occ j (l.take l.length) p.1 : Int) ≠ (p.2 : Int)) = false := decide_eq_false (by rw [List.take_length]; omega)
                                  obtain ⟨g9, hg9, hk1q, hk2q⟩ := own_ptr hq.own hp
                                  cases hg9
                                  refine CW.region fun kR133 kr133 => ?_  -- region 52
                                  refine WL.ev (Ev.move rfl) rfl ?_
                                  refine WL.ev (Ev.move rfl) rfl ?_
                                  refine WL.ev (Ev.move rfl) rfl ?_
                                  refine WL.ev (Ev.indexAddr rfl rfl (by omega) (by omega)) rfl ?_
                                  rw [show 0 + (((i : Nat) : Int)).toNat * 2 = i * 2 by omega]
                                  refine WL.ev (Ev.fieldAddr rfl) rfl ?_
                                  refine WL.ev (Ev.load rfl rfl (hk2q)) rfl ?_
                                  refine WL.ev (Ev.neq rfl rfl) rfl ?_
                                  refine WL.ev (Ev.move rfl) rfl ?_
                                  refine WL.want rfl rfl rfl (by rw [hd7]; rfl) ?_
                                  refine WL.ev (Ev.move rfl) rfl ?_
                                  refine WL.want rfl rfl rfl (by rw [hd7]; rfl) ?_
                                  refine WL.ev (Ev.move rfl) rfl ?_
                                  refine WL.want rfl rfl rfl (by rw [hd7]; rfl) ?_
                                  refine WL.ev (Ev.move rfl) rfl ?_
                                  refine WL.want rfl rfl rfl (by rw [hd7]; rfl) ?_
                                  refine WL.ev (Ev.indexAddr rfl rfl (by omega) (by omega)) rfl ?_
                                  rw [show 0 + (((i : Nat) : Int)).toNat * 2 = i * 2 by omega]
                                  refine WL.want rfl rfl rfl (by rw [hd7]; rfl) ?_
                                  refine WL.ev (Ev.fieldAddr rfl) rfl ?_
                                  refine WL.want rfl rfl rfl (by rw [hd7]; rfl) ?_
                                  refine WL.ev (Ev.load rfl rfl (hk1q)) rfl ?_
                                  refine WL.want rfl rfl rfl (by rw [hd7]; rfl) ?_
                                  refine WL.call hasF18 rfl rfl (tc_Count hpk.1 hq.a) fun v w18 h' => ?_
                                  obtain ⟨rfl, rfl⟩ := h'
                                  refine WL.want rfl rfl rfl (by rw [hd7]; rfl) ?_
                                  refine WL.ev (Ev.move rfl) rfl ?_
                                  refine WL.want rfl rfl rfl (by rw [hd7]; rfl) ?_
                                  refine WL.ev (Ev.neq rfl rfl) rfl ?_
                                  rw [show decide ((occ j l (cval j p.1) : Int) ≠ (occ j (l.take l.length) p.1 : Int)) = false from decide_eq_false (by rw [hpk.2, List.take_length]; omega)]
                                  refine WL.ev (Ev.pickF rfl hd7 rfl) rfl ?_
                                  refine WL.nil (kr133 _ _ _ ?_)
                                  refine kh132 _ _ _ ?_
                                  refine CW.condF rfl ?_
                                  refine CW.skip ?_
                                  refine kh95 _ _ _ ?_
                                  refine CW.region fun kR134 kr134 => ?_  -- region 41
                                  refine WL.ev (Ev.move rfl) rfl ?_
                                  first | refine WL.ev (Ev.addIn rfl rfl (by omega)) rfl ?_ | refine WL.ev (Ev.add rfl rfl) rfl ?_
                                  refine WL.ev (Ev.assign rfl) rfl ?_
                                  refine WL.nil (kr134 _ _ _ ?_)
                                  refine ⟨rfl, i + 1, ?_, ?_, ?_⟩
                                  ·
                                    repeat (first | exact Subs.nil | refine Subs.cons rfl ?_)
                                  ·
                                    exact ⟨by omega, hq.a.keep (Chg.drew [] wq) (by simp) (by simp), own_keep hq.own (Chg.drew [] wq) (by simp), hq.chg.trans (Chg.drew _ _)⟩
                                  ·
                                    show L.length - (i + 1) < L.length - i; omega
                            ·
                              obtain ⟨p, hp⟩ := getK (l := L) (i := i) (by omega)
                              obtain ⟨gx, hgx, hk1, hk2⟩ := own_ptr hi.own hp
                              subst hgx
                              have hpm := List.mem_of_getElem? hp
                              have hpp := hL.pos p hpm
                              have hpk := hok p hpm
                              have hd6 : decide ((p.2 : Int) < 1) = false := decide_eq_false (by omega)
                              have htk : tot (L.take (i + 1)) = tot (L.take i) + p.2 := by rw [take_next hp, tot_append]; simp [tot]
                              have htl := tot_take L (i + 1)
                              have hd9 : decide ((0 : Int) < (i : Int)) = true := decide_eq_true (by omega)
                              obtain ⟨q, hqq⟩ := getK (l := L) (i := i - 1) (by omega)
                              obtain ⟨g2, hg2, hq1, hq2⟩ := own_ptr hi.own hqq
                              cases hg2
                              refine CW.regionS hmix (by kernel_rfl) fun kR135 kr135 => ?_  -- region 42
                              refine WS.ev (Ev.move rfl) rfl ?_
                              refine WS.ev (Ev.move rfl) rfl ?_
                              refine WS.ev (Ev.indexAddr rfl rfl (by omega) (by omega)) rfl ?_
                              rw [show 0 + (((i : Nat) : Int)).toNat * 2 = i * 2 by omega]
                              refine WS.ev (Ev.fieldAddr rfl) rfl ?_
                              refine WS.ev (Ev.load rfl rfl ((Chg.drew [] wr).cell hk2 (by simp))) rfl ?_
                              refine WS.ev (Ev.lss rfl rfl) rfl ?_
                              refine WS.ev (Ev.move rfl) rfl ?_
                              refine WS.want rfl rfl rfl (by rw [hd6]; rfl) ?_
                              refine WS.ev (Ev.move rfl) rfl ?_
                              refine WS.want rfl rfl rfl (by rw [hd6]; rfl) ?_
                              refine WS.ev (Ev.gtr rfl rfl) rfl ?_
                              refine WS.want rfl rfl rfl (by rw [hd6]; rfl) ?_
                              refine WS.ev (Ev.move rfl) rfl ?_
                              refine WS.want rfl rfl rfl (by rw [hd9]; rfl) ?_
                              refine WS.ev (Ev.move rfl) rfl ?_
                              refine WS.want rfl rfl rfl (by rw [hd9]; rfl) ?_
                              refine WS.ev (Ev.move rfl) rfl ?_
                              refine WS.want rfl rfl rfl (by rw [hd9]; rfl) ?_
                              refine WS.ev (Ev.subIn rfl rfl (by omega)) rfl ?_
                              rw [show (i : Int) - 1 = ((i - 1 : Nat) : Int) by omega]
                              refine WS.want rfl rfl rfl (by rw [hd9]; rfl) ?_
                              refine WS.ev (Ev.indexAddr rfl rfl (by omega) (by omega)) rfl ?_
                              rw [show 0 + ((((i - 1) : Nat) : Int)).toNat * 2 = (i - 1) * 2 by omega]
                              refine WS.want rfl rfl rfl (by rw [hd9]; rfl) ?_
                              refine WS.ev (Ev.fieldAddr rfl) rfl ?_
                              refine WS.want rfl rfl rfl (by rw [hd9]; rfl) ?_
                              refine WS.ev (Ev.load rfl rfl ((Chg.drew [] wr).cell hq1 (by simp))) rfl ?_
                              refine WS.want rfl rfl rfl (by rw [hd9]; rfl) ?_
                              refine WS.ev (Ev.move rfl) rfl ?_
                              refine WS.want rfl rfl rfl (by rw [hd9]; rfl) ?_
                              refine WS.ev (Ev.move rfl) rfl ?_
                              refine WS.want rfl rfl rfl (by rw [hd9]; rfl) ?_
                              refine WS.ev (Ev.indexAddr rfl rfl (by omega) (by omega)) rfl ?_
                              rw [show 0 + (((i : Nat) : Int)).toNat * 2 = i * 2 by omega]
                              refine WS.want rfl rfl rfl (by rw [hd9]; rfl) ?_
                              refine WS.ev (Ev.fieldAddr rfl) rfl ?_
                              refine WS.want rfl rfl rfl (by rw [hd9]; rfl) ?_
                              refine WS.ev (Ev.load rfl rfl ((Chg.drew [] wr).cell hk1 (by simp))) rfl ?_
                              refine WS.want rfl rfl rfl (by rw [hd9]; rfl) ?_
                              refine WS.call hasF16 rfl rfl (steelyardref01_Order_spec q.1 p.1 (hok q (List.mem_of_getElem? hqq)).1 hpk.1 _) ?_
                              refine WS.want rfl rfl rfl (by rw [hd9]; rfl) ?_
                              refine WS.ev (Ev.geq rfl rfl) rfl ?_
                              rw [show decide ((0 : Int) ≤ cmpI (place q.1) (place p.1)) = false from decide_eq_false (by have := (cmp_lt (place q.1) (place p.1)).2 (srt_get hL.srt hqq hp (by omega)); omega)]
                              refine WS.want rfl rfl rfl (by rw [hd6]; rfl) ?_
                              refine WS.ev (Ev.pickT rfl hd9 rfl) rfl ?_
                              refine WS.ev (Ev.pickF rfl hd6 rfl) rfl ?_
                              refine WS.nil (kr135 _ _ ?_)
                              refine kh97 _ _ _ ?_
                              refine CW.condF rfl ?_
                              refine CW.skip ?_
                              refine kh96 _ _ _ ?_
                              refine CW.seq fun kK136 kh136 => ?_
                              refine CW.region fun kR137 kr137 => ?_  -- region 44
                              refine WL.ev (Ev.move rfl) rfl ?_
                              refine WL.ev (Ev.move rfl) rfl ?_
                              refine WL.ev (Ev.move rfl) rfl ?_
                              refine WL.ev (Ev.indexAddr rfl rfl (by omega) (by omega)) rfl ?_
                              rw [show 0 + (((i : Nat) : Int)).toNat * 2 = i * 2 by omega]
                              refine WL.ev (Ev.fieldAddr rfl) rfl ?_
                              refine WL.ev (Ev.load rfl rfl ((Chg.drew [] wr).cell hk2 (by simp))) rfl ?_
                              refine WL.ev (Ev.addIn rfl rfl (by omega)) rfl ?_
                              rw [show (tot (L.take i) : Int) + (p.2 : Int) = (tot (L.take (i + 1)) : Int) by omega]
                              refine WL.ev (Ev.assign rfl) rfl ?_
                              refine WL.nil (kr137 _ _ _ ?_)
                              refine kh136 _ _ _ ?_
                              refine CW.seq fun kK138 kh138 => ?_
                              refine CW.region fun kR139 kr139 => ?_  -- region 45
                              refine WL.ev (Ev.assign rfl) rfl ?_
                              refine WL.nil (kr139 _ _ _ ?_)
                              refine kh138 _ _ _ ?_
                              refine CW.seq fun kK140 kh140 => ?_
                              refine CW.seq fun kK141 kh141 => ?_
                              refine CW.region fun kR142 kr142 => ?_  -- region 46
                              refine WL.ev (Ev.assign rfl) rfl ?_
                              refine WL.nil (kr142 _ _ _ ?_)
                              refine kh141 _ _ _ ?_
                              refine CW.block ?_
                              refine CW.loop (S := fun k : Nat => [(0, .bool j), (1, .slice a1 l.length cap1), (8, .bool false), (10, .pointer (some ⟨ba, 0, none⟩)), (21, .slice (some ⟨gx, 0, none⟩) L.length capx), (22, .int .i64 (tot (L.take (i + 1)) : Int)), (23, .int .i64 (i : Int)), (24, .int .i64 (occ j (l.take k) p.1 : Int)), (25, .int .i64 (k : Int))]) (Inv := I7 w ba ra j l L (.slice (some ⟨gx, 0, none⟩) L.length capx)) (mu := fun k => l.length - k) (0) ?_ ?_ ?_
                              ·
                                exact ⟨Nat.zero_le _, hi.a.keep (Chg.drew [] wr) (by simp) (by simp), own_keep hi.own (Chg.drew [] wr) (by simp), hi.chg.trans (Chg.drew _ _)⟩
                              ·
                                repeat (first | exact Subs.nil | refine Subs.cons rfl ?_)
                              ·
                                intro k wq hq
                                have hkl := hq.le
                                refine CW.seq fun kK143 kh143 => ?_
                                refine CW.seq fun kK144 kh144 => ?_
                                refine CW.region fun kR145 kr145 => ?_  -- region 47
                                refine WL.ev (Ev.move rfl) rfl ?_
                                refine WL.ev (Ev.move rfl) rfl ?_
                                refine WL.ev (Ev.len rfl) rfl ?_
                                refine WL.ev (Ev.lss rfl rfl) rfl ?_
                                refine WL.nil (kr145 _ _ _ ?_)
                                refine kh144 _ _ _ ?_
                                refine CW.cond rfl (fun hc22 => ?_) (fun hc22 => ?_)  -- if 193
                                ·
                                  simp only [decide_eq_true_eq, decide_eq_false_iff_not, Decidable.not_not, Bool.and_eq_true, Bool.or_eq_true, Bool.not_eq_true', ne_eq, Int.not_lt, Int.not_le] at hc22
                                  refine CW.skip ?_
                                  refine kh143 _ _ _ ?_
                                  refine CW.seq fun kK146 kh146 => ?_
                                  refine CW.block ?_
                                  refine CW.seq fun kK147 kh147 => ?_
                                  obtain ⟨x, hx⟩ := getN (l := l) (i := k) (by omega)
                                  obtain ⟨adx, hadx, hcx⟩ := h1 _ _ hx
                                  cases hadx
                                  obtain ⟨g9, hg9, hk1q, hk2q⟩ := own_ptr hq.own hp
                                  cases hg9
                                  have hxl := hl x (List.mem_of_getElem? hx)
                                  have hosx := occ_step (j := j) hx p.1
                                  rcases four (decide (canon x = canon p.1)) j (decide (x % 9223372036854775808 = 0)) with hA | ⟨hA, hj⟩ | ⟨hA, hj, hz⟩ | ⟨hA, hj, hz⟩
                                  ·
                                    have hkey : cval j x = p.1 := (alike_key hxl hpk).1 (.inl hA)
                                    have hoT : occ j (l.take (k + 1)) p.1 = occ j (l.take k) p.1 + 1 := by rw [← hosx, if_pos hkey.symm]
                                    refine CW.regionS hmix (by kernel_rfl) fun kR149 kr149 => ?_  -- region 49
                                    refine WS.ev (Ev.move rfl) rfl ?_
                                    refine WS.ev (Ev.move rfl) rfl ?_
                                    refine WS.ev (Ev.indexAddrG rfl rfl (by omega) (by omega)) rfl ?_
                                    rw [show (((k : Nat) : Int)).toNat * 1 = k by omega]
                                    refine WS.ev (Ev.load rfl rfl ((Chg.drew [] wq).cell (hq.chg.cell hcx (by simp)) (by simp))) rfl ?_
                                    refine WS.ev (Ev.move rfl) rfl ?_
                                    refine WS.ev (Ev.move rfl) rfl ?_
                                    refine WS.ev (Ev.indexAddr rfl rfl (by omega) (by omega)) rfl ?_
                                    rw [show 0 + (((i : Nat) : Int)).toNat * 2 = i * 2 by omega]
                                    refine WS.ev (Ev.fieldAddr rfl) rfl ?_
                                    refine WS.ev (Ev.load rfl rfl ((Chg.drew [] wq).cell hk1q (by simp))) rfl ?_
                                    refine WS.call hasF17 rfl rfl (steelyardref01_Same_spec x p.1 hxl hpk.1 _) ?_
                                    refine WS.ev (Ev.move rfl) rfl ?_
                                    refine WS.pass rfl rfl rfl (by rw [hA]; rfl) rfl ?_
                                    refine WS.pass rfl rfl rfl (by rw [hA]; rfl) rfl ?_
                                    refine WS.passU rfl rfl rfl rfl ?_
                                    refine WS.passU rfl rfl rfl rfl ?_
                                    refine WS.passU rfl rfl rfl rfl ?_
                                    refine WS.passU rfl rfl rfl rfl ?_
                                    refine WS.passU rfl rfl rfl rfl ?_
                                    refine WS.pass rfl rfl rfl (by rw [hA]; rfl) rfl ?_
                                    refine WS.pass rfl rfl rfl (by rw [hA]; rfl) rfl ?_
                                    refine WS.passU rfl rfl rfl rfl ?_
                                    refine WS.passU rfl rfl rfl rfl ?_
                                    refine WS.passU rfl rfl rfl rfl ?_
                                    refine WS.passU rfl rfl rfl rfl ?_
                                    refine WS.passU rfl rfl rfl rfl ?_
                                    refine WS.passU rfl rfl rfl rfl ?_
                                    refine WS.pass rfl rfl rfl (by rw [hA]; rfl) rfl ?_
                                    refine WS.ev (Ev.pickT rfl hA rfl) rfl ?_
                                    refine WS.ev (Ev.assign rfl) rfl ?_
                                    refine WS.nil (kr149 _ _ ?_)
                                    refine kh147 _ _ _ ?_
                                    refine CW.seq fun kK150 kh150 => ?_
                                    refine CW.region fun kR151 kr151 => ?_  -- region 50
                                    refine WL.ev (Ev.move rfl) rfl ?_
                                    refine WL.nil (kr151 _ _ _ ?_)
                                    refine kh150 _ _ _ ?_
                                    refine CW.condT rfl ?_
                                    have hocl : occ j (l.take k) p.1 ≤ k := by have := occ_le j (l.take k) p.1; rw [List.length_take] at this; omega
                                    refine CW.region fun kR152 kr152 => ?_  -- region 51
                                    refine WL.ev (Ev.move rfl) rfl ?_
                                    first | refine WL.ev (Ev.addIn rfl rfl (by omega)) rfl ?_ | refine WL.ev (Ev.add rfl rfl) rfl ?_
                                    refine WL.ev (Ev.assign rfl) rfl ?_
                                    refine WL.nil (kr152 _ _ _ ?_)
                                    refine kh146 _ _ _ ?_
                                    refine CW.region fun kR153 kr153 => ?_  -- region 48
                                    refine WL.ev (Ev.move rfl) rfl ?_
                                    first | refine WL.ev (Ev.addIn rfl rfl (by omega)) rfl ?_ | refine WL.ev (Ev.add rfl rfl) rfl ?_
                                    refine WL.ev (Ev.assign rfl) rfl ?_
                                    refine WL.nil (kr153 _ _ _ ?_)
                                    refine ⟨rfl, k + 1, ?_, ?_, ?_⟩
                                    ·
                                      try dsimp only
                                      rw [hoT]
                                      repeat (first | exact Subs.nil | refine Subs.cons rfl ?_)
                                    ·
                                      exact ⟨by omega, hq.a.keep (Chg.drew [] wq) (by simp) (by simp), own_keep hq.own (Chg.drew [] wq) (by simp), hq.chg.trans (Chg.drew _ _)⟩
                                    ·
                                      show l.length - (k + 1) < l.length - k; omega
                                  ·
                                    have hkey : ¬ cval j x = p.1 := fun e => by
                                      rcases (alike_key hxl hpk).2 e with hh | ⟨hh, _, _⟩
                                      · rw [hA] at hh; cases hh
                                      · rw [hj] at hh; cases hh
                                    have hoF : occ j (l.take (k + 1)) p.1 = occ j (l.take k) p.1 := by rw [← hosx, if_neg (fun e => hkey e.symm)]
                                    refine CW.regionS hmix (by kernel_rfl) fun kR154 kr154 => ?_  -- region 49
                                    refine WS.ev (Ev.move rfl) rfl ?_
                                    refine WS.ev (Ev.move rfl) rfl ?_
                                    refine WS.ev (Ev.indexAddrG rfl rfl (by omega) (by omega)) rfl ?_
                                    rw [show (((k : Nat) : Int)).toNat * 1 = k by omega]
                                    refine WS.ev (Ev.load rfl rfl ((Chg.drew [] wq).cell (hq.chg.cell hcx (by simp)) (by simp))) rfl ?_
                                    refine WS.ev (Ev.move rfl) rfl ?_
                                    refine WS.ev (Ev.move rfl) rfl ?_
                                    refine WS.ev (Ev.indexAddr rfl rfl (by omega) (by omega)) rfl ?_
                                    rw [show 0 + (((i : Nat) : Int)).toNat * 2 = i * 2 by omega]
                                    refine WS.ev (Ev.fieldAddr rfl) rfl ?_
                                    refine WS.ev (Ev.load rfl rfl ((Chg.drew [] wq).cell hk1q (by simp))) rfl ?_
                                    refine WS.call hasF17 rfl rfl (steelyardref01_Same_spec x p.1 hxl hpk.1 _) ?_
                                    refine WS.ev (Ev.move rfl) rfl ?_
                                    refine WS.want rfl rfl rfl (by rw [hA]; rfl) ?_
                                    refine WS.ev (Ev.move rfl) rfl ?_
                                    refine WS.want rfl rfl rfl (by rw [hA]; rfl) ?_
                                    refine WS.ev (Ev.move rfl) rfl ?_
                                    refine WS.pass rfl rfl rfl (by rw [hj]; rfl) rfl ?_
                                    refine WS.pass rfl rfl rfl (by rw [hj]; rfl) rfl ?_
                                    refine WS.pass rfl rfl rfl (by rw [hj]; rfl) rfl ?_
                                    refine WS.pass rfl rfl rfl (by rw [hj]; rfl) rfl ?_
                                    refine WS.pass rfl rfl rfl (by rw [hj]; rfl) rfl ?_
                                    refine WS.want rfl rfl rfl (by rw [hA]; rfl) ?_
                                    refine WS.ev (Ev.pickF rfl hj rfl) rfl ?_
                                    refine WS.want rfl rfl rfl (by rw [hA]; rfl) ?_
                                    refine WS.ev (Ev.move rfl) rfl ?_
                                    refine WS.pass rfl rfl rfl rfl rfl ?_
                                    refine WS.pass rfl rfl rfl rfl rfl ?_
                                    refine WS.pass rfl rfl rfl rfl rfl ?_
                                    refine WS.pass rfl rfl rfl rfl rfl ?_
                                    refine WS.pass rfl rfl rfl rfl rfl ?_
                                    refine WS.pass rfl rfl rfl rfl rfl ?_
                                    refine WS.want rfl rfl rfl (by rw [hA]; rfl) ?_
                                    refine WS.ev (Ev.pickF rfl rfl rfl) rfl ?_
                                    refine WS.ev (Ev.pickF rfl hA rfl) rfl ?_
                                    refine WS.ev (Ev.assign rfl) rfl ?_
                                    refine WS.nil (kr154 _ _ ?_)
                                    refine kh147 _ _ _ ?_
                                    refine CW.seq fun kK155 kh155 => ?_
                                    refine CW.region fun kR156 kr156 => ?_  -- region 50
                                    refine WL.ev (Ev.move rfl) rfl ?_
                                    refine WL.nil (kr156 _ _ _ ?_)
                                    refine kh155 _ _ _ ?_
                                    refine CW.condF rfl ?_
                                    refine CW.skip ?_
                                    refine kh146 _ _ _ ?_
                                    refine CW.region fun kR157 kr157 => ?_  -- region 48
                                    refine WL.ev (Ev.move rfl) rfl ?_
                                    first | refine WL.ev (Ev.addIn rfl rfl (by omega)) rfl ?_ | refine WL.ev (Ev.add rfl rfl) rfl ?_
                                    refine WL.ev (Ev.assign rfl) rfl ?_
                                    refine WL.nil (kr157 _ _ _ ?_)
                                    refine ⟨rfl, k + 1, ?_, ?_, ?_⟩
                                    ·
                                      try dsimp only
                                      rw [hoF]
                                      repeat (first | exact Subs.nil | refine Subs.cons rfl ?_)
                                    ·
                                      exact ⟨by omega, hq.a.keep (Chg.drew [] wq) (by simp) (by simp), own_keep hq.own (Chg.drew [] wq) (by simp), hq.chg.trans (Chg.drew _ _)⟩
                                    ·
                                      show l.length - (k + 1) < l.length - k; omega
                                  ·
                                    have hkey : ¬ cval j x = p.1 := fun e => by
                                      rcases (alike_key hxl hpk).2 e with hh | ⟨_, hh, _⟩
                                      · rw [hA] at hh; cases hh
                                      · rw [hz] at hh; cases hh
                                    have hoF : occ j (l.take (k + 1)) p.1 = occ j (l.take k) p.1 := by rw [← hosx, if_neg (fun e => hkey e.symm)]
                                    refine CW.regionS hmix (by kernel_rfl) fun kR158 kr158 => ?_  -- region 49
                                    refine WS.ev (Ev.move rfl) rfl ?_
                                    refine WS.ev (Ev.move rfl) rfl ?_
                                    refine WS.ev (Ev.indexAddrG rfl rfl (by omega) (by omega)) rfl ?_
                                    rw [show (((k : Nat) : Int)).toNat * 1 = k by omega]
                                    refine WS.ev (Ev.load rfl rfl ((Chg.drew [] wq).cell (hq.chg.cell hcx (by simp)) (by simp))) rfl ?_
                                    refine WS.ev (Ev.move rfl) rfl ?_
                                    refine WS.ev (Ev.move rfl) rfl ?_
                                    refine WS.ev (Ev.indexAddr rfl rfl (by omega) (by omega)) rfl ?_
                                    rw [show 0 + (((i : Nat) : Int)).toNat * 2 = i * 2 by omega]
                                    refine WS.ev (Ev.fieldAddr rfl) rfl ?_
                                    refine WS.ev (Ev.load rfl rfl ((Chg.drew [] wq).cell hk1q (by simp))) rfl ?_
                                    refine WS.call hasF17 rfl rfl (steelyardref01_Same_spec x p.1 hxl hpk.1 _) ?_
                                    refine WS.ev (Ev.move rfl) rfl ?_
                                    refine WS.want rfl rfl rfl (by rw [hA]; rfl) ?_
                                    refine WS.ev (Ev.move rfl) rfl ?_
                                    refine WS.want rfl rfl rfl (by rw [hA]; rfl) ?_
                                    refine WS.ev (Ev.move rfl) rfl ?_
                                    refine WS.want rfl rfl rfl (by rw [hj]; rfl) ?_
                                    refine WS.ev (Ev.move rfl) rfl ?_
                                    refine WS.want rfl rfl rfl (by rw [hj]; rfl) ?_
                                    refine WS.ev (Ev.move rfl) rfl ?_
                                    refine WS.want rfl rfl rfl (by rw [hj]; rfl) ?_
                                    refine WS.ev (Ev.indexAddrG rfl rfl (by omega) (by omega)) rfl ?_
                                    rw [show (((k : Nat) : Int)).toNat * 1 = k by omega]
                                    refine WS.want rfl rfl rfl (by rw [hj]; rfl) ?_
                                    refine WS.ev (Ev.load rfl rfl ((Chg.drew [] wq).cell (hq.chg.cell hcx (by simp)) (by simp))) rfl ?_
                                    refine WS.want rfl rfl rfl (by rw [hj]; rfl) ?_
                                    refine WS.ev (Ev.feql rfl rfl) rfl ?_
                                    rw [order_zero]
                                    refine WS.want rfl rfl rfl (by rw [hA]; rfl) ?_
                                    refine WS.ev (Ev.pickT rfl hj rfl) rfl ?_
                                    refine WS.want rfl rfl rfl (by rw [hA]; rfl) ?_
                                    refine WS.ev (Ev.move rfl) rfl ?_
                                    refine WS.pass rfl rfl rfl (by rw [hz]; rfl) rfl ?_
                                    refine WS.pass rfl rfl rfl (by rw [hz]; rfl) rfl ?_
                                    refine WS.pass rfl rfl rfl (by rw [hz]; rfl) rfl ?_
                                    refine WS.pass rfl rfl rfl (by rw [hz]; rfl) rfl ?_
                                    refine WS.pass rfl rfl rfl (by rw [hz]; rfl) rfl ?_
                                    refine WS.pass rfl rfl rfl (by rw [hz]; rfl) rfl ?_
                                    refine WS.want rfl rfl rfl (by rw [hA]; rfl) ?_
                                    refine WS.ev (Ev.pickF rfl hz rfl) rfl ?_
                                    refine WS.ev (Ev.pickF rfl hA rfl) rfl ?_
                                    refine WS.ev (Ev.assign rfl) rfl ?_
                                    refine WS.nil (kr158 _ _ ?_)
                                    refine kh147 _ _ _ ?_
                                    refine CW.seq fun kK159 kh159 => ?_
                                    refine CW.region fun kR160 kr160 => ?_  -- region 50
                                    refine WL.ev (Ev.move rfl) rfl ?_
                                    refine WL.nil (kr160 _ _ _ ?_)
                                    refine kh159 _ _ _ ?_
                                    refine CW.condF rfl ?_
                                    refine CW.skip ?_
                                    refine kh146 _ _ _ ?_
                                    refine CW.region fun kR161 kr161 => ?_  -- region 48
                                    refine WL.ev (Ev.move rfl) rfl ?_
                                    first | refine WL.ev (Ev.addIn rfl rfl (by omega)) rfl ?_ | refine WL.ev (Ev.add rfl rfl) rfl ?_
                                    refine WL.ev (Ev.assign rfl) rfl ?_
                                    refine WL.nil (kr161 _ _ _ ?_)
                                    refine ⟨rfl, k + 1, ?_, ?_, ?_⟩
                                    ·
                                      try dsimp only
                                      rw [hoF]
                                      repeat (first | exact Subs.nil | refine Subs.cons rfl ?_)
                                    ·
                                      exact ⟨by omega, hq.a.keep (Chg.drew [] wq) (by simp) (by simp), own_keep hq.own (Chg.drew [] wq) (by simp), hq.chg.trans (Chg.drew _ _)⟩
                                    ·
                                      show l.length - (k + 1) < l.length - k; omega
                                  ·
                                    refine CW.regionS hmix (by kernel_rfl) fun kR162 kr162 => ?_  -- region 49
                                    refine WS.ev (Ev.move rfl) rfl ?_
                                    refine WS.ev (Ev.move rfl) rfl ?_
                                    refine WS.ev (Ev.indexAddrG rfl rfl (by omega) (by omega)) rfl ?_
                                    rw [show (((k : Nat) : Int)).toNat * 1 = k by omega]
                                    refine WS.ev (Ev.load rfl rfl ((Chg.drew [] wq).cell (hq.chg.cell hcx (by simp)) (by simp))) rfl ?_
                                    refine WS.ev (Ev.move rfl) rfl ?_
                                    refine WS.ev (Ev.move rfl) rfl ?_
                                    refine WS.ev (Ev.indexAddr rfl rfl (by omega) (by omega)) rfl ?_
                                    rw [show 0 + (((i : Nat) : Int)).toNat * 2 = i * 2 by omega]
                                    refine WS.ev (Ev.fieldAddr rfl) rfl ?_
                                    refine WS.ev (Ev.load rfl rfl ((Chg.drew [] wq).cell hk1q (by simp))) rfl ?_
                                    refine WS.call hasF17 rfl rfl (steelyardref01_Same_spec x p.1 hxl hpk.1 _) ?_
                                    refine WS.ev (Ev.move rfl) rfl ?_
                                    refine WS.want rfl rfl rfl (by rw [hA]; rfl) ?_
                                    refine WS.ev (Ev.move rfl) rfl ?_
                                    refine WS.want rfl rfl rfl (by rw [hA]; rfl) ?_
                                    refine WS.ev (Ev.move rfl) rfl ?_
                                    refine WS.want rfl rfl rfl (by rw [hj]; rfl) ?_
                                    refine WS.ev (Ev.move rfl) rfl ?_
                                    refine WS.want rfl rfl rfl (by rw [hj]; rfl) ?_
                                    refine WS.ev (Ev.move rfl) rfl ?_
                                    refine WS.want rfl rfl rfl (by rw [hj]; rfl) ?_
                                    refine WS.ev (Ev.indexAddrG rfl rfl (by omega) (by omega)) rfl ?_
                                    rw [show (((k : Nat) : Int)).toNat * 1 = k by omega]
                                    refine WS.want rfl rfl rfl (by rw [hj]; rfl) ?_
                                    refine WS.ev (Ev.load rfl rfl ((Chg.drew [] wq).cell (hq.chg.cell hcx (by simp)) (by simp))) rfl ?_
                                    refine WS.want rfl rfl rfl (by rw [hj]; rfl) ?_
                                    refine WS.ev (Ev.feql rfl rfl) rfl ?_
                                    rw [order_zero]
                                    refine WS.want rfl rfl rfl (by rw [hA]; rfl) ?_
                                    refine WS.ev (Ev.pickT rfl hj rfl) rfl ?_
                                    refine WS.want rfl rfl rfl (by rw [hA]; rfl) ?_
                                    refine WS.ev (Ev.move rfl) rfl ?_
                                    refine WS.want rfl rfl rfl (by rw [hz]; rfl) ?_
                                    refine WS.ev (Ev.move rfl) rfl ?_
                                    refine WS.want rfl rfl rfl (by rw [hz]; rfl) ?_
                                    refine WS.ev (Ev.move rfl) rfl ?_
                                    refine WS.want rfl rfl rfl (by rw [hz]; rfl) ?_
                                    refine WS.ev (Ev.indexAddr rfl rfl (by omega) (by omega)) rfl ?_
                                    rw [show 0 + (((i : Nat) : Int)).toNat * 2 = i * 2 by omega]
                                    refine WS.want rfl rfl rfl (by rw [hz]; rfl) ?_
                                    refine WS.ev (Ev.fieldAddr rfl) rfl ?_
                                    refine WS.want rfl rfl rfl (by rw [hz]; rfl) ?_
                                    refine WS.ev (Ev.load rfl rfl ((Chg.drew [] wq).cell hk1q (by simp))) rfl ?_
                                    refine WS.want rfl rfl rfl (by rw [hz]; rfl) ?_
                                    refine WS.ev (Ev.feql rfl rfl) rfl ?_
                                    rw [order_zero]
                                    refine WS.want rfl rfl rfl (by rw [hA]; rfl) ?_
                                    refine WS.ev (Ev.pickT rfl hz rfl) rfl ?_
                                    refine WS.ev (Ev.pickF rfl hA rfl) rfl ?_
                                    refine WS.ev (Ev.assign rfl) rfl ?_
                                    refine WS.nil (kr162 _ _ ?_)
                                    refine kh147 _ _ _ ?_
                                    refine CW.seq fun kK163 kh163 => ?_
                                    refine CW.region fun kR164 kr164 => ?_  -- region 50
                                    refine WL.ev (Ev.move rfl) rfl ?_
                                    refine WL.nil (kr164 _ _ _ ?_)
                                    refine kh163 _ _ _ ?_
                                    refine CW.cond rfl (fun hc26 => ?_) (fun hc26 => ?_)  -- if 224
                                    ·
                                      simp only [decide_eq_true_eq, decide_eq_false_iff_not, Decidable.not_not, Bool.and_eq_true, Bool.or_eq_true, Bool.not_eq_true', ne_eq, Int.not_lt, Int.not_le] at hc26
                                      have hkey : cval j x = p.1 := (alike_key hxl hpk).1 (.inr ⟨hj, hz, decide_eq_true hc26⟩)
                                      have hoT : occ j (l.take (k + 1)) p.1 = occ j (l.take k) p.1 + 1 := by rw [← hosx, if_pos hkey.symm]
                                      have hocl : occ j (l.take k) p.1 ≤ k := by have := occ_le j (l.take k) p.1; rw [List.length_take] at this; omega
                                      refine CW.region fun kR165 kr165 => ?_  -- region 51
                                      refine WL.ev (Ev.move rfl) rfl ?_
                                      first | refine WL.ev (Ev.addIn rfl rfl (by omega)) rfl ?_ | refine WL.ev (Ev.add rfl rfl) rfl ?_
                                      refine WL.ev (Ev.assign rfl) rfl ?_
                                      refine WL.nil (kr165 _ _ _ ?_)
                                      refine kh146 _ _ _ ?_
                                      refine CW.region fun kR166 kr166 => ?_  -- region 48
                                      refine WL.ev (Ev.move rfl) rfl ?_
                                      first | refine WL.ev (Ev.addIn rfl rfl (by omega)) rfl ?_ | refine WL.ev (Ev.add rfl rfl) rfl ?_
                                      refine WL.ev (Ev.assign rfl) rfl ?_
                                      refine WL.nil (kr166 _ _ _ ?_)
                                      refine ⟨rfl, k + 1, ?_, ?_, ?_⟩
                                      ·
                                        try dsimp only
                                        rw [hoT]
                                        repeat (first | exact Subs.nil | refine Subs.cons rfl ?_)
                                      ·
                                        exact ⟨by omega, hq.a.keep (Chg.drew [] wq) (by simp) (by simp), own_keep hq.own (Chg.drew [] wq) (by simp), hq.chg.trans (Chg.drew _ _)⟩
                                      ·
                                        show l.length - (k + 1) < l.length - k; omega
                                    ·
                                      simp only [decide_eq_true_eq, decide_eq_false_iff_not, Decidable.not_not, Bool.and_eq_true, Bool.or_eq_true, Bool.not_eq_true', ne_eq, Int.not_lt, Int.not_le] at hc26
                                      have hkey : ¬ cval j x = p.1 := fun e => by
                                        rcases (alike_key hxl hpk).2 e with hh | ⟨_, _, hh⟩
                                        · rw [hA] at hh; cases hh
                                        · exact hc26 (of_decide_eq_true hh)
                                      have hoF : occ j (l.take (k + 1)) p.1 = occ j (l.take k) p.1 := by rw [← hosx, if_neg (fun e => hkey e.symm)]
                                      refine CW.skip ?_
                                      refine kh146 _ _ _ ?_
                                      refine CW.region fun kR167 kr167 => ?_  -- region 48
                                      refine WL.ev (Ev.move rfl) rfl ?_
                                      first | refine WL.ev (Ev.addIn rfl rfl (by omega)) rfl ?_ | refine WL.ev (Ev.add rfl rfl) rfl ?_
                                      refine WL.ev (Ev.assign rfl) rfl ?_
                                      refine WL.nil (kr167 _ _ _ ?_)
                                      refine ⟨rfl, k + 1, ?_, ?_, ?_⟩
                                      ·
                                        try dsimp only
                                        rw [hoF]
                                        repeat (first | exact Subs.nil | refine Subs.cons rfl ?_)
                                      ·
                                        exact ⟨by omega, hq.a.keep (Chg.drew [] wq) (by simp) (by simp), own_keep hq.own (Chg.drew [] wq) (by simp), hq.chg.trans (Chg.drew _ _)⟩
                                      ·
                                        show l.length - (k + 1) < l.length - k; omega
                                ·
                                  simp only [decide_eq_true_eq, decide_eq_false_iff_not, Decidable.not_not, Bool.and_eq_true, Bool.or_eq_true, Bool.not_eq_true', ne_eq, Int.not_lt, Int.not_le] at hc22
                                  refine CW.exit ?_  -- exit 12
                                  refine kh140 _ _ _ ?_
                                  refine CW.seq fun kK168 kh168 => ?_
                                  have hkl2 : k = l.length := by omega
                                  subst hkl2
                                  have hcp := cnt_mem hL.srt.keys hpm
                                  have hcL := hL.cnt p.1
                                  have hon : occ j l p.1 = p.2 := by omega
                                  have hd7 : decide ((occ j (l.take l.length) p.1 : Int) ≠ (p.2 : Int)) = false := decide_eq_false (by rw [List.take_length]; omega)
                                  obtain ⟨g9, hg9, hk1q, hk2q⟩ := own_ptr hq.own hp
                                  cases hg9
                                  refine CW.region fun kR169 kr169 => ?_  -- region 52
                                  refine WL.ev (Ev.move rfl) rfl ?_
                                  refine WL.ev (Ev.move rfl) rfl ?_
                                  refine WL.ev (Ev.move rfl) rfl ?_
                                  refine WL.ev (Ev.indexAddr rfl rfl (by omega) (by omega)) rfl ?_
                                  rw [show 0 + (((i : Nat) : Int)).toNat * 2 = i * 2 by omega]
                                  refine WL.ev (Ev.fieldAddr rfl) rfl ?_
                                  refine WL.ev (Ev.load rfl rfl (hk2q)) rfl ?_
                                  refine WL.ev (Ev.neq rfl rfl) rfl ?_
                                  refine WL.ev (Ev.move rfl) rfl ?_
                                  refine WL.want rfl rfl rfl (by rw [hd7]; rfl) ?_
                                  refine WL.ev (Ev.move rfl) rfl ?_
                                  refine WL.want rfl rfl rfl (by rw [hd7]; rfl) ?_
                                  refine WL.ev (Ev.move rfl) rfl ?_
                                  refine WL.want rfl rfl rfl (by rw [hd7]; rfl) ?_
                                  refine WL.ev (Ev.move rfl) rfl ?_
                                  refine WL.want rfl rfl rfl (by rw [hd7]; rfl) ?_
                                  refine WL.ev (Ev.indexAddr rfl rfl (by omega) (by omega)) rfl ?_
                                  rw [show 0 + (((i : Nat) : Int)).toNat * 2 = i * 2 by omega]
                                  refine WL.want rfl rfl rfl (by rw [hd7]; rfl) ?_
                                  refine WL.ev (Ev.fieldAddr rfl) rfl ?_
                                  refine WL.want rfl rfl rfl (by rw [hd7]; rfl) ?_
                                  refine WL.ev (Ev.load rfl rfl (hk1q)) rfl ?_
                                  refine WL.want rfl rfl rfl (by rw [hd7]; rfl) ?_
                                  refine WL.call hasF18 rfl rfl (tc_Count hpk.1 hq.a) fun v w19 h' => ?_
                                  obtain ⟨rfl, rfl⟩ := h'
                                  refine WL.want rfl rfl rfl (by rw [hd7]; rfl) ?_
                                  refine WL.ev (Ev.move rfl) rfl ?_
                                  refine WL.want rfl rfl rfl (by rw [hd7]; rfl) ?_
                                  refine WL.ev (Ev.neq rfl rfl) rfl ?_
                                  rw [show decide ((occ j l (cval j p.1) : Int) ≠ (occ j (l.take l.length) p.1 : Int)) = false from decide_eq_false (by rw [hpk.2, List.take_length]; omega)]
                                  refine WL.ev (Ev.pickF rfl hd7 rfl) rfl ?_
                                  refine WL.nil (kr169 _ _ _ ?_)
                                  refine kh168 _ _ _ ?_
                                  refine CW.condF rfl ?_
                                  refine CW.skip ?_
                                  refine kh95 _ _ _ ?_
                                  refine CW.region fun kR170 kr170 => ?_  -- region 41
                                  refine WL.ev (Ev.move rfl) rfl ?_
                                  first | refine WL.ev (Ev.addIn rfl rfl (by omega)) rfl ?_ | refine WL.ev (Ev.add rfl rfl) rfl ?_
                                  refine WL.ev (Ev.assign rfl) rfl ?_
                                  refine WL.nil (kr170 _ _ _ ?_)
                                  refine ⟨rfl, i + 1, ?_, ?_, ?_⟩
                                  ·
                                    repeat (first | exact Subs.nil | refine Subs.cons rfl ?_)
                                  ·
                                    exact ⟨by omega, hq.a.keep (Chg.drew [] wq) (by simp) (by simp), own_keep hq.own (Chg.drew [] wq) (by simp), hq.chg.trans (Chg.drew _ _)⟩
                                  ·
                                    show L.length - (i + 1) < L.length - i; omega
                          ·
                            simp only [decide_eq_true_eq, decide_eq_false_iff_not, Decidable.not_not, Bool.and_eq_true, Bool.or_eq_true, Bool.not_eq_true', ne_eq, Int.not_lt, Int.not_le] at hc13
                            refine CW.exit ?_  -- exit 10
                            refine kh89 _ _ _ ?_
                            refine CW.seq fun kK171 kh171 => ?_
                            have hil : i = L.length := by omega
                            subst hil
                            have hd4 : decide ((tot (L.take L.length) : Int) = (l.length : Int)) = true := decide_eq_true (by rw [List.take_length]; omega)
                            refine CW.region fun kR172 kr172 => ?_  -- region 54
                            refine WL.ev (Ev.move rfl) rfl ?_
                            refine WL.ev (Ev.move rfl) rfl ?_
                            refine WL.ev (Ev.len rfl) rfl ?_
                            refine WL.ev (Ev.eql rfl rfl) rfl ?_
                            refine WL.ev (Ev.move rfl) rfl ?_
                            refine WL.want rfl rfl rfl (by rw [hd4]; rfl) ?_
                            refine WL.ev (Ev.move rfl) rfl ?_
                            refine WL.want rfl rfl rfl (by rw [hd4]; rfl) ?_
                            refine WL.call hasF19 rfl rfl (tc_Unlike hi.a hL) fun v w20 h' => ?_
                            obtain ⟨rfl, rfl⟩ := h'
                            refine WL.want rfl rfl rfl (by rw [hd4]; rfl) ?_
                            refine WL.ev (Ev.move rfl) rfl ?_
                            refine WL.want rfl rfl rfl (by rw [hd4]; rfl) ?_
                            refine WL.ev (Ev.len rfl) rfl ?_
                            refine WL.want rfl rfl rfl (by rw [hd4]; rfl) ?_
                            refine WL.ev (Ev.eql rfl rfl) rfl ?_
                            refine WL.ev (Ev.pickT rfl hd4 rfl) rfl ?_
                            refine WL.ev (Ev.assign rfl) rfl ?_
                            refine WL.nil (kr172 _ _ _ ?_)
                            refine kh171 _ _ _ ?_
                            refine CW.ret ?_
                            refine bodyA.ret1 rfl rfl ?_
                            exact ⟨by rw [decide_eq_true rfl], hi.chg⟩

end Go.Proofs.Ytjlmenmlpmfokaa
