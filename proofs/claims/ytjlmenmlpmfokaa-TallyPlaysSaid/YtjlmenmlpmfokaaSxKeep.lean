/- append on an own row: in place, or into a new block where the old one stays. No condition. -/
import Derived.Test.YtjlmenmlpmfokaaSxDraw
namespace Go.Proofs.Ytjlmenmlpmfokaa.Sx
open Go
set_option linter.unusedVariables false
set_option linter.unusedSimpArgs false

section
variable {P : Program} {n : Nat} {D : List Deferred} {s : Sl} {w : World} {ops : Array Oper} {K : KK} {rest : List Oper} {ty : TypeId} {pos : String} {af : Array Edge} {d : Nat} {x y : Operand}
theorem run_append_keeps {t ty e es be : TypeId} {i : TypeInfo} {ze : Value} (ht : P.underlying t = some (.slice e)) (hi : P.info? e = some i) (hz : i.zero = some ze) (h1' : i.size = es) (h2' : i.bytes = be) (hzs : ze.cells.size = es) (hsz : 0 < es)
    (v : Value) (m : Nat) (xs : List Value) (hown : w.ownsRow 0 e es v m xs) (ad : Addr) (mm c : Nat) (news : List Value) (hl : news.length = mm * es) (hnews : ∀ j u, news[j]? = some u → w.cell? (ad.add j) = some u) (h1 : ∀ u ∈ news, u.oneCell' = true) (h63 : m + mm ≤ maxLen) (hbytes : (m + mm) * be ≤ 140737488355328) :
    ∃ v' w', (Builtin.append_ #[t, t] ty #[v, .slice (some ad) mm c]).run P w = .ok v' w' ∧ w'.ownsRow 0 e es v' (m + mm) (xs ++ news) ∧ ((v'.ownBlock = v.ownBlock ∧ Chg v.ownBlock.toList w w') ∨ (v'.ownBlock = some w.heap.size ∧ Chg [] w w')) := by
  subst h1'
  subst h2'
  obtain ⟨v', w', hr, ho, hg, hnil, hloc⟩ := run_append_own_at (P := P) w 0 t ty e i ze _ _ ht hi hz rfl rfl hzs hsz v m xs hown ad mm c news hl hnews h1 h63 hbytes (Nat.zero_le _)
  have hc : Chg v.ownBlock.toList w w' := ⟨hg.os, hg.tape, hg.output, hg.size, fun j hj hn => hg.block j hj fun he => hn (by rw [← he]; simp)⟩
  refine ⟨v', w', hr, ho, ?_⟩
  rcases hloc with hloc | hloc
  · exact .inl ⟨hloc, hc⟩
  · refine .inr ⟨hloc, ?_⟩
    have hsmall : m + mm ≤ 9223372036854775807 := by simp only [maxLen] at h63; omega
    have h12 := hown.1
    have hown2 := hown
    rcases hown.2 with ⟨rfl, rfl⟩ | ⟨g, cap, cur, rfl, hbg, hgo, hnc, hcm, hcs, htake⟩
    · exact hc
    · by_cases hroom : m + mm ≤ cap
      · have hfit : m * i.size + news.length ≤ cur.size := by rw [hl, hcs, ← Nat.add_mul]; exact Nat.mul_le_mul_right _ hroom
        have hr2 := run_append_room (P := P) w t ty e i ht hi g m cap cur hgo ad mm c news hl hnews h1 hroom hfit
        rw [hr2] at hr
        injection hr with hr3 hr4
        rw [← hr3] at hloc
        have : g = w.heap.size := by injection hloc
        have := lt_of_heap hgo
        omega
      · have holds : ∀ j u, xs[j]? = some u → w.cell? ((⟨g, 0, none⟩ : Addr).add j) = some u := hown2.cells (g := g) rfl
        have hr2 := run_append_grow (P := P) w t ty e i ze ht hi hz ⟨g, 0, none⟩ m cap xs h12 holds ad mm c news hl hnews (by omega) (by omega) (growslice_fits (by omega) hbytes)
        rw [hr2] at hr
        injection hr with hr3 hr4
        rw [← hr4]
        exact (Chg.drew [] w).trans (new_alloc w.drew _).chg
/-- append(s, news..): in place, or into a new block. -/
theorem WL.appendKeep {t e es be : Nat} {de : TypeDesc} {ze : Value} {sz by_ : Nat} {z : Value} {v : Value} {m : Nat} {xs : List Value} {ad : Addr} {mm c : Nat} {news : List Value} [hT : HasT P t (.slice e) sz by_ z] [hE : HasT P e de es be ze]
    (hzs : ze.cells.size = es) (hsz : 0 < es) (hx : opnd s x = some v) (hy : opnd s y = some (.slice (some ad) mm c)) (hown : w.ownsRow 0 e es v m xs) (hl : news.length = mm * es) (hnews : ∀ j u, news[j]? = some u → w.cell? (ad.add j) = some u) (h1 : ∀ u ∈ news, u.oneCell' = true)
    (h63 : m + mm ≤ maxLen) (hbytes : (m + mm) * be ≤ 140737488355328) (hd : Nat.blt d n = true)
    (k : ∀ v' w', w'.ownsRow 0 e es v' (m + mm) (xs ++ news) → ((v'.ownBlock = v.ownBlock ∧ Chg v.ownBlock.toList w w') ∨ (v'.ownBlock = some w.heap.size ∧ Chg [] w w')) → WL P ops K rest n D ((d, v') :: s) w') :
    WL P ops K (⟨some d, .call ⟨.builtin .append, [x, y].toArray, #[t, t]⟩, ty, pos, af, none⟩ :: rest) n D s w := by
  obtain ⟨i, hi, hi1, hi2, hi3⟩ := hE.inf
  obtain ⟨v', w', hr, ho, hq⟩ := run_append_keeps (P := P) (ty := ty) hT.und hi hi3 hi1 hi2 hzs hsz v m xs hown ad mm c news hl hnews h1 h63 hbytes
  refine WL.ev (v := v') (w' := w') (fun ρ d' pos af g hρ => ?_) hd (k _ _ ho hq)
  have e1 := hρ x _ hx
  have e2 := hρ y _ hy
  simp [execOp, resolve, invoke, builtin, e1, e2, hr]
end
end Go.Proofs.Ytjlmenmlpmfokaa.Sx
