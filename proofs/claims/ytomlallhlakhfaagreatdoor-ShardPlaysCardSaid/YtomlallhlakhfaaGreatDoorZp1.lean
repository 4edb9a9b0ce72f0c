/- Part 1 of what the proof rests on. No condition. -/
import Derived.WalkKit
import Derived.Deep.Quiet
import Derived.StillTail
import Derived.Maps.AppendAt
import Derived.Laws.IdiomCopy
import Derived.Laws.CopyOwn
import Derived.OrdersHeld
import Derived.Laws.CopyRow
import Derived.Laws.Tables
import Derived.ArgAppend
import Derived.KernelRfl
import Derived.Test.YtomlallhlakhfaaGreatDoorProg
import Derived.Defers
set_option linter.unusedVariables false
set_option linter.unusedSimpArgs false
set_option maxRecDepth 100000
set_option maxHeartbeats 4000000
namespace Go.Proofs.YtomlallhlakhfaaGreatDoor
theorem oO{p:Prop}(h:p:=by omega):p:=h
theorem oD{p:Prop}(h:p:=by decide):p:=h
theorem oR{p:Prop}(h:p:=by kernel_rfl):p:=h
theorem oS{p:Prop}(h:p:=by simp):p:=h
theorem oA{p:Prop}(h:p:=by assumption):p:=h
theorem oT{p:Prop}(h:p:=by simp;omega):p:=h
theorem oF{p:Prop}(h:p:=by first|omega|(simp;omega)):p:=h
theorem oL:(∀(α:Type)(i:Nat)(a:α)(l:List α),(a::l).drop (i+1)=l.drop i)/\(∀(α:Type)(l:List α),l.drop 0=l)/\(∀(α:Type)(i:Nat)(a:α)(l:List α),(a::l).take (i+1)=a::l.take i)/\(∀(α:Type)(l:List α),l.take 0=[]):=⟨λ_ _ _ _=>rfl,λ_ _=>rfl,λ_ _ _ _=>rfl,λ_ _=>rfl⟩
namespace Sx
open Go
abbrev Sl:=List (Nat×Value)
def look:Sl->Nat->Option Value
  | [],_=>none
  | (k,v)::s,t=>bif Nat.beq k t then some v else look s t
theorem b6j(k:Nat)(v:Value)(s:Sl)(t:Nat):look ((k,v)::s) t=if k=t then some v else look s t:=by
  simp only[look]
  by_cases h:k=t
  · subst h;simp
  · have:Nat.beq k t=false:=Bool.eq_false_iff.2 λe=>h (Nat.eq_of_beq_eq_true e)
    rw[this];simp[h]
structure Fr(n:Nat)(D:List Deferred)(s:Sl)(a:Act):Prop where
  size:a.tmps.size=n
  defers:a.defers=D
  cell : ∀ t v,look s t=some v->a.tmps[t]?=some v
def k6(s:Sl):Operand->Option Value
  | .tmp t=>look s t
  | .const v=>some v
  | .global g=>some (.pointer (some ⟨g,0,none⟩))
  | .func f=>some (.func (.func f) #[] #[])
theorem Fr.eval{n:Nat}{D:List Deferred}{s:Sl}{a:Act}(h:Fr n D s a){x:Operand}{v:Value}(b:k6 s x=some v):a.eval x=v:=by
  cases x with
  | tmp t=>
    have:=h.cell t v b
    simp only[Act.eval,Array.getD_eq_getD_getElem?,this];rfl
  | const c=>exact Option.some.inj b
  | global g=>exact Option.some.inj b
  | func f=>exact Option.some.inj b
theorem Fr.put{n:Nat}{D:List Deferred}{s:Sl}{a:Act}(h:Fr n D s a){d:Nat}(g:Nat.blt d n=true)(v:Value):Fr n D ((d,v)::s) (a.put (some d) v):=by
  have f:d<n:=by simpa[Nat.blt_eq] using g
  refine ⟨by simp[Act.put,h.size],by simp[Act.put,h.defers],λt u b=>?_⟩
  rw[b6j] at b
  simp only[Act.put,Array.getElem?_setIfInBounds]
  by_cases e:d=t
  · subst e
    rw[if_pos rfl] at b
    simp[h.size,f,b]
  · rw[if_neg e] at b
    simp[e,h.cell t u b]
def j0(s' s:Sl):Prop:=∀ t v,look s' t=some v->look s t=some v
theorem j0.nil{s:Sl}: j0 [] s:=λ_ _ h=>by cases h
theorem j0.cons{s s':Sl}{t:Nat}{v:Value}(h:look s t=some v)(a:j0 s' s):j0 ((t,v)::s') s:=λu x hx=>by
  rw[b6j] at hx
  by_cases e:t=u
  · subst e;rw[if_pos rfl] at hx;rw[h,hx]
  · rw[if_neg e] at hx;exact a u x hx
theorem j0.refl{s:Sl}: j0 s s:=λ_ _ h=>h
theorem Fr.sub{n:Nat}{D:List Deferred}{s s':Sl}{a:Act}(h:Fr n D s a)(b:j0 s' s):Fr n D s' a:=⟨h.size,h.defers,λt v ht=>h.cell t v (b t v ht)⟩
abbrev KK:=List Deferred->Sl->World->Prop
abbrev AQ:=Exit->List Deferred->Sl->World->Prop
def d8q(n:Nat)(A:AQ):Exit->Act->World->Prop:=λe a w=>∃ D s,Fr n D s a/\A e D s w
def CW(P:Program)(c:Code)(A:AQ)(n:Nat)(D:List Deferred)(s:Sl)(w:World):Prop:=∀ a,Fr n D s a->c.wp P (d8q n A) a w
def cjx(K:KK)(A:AQ):AQ
  | .normal=>K
  | e=>A e
def inBlk(id:Nat)(A:AQ):AQ
  | .exit id'=>if id'=id then A .normal else A (.exit id')
  | e=>A e
section
variable {P:Program} {A:AQ} {n:Nat} {D:List Deferred} {s:Sl} {w:World}
theorem dpq(K:KK)(e:Exit)(a:Act)(w:World)(h:d8q n (cjx K A) e a w):Exit.then (λa w=>∃ D s,Fr n D s a/\K D s w) (d8q n A) e a w:=by
  cases e<;>exact h
theorem CW.mono{c:Code}{b:AQ}(h:CW P c A n D s w)(d : ∀ e D s w,A e D s w->b e D s w):CW P c b n D s w:=λa ha=>
  wp_mono (h a ha) λe a w ⟨D,s,hf,hq⟩=>⟨D,s,hf,d _ _ _ _ hq⟩
theorem CW.sub{c:Code}{s':Sl}(b:j0 s' s)(h:CW P c A n D s' w):CW P c A n D s w:=λa ha=>h a (ha.sub b)
theorem CW.seq{x y:Code}(h : ∀ K:KK,(∀ D s w,CW P y A n D s w->K D s w)->CW P x (cjx K A) n D s w):CW P (.seq x y) A n D s w:=λa ha=>by
  refine wp_seq (wp_mono (h (λD s w=>CW P y A n D s w) (λ_ _ _ h=>h) a ha) λe a w hq=>?_)
  have:=dpq _ _ _ _ hq
  cases e with
  | normal=>obtain ⟨D,s,hf,hk⟩:=this;exact hk a hf
  | _=>exact this
theorem CW.anj{x y:Code}(J:KK)(b:CW P x (cjx J A) n D s w)(a : ∀ D s w,J D s w->CW P y A n D s w):CW P (.seq x y) A n D s w:=
  CW.seq λK hK=>b.mono λe D s w h=>by
    cases e with
    | normal=>exact hK _ _ _ (a _ _ _ h)
    | _=>exact h
theorem CW.skip(h:A .normal D s w):CW P .skip A n D s w:=λa ha=>wp_skip ⟨D,s,ha,h⟩
theorem CW.ret(h:A .ret D s w):CW P .ret A n D s w:=λa ha=>wp_ret ⟨D,s,ha,h⟩
theorem CW.exit{b:Nat}(h:A (.exit b) D s w):CW P (.exit b) A n D s w:=λa ha=>wp_exit ⟨D,s,ha,h⟩
theorem CW.block{b:Nat}{c:Code}(h:CW P c (inBlk b A) n D s w):CW P (.block b c) A n D s w:=λa ha=>
  wp_block (wp_mono (h a ha) λe a w hq=>by
    cases e with
    | exit id'=>
      obtain ⟨D,s,hf,hk⟩:=hq
      simp only[inBlk] at hk
      simp only[Exit.inBlock]
      split at hk
      · rename_i h;rw[if_pos h];exact ⟨D,s,hf,hk⟩
      · rename_i h;rw[if_neg h];exact ⟨D,s,hf,hk⟩
    | _=>exact hq)
theorem CW.cond{c:Operand}{x y:Code}{b:Bool}(f:k6 s c=some (.bool b))(d:b=true->CW P x A n D s w)(e:b=false->CW P y A n D s w):CW P (.cond c x y) A n D s w:=λa ha=>
  wp_cond_split (ha.eval f) (λh=>d h a ha) (λh=>e h a ha)
theorem CW.nJ{c:Operand}{x y:Code}(b:k6 s c=some (.bool true))(a:CW P x A n D s w):CW P (.cond c x y) A n D s w:=CW.cond b (λ_=>a) (λh=>by cases h)
theorem CW.mQ{c:Operand}{x y:Code}(b:k6 s c=some (.bool false))(a:CW P y A n D s w):CW P (.cond c x y) A n D s w:=CW.cond b (λh=>by cases h) (λ_=>a)
theorem CW.loop{G:Type}{c:Code}(S:G->Sl)(Inv:G->World->Prop)(mu:G->Nat)(B:G)(J:Inv B w)(C:j0 (S B) s)
    (j : ∀ g w,Inv g w->CW P c (cjx (λD' s' w'=>D'=D/\∃ g',j0 (S g') s'/\Inv g' w'/\mu g'<mu g) A) n D (S g) w):CW P (.loop c) A n D s w:=λa ha=>by
  have key : ∀ m,∀ g w a,mu g=m->Inv g w->Fr n D (S g) a->(Code.loop c).wp P (d8q n A) a w:=by
    intro m g w a Q x z
    refine wp_loop (λa w=>∃ g,Inv g w/\Fr n D (S g) a) (λa w=>Classical.epsilon λk=>∃ g,Inv g w/\Fr n D (S g) a/\mu g=k/\∀ g',Inv g' w->Fr n D (S g') a->k<=mu g') ⟨g,x,z⟩ ?_
    intro a w I
    have b : ∀ (a:Act) (w:World),(∃ g,Inv g w/\Fr n D (S g) a)->∃ k,∃ g,Inv g w/\Fr n D (S g) a/\mu g=k/\∀ g',Inv g' w->Fr n D (S g') a->k<=mu g':=by
      intro a w ⟨g,hg⟩
      have : ∀ k,∀ g,mu g=k->Inv g w->Fr n D (S g) a->∃ k,∃ g,Inv g w/\Fr n D (S g) a/\mu g=k/\∀ g',Inv g' w->Fr n D (S g') a->k<=mu g':=by
        intro k
        induction k using Nat.strongRecOn with
        | _ k ih=>
          intro g H x z
          by_cases d : ∀ g',Inv g' w->Fr n D (S g') a->k<=mu g'
          · exact ⟨k,g,x,z,H,d⟩
          · have : ∃ g',Inv g' w/\Fr n D (S g') a/\mu g'<k:=by
              apply Classical.byContradiction
              intro t
              apply d
              intro g' o i
              apply Nat.le_of_not_lt
              intro f
              exact t ⟨g',o,i,f⟩
            obtain ⟨g',o,i,f⟩:=this
            exact ih _ f g' rfl o i
      exact this _ g rfl hg.1 hg.2
    obtain ⟨M,v,y,u,d⟩:=Classical.epsilon_spec (b a w I)
    refine wp_mono (j M w v a y) λe O w' F=>?_
    have r:=dpq _ _ _ _ F
    cases e with
    | normal=>
      obtain ⟨D',s',i,rfl,g',q,h,f⟩:=r
      have p:=i.sub q
      refine ⟨⟨g',h,p⟩,?_⟩
      obtain ⟨_,_,_,_,l⟩:=Classical.epsilon_spec (b O w' ⟨g',h,p⟩)
      have:=l g' h p
      rw[<- u]
      exact Nat.lt_of_le_of_lt this f
    | _=>exact r
  exact key _ B w a rfl J (ha.sub C)
def Ret(P:Program)(f:FuncId)(args:List Value)(w:World)(R:Value->World->Prop):Prop:=
  Calls P f args.toArray w λe w'=>∃ v,e = .returned v/\R v w'
theorem Ret.mono{f:FuncId}{args:List Value}{R a:Value->World->Prop}(h:Ret P f args w R)(b : ∀ v w',R v w'->a v w'):Ret P f args w a:=
  Calls.mono h λ_ _ ⟨v,he,hR⟩=>⟨v,he,b _ _ hR⟩
def ResS(P:Program)(fn:Func)(n:Nat)(D:List Deferred)(s:Sl)(w:World)(v:Value):Prop:=∀ a,Fr n D s a->(results fn a.tmps).run P w = .ok v w
def k9(P:Program)(fn:Func)(n:Nat)(R:Value->World->Prop):AQ
  | .normal,D,s,w | .ret,D,s,w=>D=[]/\∃ v,ResS P fn n D s w v/\R v w
  | _,_,_,_=>False
def b2j:Nat->List Value->Sl
  | _,[]=>[]
  | i,v::r=>(i,v)::b2j (i+1) r
theorem dpx(l:List Value): ∀ i t,look (b2j i l) t=if i<=t then l[t-i]? else none:=by
  induction l with
  | nil=>intro i t;simp[b2j,look]
  | cons v r ih=>
    intro i t
    rw[b2j,b6j,ih]
    by_cases h:i=t
    · subst h;simp
    · by_cases h2:i<=t
      · have a:i+1<=t:=by omega
        have b:t-i=(t-(i+1))+1:=by omega
        simp[h,h2,a,b]
      · have a : ¬i+1<=t:=by omega
        simp[h,h2,a]
theorem Ret.enter{f:FuncId}{g:Func}{c:Code}{args:List Value}{R:Value->World->Prop}(q:P.funcs[f]?=some g)(r:g.body=some c)(p:Nat.ble args.length g.ntmps=true)
    (h:CW P c (k9 P g g.ntmps R) g.ntmps [] (b2j 0 args) w):Ret P f args w R:=by
  have o:args.length<=g.ntmps:=by simpa[Nat.ble_eq] using p
  refine calls_of_wp q r (wp_mono (h _ ⟨by simp;omega,rfl,λt v i=>?_⟩) λe a w n=>?_)
  · rw[dpx] at i
    simp only[Nat.zero_le,if_true,Nat.sub_zero] at i
    have j:t<args.length:=by
      by_cases hl:t<args.length
      · exact hl
      · rw[List.getElem?_eq_none oO] at i;cases i
    rw[Array.getElem?_append_left (by simpa using j)]
    simpa using i
  · obtain ⟨D,s,d,k⟩:=n
    cases e with
    | normal=>obtain ⟨l,v,b,m⟩:=k;exact ⟨by rw[d.defers,l],v,b a d,v,rfl,m⟩
    | ret=>obtain ⟨l,v,b,m⟩:=k;exact ⟨by rw[d.defers,l],v,b a d,v,rfl,m⟩
    | _=>exact k.elim
theorem Fr.getD{a:Act}(h:Fr n D s a){t:Nat}{v:Value}(b:look s t=some v):a.tmps.getD t undef=v:=by
  simp only[Array.getD_eq_getD_getElem?,h.cell t v b];rfl
theorem k9.mk{a:Func}{R:Value->World->Prop}{e:Exit}(b:e = .ret\/e = .normal){v:Value}(h:ResS P a n [] s w v)(d:R v w):k9 P a n R e [] s w:=by
  rcases b with rfl|rfl<;>exact ⟨rfl,v,h,d⟩
attribute [irreducible] k9
theorem k9.c1x{b:Func}{R:Value->World->Prop}(d:b.results = #[])(h:R (.tuple #[]) w):k9 P b n R .normal [] s w:=
  k9.mk (.inr rfl) (λa ha=>results_none d _ _ _) h
theorem k9.ret1{b:Func}{R:Value->World->Prop}{t:Nat}{v:Value}(e:b.results = #[.tmp t])(d:look s t=some v)(h:R v w):k9 P b n R .ret [] s w:=
  k9.mk (.inl rfl) (λa ha=>by rw[results_tmp e,ha.getD d]) h
theorem k9.ret2{b:Func}{R:Value->World->Prop}{t u:Nat}{v x:Value}(f:b.results = #[.tmp t,.tmp u])(e:look s t=some v)(d:look s u=some x)(h:R (.tuple #[v,x]) w):k9 P b n R .ret [] s w:=
  k9.mk (.inl rfl) (λa ha=>by rw[results_tmp2 f,ha.getD e,ha.getD d]) h
def post(n:Nat)(K:KK):Exit->Act->World->Prop
  | .normal,a,w=>∃ D s,Fr n D s a/\K D s w
  | _,_,_=>False
def WL(P:Program)(ops:Array Oper)(K:KK)(l:List Oper)(n:Nat)(D:List Deferred)(s:Sl)(w:World):Prop:=∀ a,Fr n D s a->wpList P ops (post n K) l a w
theorem ctj{K:KK}(f : ∀ D s w,K D s w->A .normal D s w)(e:Exit)(a:Act)(w:World)(h:post n K e a w):d8q n A e a w:=by
  cases e with
  | normal=>obtain ⟨D,s,d,b⟩:=h;exact ⟨D,s,d,f _ _ _ b⟩
  | _=>exact h.elim
theorem CW.region{b:Nat}{l:List Oper}(h : ∀ K:KK,(∀ D s w,A .normal D s w->K D s w)->WL P l.toArray K l n D s w):CW P (.region b l.toArray false) A n D s w:=λa ha=>
  wp_mono (wp_region_lit (h (λD s w=>A .normal D s w) (λ_ _ _ h=>h) a ha)) (ctj λ_ _ _ h=>h)
variable {ops:Array Oper} {K:KK} {rest:List Oper}
theorem WL.nil(h:K D s w):WL P ops K [] n D s w:=λa ha=>wpList_nil ⟨D,s,ha,h⟩
def Ev(P:Program)(s:Sl)(op:Op)(ty:TypeId)(w:World)(v:Value)(w':World):Prop:=
  ∀ (ρ:Operand->Value) (d:Option Tmp) (pos:String) (af:Array Edge) (g:Option (Nat×Bool)),(∀ x u,k6 s x=some u->ρ x=u)->(execOp ρ ⟨d,op,ty,pos,af,g⟩).run P w = .ok (.value v) w'
def EvS(P:Program)(s:Sl)(op:Op)(ty:TypeId)(w:World)(w':World):Prop:=
  ∀ (ρ:Operand->Value) (d:Option Tmp) (pos:String) (af:Array Edge) (g:Option (Nat×Bool)),(∀ x u,k6 s x=some u->ρ x=u)->(execOp ρ ⟨d,op,ty,pos,af,g⟩).run P w = .ok .skip w'
section
variable {op:Op} {ty:TypeId} {pos:String} {af:Array Edge} {d:Nat} {v:Value} {w':World}
theorem WL.ev(b:Ev P s op ty w v w')(e:Nat.blt d n=true)(k:WL P ops K rest n D ((d,v)::s) w'):WL P ops K (⟨some d,op,ty,pos,af,none⟩::rest) n D s w:=λa ha=>
  wpList_plain rfl λK' hK=>by
    unfold Oper.wp
    rw[b a.eval (some d) pos af none λx u hx=>ha.eval hx]
    exact hK _ _ (k _ (ha.put e v))
theorem WL.evs(b:EvS P s op ty w w')(k:WL P ops K rest n D s w'):WL P ops K (⟨none,op,ty,pos,af,none⟩::rest) n D s w:=λa ha=>
  wpList_plain rfl λK' hK=>by
    unfold Oper.wp
    rw[b a.eval none pos af none λx u hx=>ha.eval hx]
    exact hK _ _ (k _ ha)
end
def bcx(s:Sl):List Operand->Option (List Value)
  | []=>some []
  | x::r=>match k6 s x,bcx s r with
    | some v,some vs=>some (v::vs)
    | _,_=>none
theorem bnj{ρ:Operand->Value}(h : ∀ x u,k6 s x=some u->ρ x=u): ∀ (l:List Operand) vs,bcx s l=some vs->l.map ρ=vs
  | [],vs,he=>by simp only[bcx] at he;cases he;rfl
  | x::r,vs,he=>by
    simp only[bcx] at he
    split at he
    · rename_i v vs' h1 h2
      cases he
      simp[h x v h1,bnj h r vs' h2]
    · cases he
def aQ(P:Program)(f:FuncId):Prop:=∃ fn c,P.funcs[f]?=some fn/\fn.body=some c/\(fn.name=="runtime.NumGoroutine")=false
theorem aQ.run{f:FuncId}(h:aQ P f)(args:Array Value):(callFunc f args).run P w = .ok (.enter f args) w:=by
  obtain ⟨g,c,e,d,b⟩:=h
  have a : ¬g.name="runtime.NumGoroutine":=by simpa using b
  simp[callFunc,e,d,a]
section
variable {ty:TypeId} {pos:String} {af:Array Edge} {d:Nat}
theorem a9x{f:FuncId}{xs:List Operand}{at_:Array TypeId}{vs:List Value}{ρ:Operand->Value}{o:Oper}(hF:aQ P f)(b:o.op = .call ⟨.value (.func f),xs.toArray,at_⟩)(a:bcx s xs=some vs)
    (h : ∀ x u,k6 s x=some u->ρ x=u):(execOp ρ o).run P w = .ok (.enter f vs.toArray) w:=by
  have e:ρ (.func f) = .func (.func f) #[] #[]:=h _ _ rfl
  have d:=bnj h xs vs a
  unfold execOp
  simp[b,resolve,e,Deferred.ofValue,invoke,d,aQ.run hF]
theorem WL.call{f:FuncId}{xs:List Operand}{at_:Array TypeId}{vs:List Value}{R:Value->World->Prop}(hF:aQ P f)(b:bcx s xs=some vs)(g:Nat.blt d n=true)(h:Ret P f vs w R)
    (k : ∀ v w',R v w'->WL P ops K rest n D ((d,v)::s) w'):WL P ops K (⟨some d,.call ⟨.value (.func f),xs.toArray,at_⟩,ty,pos,af,none⟩::rest) n D s w:=λa ha=>
  wpList_plain rfl λK' hK=>by
    unfold Oper.wp
    rw[a9x hF rfl b λx u b=>ha.eval b]
    exact Calls.mono h λe w' ⟨v,he,hR⟩=>by subst he;exact hK _ _ (k v w' hR _ (ha.put g v))
end
section
variable {op:Op} {ty:TypeId} {pos:String} {af:Array Edge} {dst:Option Tmp} {d j:Nat} {b:Bool}
theorem arj{a:Act}(h:Fr n D s a){g:Oper}{x:Bool}{t:Nat}(f:ops[j]?=some g)(e:g.dst=some t)(d:look s t=some (.bool x)):Region.wanted ⟨dst,op,ty,pos,af,some (j,b)⟩ (yielded ops a.tmps)=(x==b):=by
  simp[Region.wanted,yielded,f,e,h.cell t _ d]
theorem wpList_guard{Q:Exit->Act->World->Prop}{a:Act}{b:Option (Nat×Bool)}(d:Region.wanted ⟨dst,op,ty,pos,af,b⟩ (yielded ops a.tmps)=true)(h:wpList P ops Q (⟨dst,op,ty,pos,af,none⟩::rest) a w):wpList P ops Q (⟨dst,op,ty,pos,af,b⟩::rest) a w:=by
  unfold wpList at h ⊢
  rw[if_pos d]
  rw[if_pos (by simp[Region.wanted])] at h
  exact h
theorem WL.want{g:Oper}{x:Bool}{t:Nat}(f:ops[j]?=some g)(e:g.dst=some t)(d:look s t=some (.bool x))(h:(x==b)=true)(k:WL P ops K (⟨dst,op,ty,pos,af,none⟩::rest) n D s w):
    WL P ops K (⟨dst,op,ty,pos,af,some (j,b)⟩::rest) n D s w:=λa ha=>wpList_guard (by rw[arj ha f e d];exact h) (k a ha)
theorem WL.pass{g:Oper}{x:Bool}{t:Nat}(h:ops[j]?=some g)(f:g.dst=some t)(e:look s t=some (.bool x))(l:(x==b)=false)(i:Nat.blt d n=true)(k:WL P ops K rest n D ((d,undef)::s) w):
    WL P ops K (⟨some d,op,ty,pos,af,some (j,b)⟩::rest) n D s w:=λa ha=>by
  unfold wpList
  rw[if_neg (by rw[arj ha h f e,l];simp)]
  exact k _ (ha.put i undef)
theorem yieldedU{a:Act}(h:Fr n D s a){g:Oper}{t:Nat}(f:ops[j]?=some g)(e:g.dst=some t)(d:look s t=some undef):Region.wanted ⟨dst,op,ty,pos,af,some (j,b)⟩ (yielded ops a.tmps)=false:=by
  simp[Region.wanted,yielded,f,e,h.cell t _ d,undef]
theorem WL.passU{g:Oper}{t:Nat}(h:ops[j]?=some g)(f:g.dst=some t)(e:look s t=some undef)(i:Nat.blt d n=true)(k:WL P ops K rest n D ((d,undef)::s) w):
    WL P ops K (⟨some d,op,ty,pos,af,some (j,b)⟩::rest) n D s w:=λa ha=>by
  unfold wpList
  rw[if_neg (by rw[yieldedU ha h f e];simp)]
  exact k _ (ha.put i undef)
end
end
end Sx
namespace Sx
open Go
structure Chg(T:List Nat)(w w':World):Prop where
  os:w'.os=w.os
  tape:w'.tape=w.tape
  output:w'.output=w.output
  size:w.heap.size<=w'.heap.size
  block : ∀ k,k<w.heap.size->k∉T->w'.heap[k]?=w.heap[k]?
theorem Chg.refl(T:List Nat)(w:World):Chg T w w:=⟨rfl,rfl,rfl,Nat.le_refl _,λ_ _ _=>rfl⟩
theorem Chg.trans{T:List Nat}{a b c:World}(h:Chg T a b)(k:Chg T b c):Chg T a c:=
  ⟨k.os.trans h.os,k.tape.trans h.tape,k.output.trans h.output,Nat.le_trans h.size k.size,λi hi hn=>(k.block i (Nat.lt_of_lt_of_le hi h.size) hn).trans (h.block i hi hn)⟩
theorem Chg.mono{T T':List Nat}{a b:World}(h:Chg T a b)(hT : ∀ x,x∈T->x∈T'):Chg T' a b:=
  ⟨h.os,h.tape,h.output,h.size,λi hi hn=>h.block i hi λhm=>hn (hT _ hm)⟩
theorem Chg.any{T:List Nat}{a b:World}(h:Chg [] a b):Chg T a b:=h.mono λx hx=>by cases hx
theorem Chg.below{a b:World}(h:Chg [] a b):RowKit.Below a.heap.size a b:=⟨h.os,h.tape,h.output,h.size,λk hk=>h.block k hk oS⟩
theorem Chg.heap{T:List Nat}{a b:World}(h:Chg T a b){k:Nat}{o:Obj}(d:a.heap[k]?=some o)(e:k∉T):b.heap[k]?=some o:=by
  rw[h.block k ?_ e];exact d
  by_cases hlt:k<a.heap.size
  · exact hlt
  · rw[Array.getElem?_eq_none oO] at d;cases d
theorem a0q{w:World}{k:Nat}{o:Obj}(a:w.heap[k]?=some o):k<w.heap.size:=by
  by_cases hlt:k<w.heap.size
  · exact hlt
  · rw[Array.getElem?_eq_none oO] at a;cases a
theorem Chg.drew(T:List Nat)(w:World):Chg T w w.drew:=⟨rfl,rfl,rfl,Nat.le_refl _,λ_ _ _=>rfl⟩
structure New(w:World)(b:Nat)(o:Obj)(w':World):Prop where
  chg:Chg [] w w'
  at_:w'.heap[b]?=some o
  is:b=w.heap.size
  size:w'.heap.size=w.heap.size+1
theorem atj(w:World)(o:Obj):New w w.heap.size o (w.alloc o):=
  ⟨⟨rfl,rfl,rfl,by simp,λk hk _=>RowKit.Below.heap_alloc _ _ _ hk⟩,heap_alloc_new w o,rfl,by simp⟩
structure Upd(w:World)(b:Nat)(o:Obj)(w':World):Prop where
  chg:Chg [b] w w'
  at_:w'.heap[b]?=some o
  size:w'.heap.size=w.heap.size
class aJ (P:Program) (t:TypeId) (d:outParam TypeDesc) (sz by_:outParam Nat) (z:outParam Value):Prop where
  und:P.underlying t=some d
  all:(P.info? t).map (λi=>(i.size,i.bytes,i.zero))=some (sz,by_,some z)
theorem aJ.inf{P:Program}{t:TypeId}{d:TypeDesc}{b a:Nat}{z:Value}(h:aJ P t d b a z): ∃ i,P.info? t=some i/\i.size=b/\i.bytes=a/\i.zero=some z:=by
  have:=h.all
  cases hi:P.info? t with
  | none=>rw[hi] at this;cases this
  | some i=>rw[hi] at this;simp at this;exact ⟨i,rfl,this.1,this.2.1,this.2.2⟩
def c4j:TypeDesc->Bool
  | .struct _ | .array _ _=>true
  | _=>false
section
variable {P:Program} {t:TypeId} {d:TypeDesc} {sz by_:Nat} {z:Value} {w:World}
theorem aJ.sizeOf(h:aJ P t d sz by_ z):(sizeOf t).run P w = .ok sz w:=by
  obtain ⟨i,b,a,_,_⟩:=h.inf
  simp[Go.sizeOf,typeInfo,b,a]
theorem aJ.zero(h:aJ P t d sz by_ z):(zeroValue t).run P w = .ok z w:=by
  obtain ⟨i,b,_,_,a⟩:=h.inf
  simp[zeroValue,typeInfo,b,a]
theorem aJ.underlying(h:aJ P t d sz by_ z):(underlying t).run P w = .ok d w:=by
  simp[Go.underlying,h.und]
theorem aJ.isAgg(h:aJ P t d sz by_ z):(isAgg t).run P w = .ok (c4j d) w:=by
  have:=h.underlying (w:=w)
  simp only[Go.isAgg,Sem.run_bind,this,Result.andThen]
  cases d<;>rfl
end
section
variable {P:Program} {s:Sl} {w:World} {ty:TypeId} {x y:Operand}
theorem Ev.move{v:Value}(h:k6 s x=some v):Ev P s (.move x) ty w v w:=λρ d pos af g hρ=>by
  have:=hρ x v h
  simp[execOp,this]
theorem Ev.assign{v:Value}(h:k6 s x=some v):Ev P s (.assign x) ty w v w:=λρ d pos af g hρ=>by
  have:=hρ x v h
  simp[execOp,this]
theorem Ev.aeq{c a b:Operand}{t:Bool}{v:Value}(f:k6 s c=some (.bool t))(e:t=true)(h:k6 s a=some v):Ev P s (.pick c a b) ty w v w:=λρ d pos af g hρ=>by
  have h1:=hρ c _ f
  have h2:=hρ a _ h
  simp[execOp,h1,h2,asBool,e]
theorem Ev.aox{c a b:Operand}{t:Bool}{v:Value}(f:k6 s c=some (.bool t))(e:t=false)(h:k6 s b=some v):Ev P s (.pick c a b) ty w v w:=λρ d pos af g hρ=>by
  have h1:=hρ c _ f
  have h2:=hρ b _ h
  simp[execOp,h1,h2,asBool,e]
theorem Ev.extract{l:List Value}{i:Nat}{v:Value}(h:k6 s x=some (.tuple l.toArray))(a:l[i]?=some v):Ev P s (.extract x i) ty w v w:=λρ d pos af g hρ=>by
  have h1:=hρ x _ h
  simp[execOp,h1,Instr.extract,a]
theorem Ev.nilPtr{a:Addr}(h:k6 s x=some (.pointer (some a))):Ev P s (.nilCheck x) ty w (.pointer (some a)) w:=λρ d pos af g hρ=>by
  have h1:=hρ x _ h
  simp[execOp,h1]
theorem pQ{a:BinOp}{t t':TypeId}{u v r:Value}(e:k6 s x=some u)(b:k6 s y=some v)(f : ∀ x y,(eqGuard a t x y u v).run P w = .ok () w)(h:(binOp a t u v).run P w = .ok r w):
    Ev P s (.binOp a t x y t') ty w r w:=λρ d pos af g hρ=>by
  have h1:=hρ x _ e
  have h2:=hρ y _ b
  simp[execOp,h1,h2,f,h]
theorem lJ(d:BinOp)(t:TypeId)(x y:Operand)(k e:IntKind)(a b:Int):(eqGuard d t x y (.int k a) (.int e b)).run P w = .ok () w:=by
  unfold eqGuard;split<;>simp
theorem bkq(d:BinOp)(t:TypeId)(x y:Operand)(k e:FloatKind)(a b:Nat):(eqGuard d t x y (.float k a) (.float e b)).run P w = .ok () w:=by
  unfold eqGuard;split<;>simp
theorem cnj(d:BinOp)(t:TypeId)(x y:Operand)(a b:Bool):(eqGuard d t x y (.bool a) (.bool b)).run P w = .ok () w:=by
  unfold eqGuard;split<;>simp
theorem c2x(d:BinOp)(t:TypeId)(x y:Operand)(a b:Option Addr):(eqGuard d t x y (.pointer a) (.pointer b)).run P w = .ok () w:=by
  unfold eqGuard;split<;>simp
section
variable {t t':TypeId} {k:IntKind} {a b:Int}
theorem Ev.add(e:k6 s x=some (.int k a))(d:k6 s y=some (.int k b)):Ev P s (.binOp .add t x y t') ty w (.int k (k.wrap (a+b))) w:=
  pQ e d (λ_ _=>lJ _ _ _ _ _ _ _ _) (by simp[binOp,Op.intArith])
theorem Ev.sub(e:k6 s x=some (.int k a))(d:k6 s y=some (.int k b)):Ev P s (.binOp .sub t x y t') ty w (.int k (k.wrap (a-b))) w:=
  pQ e d (λ_ _=>lJ _ _ _ _ _ _ _ _) (by simp[binOp,Op.intArith])
theorem wrap_in{k:IntKind}{n:Int}(h:k.min<=n/\n<=k.max):k.wrap n=n:=by
  obtain ⟨b,a⟩:=h
  cases k<;>simp[IntKind.min,IntKind.max,IntKind.signed,IntKind.bits] at b a<;>simp[IntKind.wrap,IntKind.signed,IntKind.bits]<;>omega
theorem wrap_i64{n:Int}(h : -9223372036854775808<=n/\n<=9223372036854775807):IntKind.i64.wrap n=n:=IntWalk.i64_in n h
theorem Ev.kQ{a b:Int}(e:k6 s x=some (.int .i64 a))(d:k6 s y=some (.int .i64 b))(h : -9223372036854775808<=a+b/\a+b<=9223372036854775807):Ev P s (.binOp .add t x y t') ty w (.int .i64 (a+b)) w:=by
  have:=Ev.add (P:=P) (w:=w) (ty:=ty) (t:=t) (t':=t') e d
  rwa [wrap_i64 h] at this
theorem Ev.dX{a b:Int}(e:k6 s x=some (.int .i64 a))(d:k6 s y=some (.int .i64 b))(h : -9223372036854775808<=a-b/\a-b<=9223372036854775807):Ev P s (.binOp .sub t x y t') ty w (.int .i64 (a-b)) w:=by
  have:=Ev.sub (P:=P) (w:=w) (ty:=ty) (t:=t) (t':=t') e d
  rwa [wrap_i64 h] at this
theorem Ev.mul(e:k6 s x=some (.int k a))(d:k6 s y=some (.int k b)):Ev P s (.binOp .mul t x y t') ty w (.int k (k.wrap (a*b))) w:=
  pQ e d (λ_ _=>lJ _ _ _ _ _ _ _ _) (by simp[binOp,Op.intArith])
theorem Ev.quo(e:k6 s x=some (.int k a))(d:k6 s y=some (.int k b))(h:b≠0):Ev P s (.binOp .quo t x y t') ty w (.int k (k.wrap (a.tdiv b))) w:=
  pQ e d (λ_ _=>lJ _ _ _ _ _ _ _ _) (by simp[binOp,Op.intDiv,h])
theorem Ev.rem(e:k6 s x=some (.int k a))(d:k6 s y=some (.int k b))(h:b≠0):Ev P s (.binOp .rem t x y t') ty w (.int k (a.tmod b)) w:=
  pQ e d (λ_ _=>lJ _ _ _ _ _ _ _ _) (by simp[binOp,Op.intDiv,h])
theorem Ev.dhq(e:k6 s x=some (.int k a))(d:k6 s y=some (.int k b))(f:0<=a)(h:0<b):Ev P s (.binOp .rem t x y t') ty w (.int k (a%b)) w:=by
  have:=Ev.rem (P:=P) (w:=w) (ty:=ty) (t:=t) (t':=t') e d oO
  rwa [Int.tmod_eq_emod_of_nonneg f] at this
theorem Ev.b1x(f:k6 s x=some (.int k a))(e:k6 s y=some (.int k b))(d:0<=a)(l:a<=k.max)(h:0<b):Ev P s (.binOp .quo t x y t') ty w (.int k (a/b)) w:=by
  have:=Ev.quo (P:=P) (w:=w) (ty:=ty) (t:=t) (t':=t') f e oO
  have j:=Int.ediv_le_self b d
  have i:=Int.ediv_nonneg d (by omega:0<=b)
  have g:k.min<=0:=by cases k<;>decide
  rwa [Int.tdiv_eq_ediv_of_nonneg d,wrap_in ⟨by omega,by omega⟩] at this
theorem Ev.lss(e:k6 s x=some (.int k a))(d:k6 s y=some (.int k b)):Ev P s (.binOp .lss t x y t') ty w (.bool (decide (a<b))) w:=
  pQ e d (λ_ _=>lJ _ _ _ _ _ _ _ _) (by simp[binOp,Op.intCmp])
theorem Ev.leq(e:k6 s x=some (.int k a))(d:k6 s y=some (.int k b)):Ev P s (.binOp .leq t x y t') ty w (.bool (decide (a<=b))) w:=
  pQ e d (λ_ _=>lJ _ _ _ _ _ _ _ _) (by simp[binOp,Op.intCmp])
theorem Ev.gtr(e:k6 s x=some (.int k a))(d:k6 s y=some (.int k b)):Ev P s (.binOp .gtr t x y t') ty w (.bool (decide (b<a))) w:=
  pQ e d (λ_ _=>lJ _ _ _ _ _ _ _ _) (by simp[binOp,Op.intCmp])
theorem Ev.geq(e:k6 s x=some (.int k a))(d:k6 s y=some (.int k b)):Ev P s (.binOp .geq t x y t') ty w (.bool (decide (b<=a))) w:=
  pQ e d (λ_ _=>lJ _ _ _ _ _ _ _ _) (by simp[binOp,Op.intCmp])
theorem Ev.eql(e:k6 s x=some (.int k a))(d:k6 s y=some (.int k b)):Ev P s (.binOp .eql t x y t') ty w (.bool (decide (a=b))) w:=
  pQ e d (λ_ _=>lJ _ _ _ _ _ _ _ _) (by simp[binOp,Op.intCmp];rw[Bool.eq_iff_iff];simp)
theorem Ev.neq(e:k6 s x=some (.int k a))(d:k6 s y=some (.int k b)):Ev P s (.binOp .neq t x y t') ty w (.bool (decide (a≠b))) w:=
  pQ e d (λ_ _=>lJ _ _ _ _ _ _ _ _) (by simp[binOp,Op.intCmp];rw[Bool.eq_iff_iff];simp)
def aiq(op:BinOp)(k:IntKind)(a b:Int):Int:=
  let u:=BitVec.ofInt k.bits a
  let v:=BitVec.ofInt k.bits b
  match op with
  | .and=>k.wrap (u&&& v).toNat
  | .or=>k.wrap (u||| v).toNat
  | .xor=>k.wrap (u ^^^ v).toNat
  | .andNot=>k.wrap (u&&& ~~~v).toNat
  | _=>0
theorem Ev.bits{d:BinOp}(e:(d = .and\/d = .or)\/(d = .xor\/d = .andNot))(g:k6 s x=some (.int k a))(f:k6 s y=some (.int k b)):Ev P s (.binOp d t x y t') ty w (.int k (aiq d k a b)) w:=
  pQ g f (λ_ _=>lJ _ _ _ _ _ _ _ _) (by rcases e with (rfl|rfl)|(rfl|rfl)<;>simp[binOp,Op.intBits,aiq])
theorem Ev.and(e:k6 s x=some (.int k a))(d:k6 s y=some (.int k b)):Ev P s (.binOp .and t x y t') ty w (.int k (aiq .and k a b)) w:=Ev.bits (.inl (.inl rfl)) e d
theorem Ev.or(e:k6 s x=some (.int k a))(d:k6 s y=some (.int k b)):Ev P s (.binOp .or t x y t') ty w (.int k (aiq .or k a b)) w:=Ev.bits (.inl (.inr rfl)) e d
theorem Ev.xor(e:k6 s x=some (.int k a))(d:k6 s y=some (.int k b)):Ev P s (.binOp .xor t x y t') ty w (.int k (aiq .xor k a b)) w:=Ev.bits (.inr (.inl rfl)) e d
theorem Ev.andNot(e:k6 s x=some (.int k a))(d:k6 s y=some (.int k b)):Ev P s (.binOp .andNot t x y t') ty w (.int k (aiq .andNot k a b)) w:=Ev.bits (.inr (.inr rfl)) e d
theorem Ev.shl{d:IntKind}(f:k6 s x=some (.int k a))(e:k6 s y=some (.int d b))(h:0<=b):Ev P s (.binOp .shl t x y t') ty w (.int k (k.wrap (a*2^(min b.toNat k.bits)))) w:=
  pQ f e (λ_ _=>lJ _ _ _ _ _ _ _ _) (by simp[binOp,Op.shift,Int.not_lt.2 h])
theorem Ev.shr{d:IntKind}(f:k6 s x=some (.int k a))(e:k6 s y=some (.int d b))(h:0<=b):Ev P s (.binOp .shr t x y t') ty w (.int k (a.fdiv (2^(min b.toNat k.bits)))) w:=
  pQ f e (λ_ _=>lJ _ _ _ _ _ _ _ _) (by simp[binOp,Op.shift,Int.not_lt.2 h])
theorem Ev.conv{src dst:TypeId}{d i:TypeDesc}{l f b h:Nat}{z j:Value}{e:IntKind}[n:aJ P src d l f z][p:aJ P dst i b h j](o:i = .int e)(m:k6 s x=some (.int k a)):
    Ev P s (.convert src dst x) ty w (.int e (e.wrap a)) w:=λρ d pos af g hρ=>by
  have h1:=hρ x _ m
  subst o
  simp[execOp,h1,convert,n.underlying,p.underlying,Conv.intToInt]
theorem Ev.neg(b:k6 s x=some (.int k a)):Ev P s (.unOp .neg t x) ty w (.int k (k.wrap (0-a))) w:=λρ d pos af g hρ=>by
  have h1:=hρ x _ b
  simp[execOp,h1,Op.unary,Op.intArith]
theorem Ev.compl(b:k6 s x=some (.int k a)):Ev P s (.unOp .xor t x) ty w (.int k (aiq .xor k (if k.signed then -1 else k.max) a)) w:=λρ d pos af g hρ=>by
  have h1:=hρ x _ b
  simp[execOp,h1,Op.unary,Op.intBits,aiq]
end
theorem Ev.not{t:TypeId}{b:Bool}(a:k6 s x=some (.bool b)):Ev P s (.unOp .not t x) ty w (.bool !b) w:=λρ d pos af g hρ=>by
  have h1:=hρ x _ a
  simp[execOp,h1,Op.unary]
section
variable {t t':TypeId} {k:FloatKind} {a b:Nat}
theorem Ev.feql(e:k6 s x=some (.float k a))(d:k6 s y=some (.float k b)):Ev P s (.binOp .eql t x y t') ty w (.bool (k.format.order a b==some .eq)) w:=
  pQ e d (λ_ _=>bkq _ _ _ _ _ _ _ _) (by simp[binOp,Op.floatCmp])
theorem Ev.fneq(e:k6 s x=some (.float k a))(d:k6 s y=some (.float k b)):Ev P s (.binOp .neq t x y t') ty w (.bool (k.format.order a b != some .eq)) w:=
  pQ e d (λ_ _=>bkq _ _ _ _ _ _ _ _) (by simp[binOp,Op.floatCmp])
theorem Ev.fgtr(e:k6 s x=some (.float k a))(d:k6 s y=some (.float k b)):Ev P s (.binOp .gtr t x y t') ty w (.bool (k.format.order a b==some .gt)) w:=
  pQ e d (λ_ _=>bkq _ _ _ _ _ _ _ _) (by simp[binOp,Op.floatCmp])
theorem Ev.fneg(b:k6 s x=some (.float k a)):Ev P s (.unOp .neg t x) ty w (.float k (Op.negFloat k a)) w:=λρ d pos af g hρ=>by
  have h1:=hρ x _ b
  simp[execOp,h1,Op.unary]
end
theorem Ev.ext{f:FuncId}{xs:List Operand}{at_:Array TypeId}{vs:List Value}{v:Value}(a:bcx s xs=some vs)(h:(callFunc f vs.toArray).run P w = .ok (.value v) w):Ev P s (.call ⟨.value (.func f),xs.toArray,at_⟩) ty w v w:=λρ d pos af g hρ=>by
  have e1:ρ (.func f) = .func (.func f) #[] #[]:=hρ _ _ rfl
  have e2:=bnj hρ xs vs a
  simp[execOp,resolve,e1,Deferred.ofValue,invoke,e2,h]
section
variable {t:TypeId} {d:TypeDesc} {sz by_:Nat} {z:Value} {a:Addr}
theorem Ev.load{v:Value}[hT:aJ P t d sz by_ z](e:c4j d=false)(b:k6 s x=some (.pointer (some a)))(f:w.cell? a=some v):Ev P s (.load t x) ty w v w:=λρ d' pos af g hρ=>by
  have h1:=hρ x _ b
  simp[execOp,h1,Instr.loadAt,Instr.sureAddr,loadVar,hT.isAgg,e,f]
theorem Ev.awj{cs:List Value}[hT:aJ P t d sz by_ z](f:c4j d=true)(e:cs.length=sz)(b:k6 s x=some (.pointer (some a)))(h : ∀ j v,cs[j]?=some v->w.cell? (a.add j)=some v):Ev P s (.load t x) ty w (.agg cs.toArray) w:=λρ d' pos af g hρ=>by
  have h1:=hρ x _ b
  have h2:=run_loadCells_list (P:=P) w a cs h
  rw[e] at h2
  simp[execOp,h1,Instr.loadAt,Instr.sureAddr,loadVar,hT.isAgg,f,hT.sizeOf,h2]
class eJ (P:Program) (t:TypeId) (i:Nat) (off:outParam Nat):Prop where
  run : ∀ (a:Addr) (w:World),(Instr.fieldAt t (.pointer (some a)) i).run P w = .ok (.pointer (some (a.add off))) w
theorem axq(b o a:Nat):Addr.add ⟨b,o,none⟩ a=⟨b,o+a,none⟩:=by
  unfold Addr.add;split
  · rename_i h;subst h;rfl
  · rfl
theorem Ev.fieldAddr{i b o a:Nat}[hF:eJ P t i a](d:k6 s x=some (.pointer (some ⟨b,o,none⟩))):
    Ev P s (.fieldAddr t x i) ty w (.pointer (some ⟨b,o+a,none⟩)) w:=λρ d' pos af g hρ=>by
  have h1:=hρ x _ d
  have h2:=hF.run ⟨b,o,none⟩ w
  rw[axq] at h2
  simp[execOp,h1,h2]
end
end
end Sx
namespace Sx
open Go
theorem New.ge{w w':World}{b:Nat}{o:Obj}(h:New w b o w'):w.heap.size<=b:=by have:=h.is;omega
theorem a7j{w:World}{b i:Nat}{l:List Value}{t:TypeId}{a:Nat×Nat}(h:w.heap[b]?=some (.cells l.toArray t a)):w.cell? ⟨b,i,none⟩=l[i]?:=by
  rw[cell_of_row w b i _ t a h];simp
theorem cell_at'{w:World}{b i:Nat}{l:Array Value}{t:TypeId}{a:Nat×Nat}(h:w.heap[b]?=some (.cells l t a)):w.cell? ⟨b,i,none⟩=l[i]?:=cell_of_row w b i _ t a h
theorem Chg.cell{T:List Nat}{w w':World}(h:Chg T w w'){p:Addr}{v:Value}(a:w.cell? p=some v)(b:p.block∉T):w'.cell? p=some v:=by
  rw[World.cell?_of_block (w:=w) (h.block _ (block_lt_of_cell a) b)];exact a
theorem bex(w:World)(b i:Nat)(l:List Value)(t:TypeId)(v:Value)(h:w.heap[b]?=some (.cells l.toArray t (0,0))):Upd w b (.cells (l.set i v).toArray t (0,0)) (w.setCell ⟨b,i,none⟩ v):=by
  refine ⟨⟨rfl,rfl,rfl,by simp,λk d a=>?_⟩,?_,by simp⟩
  · exact RowKit.Below.heap_setCell _ _ _ _ (by simpa using a)
  · rw[heap_setCell_same w b i _ t v h];simp
section
variable {P:Program} {n:Nat} {D:List Deferred} {s:Sl} {w:World} {ty:TypeId} {x y:Operand} {ops:Array Oper} {K:KK} {rest:List Oper} {pos:String} {af:Array Edge} {d:Nat}
theorem WL.box{t:TypeId}{v:Value}{l:List Value}(a:k6 s x=some v)(e:v.cells=l.toArray)(f:Nat.blt d n=true)
    (k : ∀ b w',New w b (.cells l.toArray t) w'->WL P ops K rest n D ((d,.pointer (some ⟨b,0,none⟩))::s) w'):WL P ops K (⟨some d,.box t x,ty,pos,af,none⟩::rest) n D s w:=
  WL.ev (v:=.pointer (some ⟨w.heap.size,0,none⟩)) (w':=w.alloc (.cells l.toArray t)) (λρ d' pos af g hρ=>by
    have h1:=hρ x _ a
    simp[execOp,h1,Instr.box,newVar,newRow,e]) f (k _ _ (atj _ _))
theorem WL.alloc{t:TypeId}{i:TypeDesc}{e a:Nat}{z:Value}{l:List Value}[hT:aJ P t i e a z](f:z.cells=l.toArray)(h:Nat.blt d n=true)
    (k : ∀ b w',New w b (.cells l.toArray t) w'->WL P ops K rest n D ((d,.pointer (some ⟨b,0,none⟩))::s) w'):WL P ops K (⟨some d,.alloc t,ty,pos,af,none⟩::rest) n D s w:=
  WL.ev (v:=.pointer (some ⟨w.heap.size,0,none⟩)) (w':=w.alloc (.cells l.toArray t)) (λρ d' pos af g hρ=>by
    simp[execOp,Instr.alloc,hT.zero,newVar,newRow,f]) h (k _ _ (atj _ _))
theorem b7j{w:World}{b i:Nat}{l:Array Value}{t:TypeId}(h:w.heap[b]?=some (.cells l t (0,0))):w.frozen? ⟨b,i,none⟩=false:=by
  simp[World.frozen?,h]
theorem WL.store{t:TypeId}{m:TypeDesc}{d:Nat}{z:Value}{b i:Nat}{l:List Value}{T:TypeId}{v:Value}[hT:aJ P t m 1 d z](h:k6 s x=some (.pointer (some ⟨b,i,none⟩)))(f:k6 s y=some v)(e:v.oneCell'=true)
    (a:w.heap[b]?=some (.cells l.toArray T (0,0))) (j:i<l.length) (k : ∀ w',Upd w b (.cells (l.set i v).toArray T (0,0)) w'->WL P ops K rest n D s w'):WL P ops K (⟨none,.store t x y,ty,pos,af,none⟩::rest) n D s w:=
  WL.evs (w':=w.setCell ⟨b,i,none⟩ v) (λρ d' pos af g hρ=>by
    have e1:=hρ x _ h
    have e2:=hρ y _ f
    have e3:v.cells = #[v]:=by cases v<;>first|rfl|cases e
    have e4:w.cell? ⟨b,i,none⟩=some l[i]:=by rw[a7j a];simp[j]
    have e5:w.frozen? ⟨b,i,none⟩=false:=b7j a
    simp[execOp,e1,e2,Instr.storeAt,Instr.sureAddr,storeVar,hT.sizeOf,e3,storeCells,Addr.add,run_store _ _ _ _ _ e,e4,e5]) (k _ (bex w b i l T v a))
def splice(l:List Value)(i:Nat):List Value->List Value
  | []=>l
  | v::r=>splice (l.set i v) (i+1) r
theorem byj(b:Nat)(T:TypeId): ∀ (vs:List Value) (l:List Value) (o j:Nat) (w:World),(∀ v∈vs,v.oneCell'=true)->w.heap[b]?=some (.cells l.toArray T (0,0))->o+j+vs.length<=l.length->
    ∃ w',(storeCells ⟨b,o,none⟩ vs j).run P w = .ok () w'/\Upd w b (.cells (splice l (o+j) vs).toArray T (0,0)) w':=by
  intro vs
  induction vs with
  | nil=>intro l o j w _ d _;exact ⟨w,by simp[storeCells],⟨Chg.refl _ _,d,rfl⟩⟩
  | cons v r ih=>
    intro l o j w f d i
    simp only[List.length_cons] at i
    have k:(Addr.add ⟨b,o,none⟩ j)=⟨b,o+j,none⟩:=by
      unfold Addr.add;split
      · rename_i h;subst h;rfl
      · rfl
    have n:w.cell? ⟨b,o+j,none⟩=some l[o+j]:=by rw[a7j d];simp
    have m:w.frozen? ⟨b,o+j,none⟩=false:=b7j d
    have e:=bex w b (o+j) l T v d
    obtain ⟨w',g,a⟩:=ih (l.set (o+j) v) o (j+1) (w.setCell ⟨b,o+j,none⟩ v) (λx hx=>f x (by simp[hx])) e.at_ oT
    refine ⟨w',?_,⟨e.chg.trans a.chg,a.at_,by rw[a.size,e.size]⟩⟩
    simp only[storeCells,Sem.run_bind,k,run_store _ _ _ _ _ (f v oS),n,m]
    simpa using g
theorem WL.storeAgg{t:TypeId}{C:TypeDesc}{d a:Nat}{z:Value}{b i:Nat}{l vs:List Value}{T:TypeId}[hT:aJ P t C d a z](h:k6 s x=some (.pointer (some ⟨b,i,none⟩)))(f:k6 s y=some (.agg vs.toArray))(m:vs.length=d)(r : ∀ v∈vs,v.oneCell'=true)
    (q:w.heap[b]?=some (.cells l.toArray T (0,0))) (p:i+vs.length<=l.length) (k : ∀ w',Upd w b (.cells (splice l i vs).toArray T (0,0)) w'->WL P ops K rest n D s w'):WL P ops K (⟨none,.store t x y,ty,pos,af,none⟩::rest) n D s w:=by
  obtain ⟨w',o,j⟩:=byj (P:=P) b T vs l i 0 w r q (by simpa using p)
  refine WL.evs (w':=w') (λρ F pos af g e=>?_) (k _ (by simpa using j))
  have B:=e x _ h
  have A:=e y _ f
  have u:(Value.agg vs.toArray).cells=vs.toArray:=rfl
  simp[execOp,B,A,Instr.storeAt,Instr.sureAddr,storeVar,hT.sizeOf,u,m,o]
theorem ckx{w:World}{t:TypeId}{u v:Value}{r:Bool}(h : ∀ d,(Op.equalIn (d+1) t u v).run P w = .ok r w):(Op.equal t u v).run P w = .ok r w:=h 9999
theorem run_eql_ptr{w:World}{t:TypeId}{a b:Option Addr}{r:Bool}(h : ∀ d,(Op.equalIn (d+1) t (.pointer a) (.pointer b)).run P w = .ok r w):(binOp .eql t (.pointer a) (.pointer b)).run P w = .ok (.bool r) w:=by
  have:=ckx h
  simp only[binOp]
  simp[this]
theorem run_neq_ptr{w:World}{t:TypeId}{a b:Option Addr}{r:Bool}(h : ∀ d,(Op.equalIn (d+1) t (.pointer a) (.pointer b)).run P w = .ok r w):(binOp .neq t (.pointer a) (.pointer b)).run P w = .ok (.bool (!r)) w:=by
  have:=ckx h
  simp only[binOp]
  simp[this]
theorem Ev.a0j{t t' e:TypeId}{f b:Nat}{z:Value}{a:Option Addr}[hT:aJ P t (.pointer e) f b z](h:k6 s x=some (.pointer a))(g:k6 s y=some (.pointer none)):Ev P s (.binOp .eql t x y t') ty w (.bool a.isNone) w:=
  pQ h g (λ_ _=>c2x _ _ _ _ _ _) (run_eql_ptr λd=>by
    cases a<;>simp[Op.equalIn,hT.underlying])
theorem Ev.a8q{t t' e:TypeId}{f b:Nat}{z:Value}{a:Option Addr}[hT:aJ P t (.pointer e) f b z](h:k6 s x=some (.pointer a))(g:k6 s y=some (.pointer none)):Ev P s (.binOp .neq t x y t') ty w (.bool (!a.isNone)) w:=
  pQ h g (λ_ _=>c2x _ _ _ _ _ _) (run_neq_ptr λd=>by
    cases a<;>simp[Op.equalIn,hT.underlying])
def rdR(tmps:Array Value):ResultVar->Sem Value
  | .tmp t=>pure (tmps.getD t undef)
  | .cell a t=>do loadVar t (<- asAddr (tmps.getD a undef))
def aZ(P:Program)(n:Nat)(D:List Deferred)(s:Sl)(w:World)(r:ResultVar)(v:Value):Prop:=∀ a,Fr n D s a->(rdR a.tmps r).run P w = .ok v w
theorem loadVar_one{t:TypeId}{d:TypeDesc}{e b:Nat}{z v:Value}{a:Addr}[hT:aJ P t d e b z](f:c4j d=false)(g:w.cell? a=some v):(loadVar t a).run P w = .ok v w:=by
  simp[loadVar,hT.isAgg,f,g]
theorem loadVar_agg{t:TypeId}{f:TypeDesc}{d b:Nat}{z:Value}{a:Addr}{cs:List Value}[hT:aJ P t f d b z](h:c4j f=true)(g:cs.length=d)(i : ∀ j v,cs[j]?=some v->w.cell? (a.add j)=some v):(loadVar t a).run P w = .ok (.agg cs.toArray) w:=by
  have e:=run_loadCells_list (P:=P) w a cs i
  rw[g] at e
  simp[loadVar,hT.isAgg,h,hT.sizeOf,e]
theorem aZ.tmp{t:Nat}{v:Value}(h:look s t=some v):aZ P n D s w (.tmp t) v:=λa ha=>by
  simp only[rdR,ha.getD h];rfl
theorem aZ.cell{t a:Nat}{d:Addr}{v:Value}(h:look s a=some (.pointer (some d)))(e:(loadVar t d).run P w = .ok v w):aZ P n D s w (.cell a t) v:=λb hb=>by
  simp[rdR,hb.getD h,asAddr,e]
theorem bfq(b:Func)(a:Array Value):results b a=(do let vs <- b.results.mapM (rdR a);pure (if h:vs.size=1 then vs[0] else .tuple vs)):=rfl
theorem k9.qJ{b:Func}{R:Value->World->Prop}{r:ResultVar}{v:Value}(d:b.results = #[r])(h:aZ P n [] s w r v)(e:R v w):k9 P b n R .ret [] s w:=
  k9.mk (.inl rfl) (λa ha=>by rw[bfq,d];simp[h a ha]) e
theorem k9.iX{b:Func}{R:Value->World->Prop}{r q:ResultVar}{v u:Value}(d:b.results = #[r,q])(h:aZ P n [] s w r v)(f:aZ P n [] s w q u)(e:R (.tuple [v,u].toArray) w):k9 P b n R .ret [] s w:=
  k9.mk (.inl rfl) (λa ha=>by rw[bfq,d];simp[h a ha,f a ha]) e
theorem k9.ckq{b:Func}{R:Value->World->Prop}{r q p:ResultVar}{v u x:Value}(d:b.results = #[r,q,p])(h:aZ P n [] s w r v)(g:aZ P n [] s w q u)(f:aZ P n [] s w p x)(e:R (.tuple [v,u,x].toArray) w):k9 P b n R .ret [] s w:=
  k9.mk (.inl rfl) (λa ha=>by rw[bfq,d];simp[h a ha,g a ha,f a ha]) e
theorem acj{P:Program}{t:TypeId}{b a:Array Field}(h:P.underlying t=some (.struct b))(g:P.underlying t=some (.struct a)):a=b:=by
  rw[h] at g;injection g with g;injection g with g;exact g.symm
class b9q (P:Program) (t:TypeId) (pl:outParam (Array (Nat×Nat))):Prop where
  run : ∀ (w:World) (fs:Array Field),P.underlying t=some (.struct fs)->(fs.mapM λf:Field=>(do pure (f.offset,<- sizeOf f.type):Sem (Nat×Nat))).run P w = .ok pl w
def boj(s:Sl):List (Nat×Operand)->Option (List (Nat×Value))
  | []=>some []
  | (i,x)::r=>match k6 s x,boj s r with
    | some v,some vs=>some ((i,v)::vs)
    | _,_=>none
theorem boq{s:Sl}{ρ:Operand->Value}(h : ∀ x u,k6 s x=some u->ρ x=u): ∀ (l:List (Nat×Operand)) vs,boj s l=some vs->l.map (λp=>(p.1,ρ p.2))=vs
  | [],vs,he=>by simp only[boj] at he;cases he;rfl
  | (i,x)::r,vs,he=>by
    simp only[boj] at he
    split at he
    · rename_i v vs' h1 h2
      cases he
      simp[h x v h1,boq h r vs' h2]
    · cases he
theorem Ev.build{t:TypeId}{e:Array Field}{f b:Nat}{z:Value}{a:List (Nat×Operand)}{vs:List (Nat×Value)}{d:Array (Nat×Nat)}{cs:List Value}[hT:aJ P t (.struct e) f b z][j:b9q P t d]
    (h:boj s a=some vs) (i:Instr.fill (d[·]?) z.cells vs=some cs.toArray):Ev P s (.build t a.toArray) ty w (.agg cs.toArray) w:=λρ d' pos af g hρ=>by
  have h1:=boq hρ a vs h
  have h2:=j.run w e hT.und
  simp only[bind_pure_comp] at h2
  simp[execOp,Instr.build,hT.zero,hT.underlying,h1,h2,i]
theorem WL.buildSlice{t e:TypeId}{B:TypeDesc}{r p a C:Nat}{z ze:Value}{o:List (Nat×Operand)}{vs:List (Nat×Value)}{cs:List Value}{m:Nat}{l:Array Oper}{K:KK}{f:List Oper}{j:String}{q:Array Edge}{d:Nat}[hT:aJ P t (.slice e) r p z][hE:aJ P e B a C ze]
    (F:m*a<=2^24) (x:0<m*a) (u:boj s o=some vs) (y:Instr.fill (λi=>some (i*a,a)) ((Array.range (m*a)).map (ze.cells[· % ze.cells.size]!)) vs=some cs.toArray) (A:Nat.blt d n=true)
    (k : ∀ b w',New w b (.cells cs.toArray e) w'->WL P l K f n D ((d,.slice (some ⟨b,0,none⟩) m m)::s) w'):WL P l K (⟨some d,.buildSlice t m o.toArray,ty,j,q,none⟩::f) n D s w:=
  WL.ev (v:=.slice (some ⟨w.heap.size,0,none⟩) m m) (w':=w.alloc (.cells cs.toArray e)) (λρ d' j q g hρ=>by
    have h1:=boq hρ o vs u
    have h3 : ¬(16777216<m*a):=by have:(2:Nat)^24=16777216:=rfl;omega
    have h4 : ¬(m*a=0):=by omega
    have h5 : ¬(m=0\/a=0):=by
      intro h;rcases h with h|h<;>simp[h] at x
    simp[execOp,Instr.buildSlice,hT.underlying,hE.sizeOf,hE.zero,h1,h3,h5,y,newRow]
    intro h;exact absurd h h4) A (k _ _ (atj _ _))
theorem Ev.len{t:TypeId}{a:Option Addr}{m c e:Nat}{d b:Nat}{z:Value}[hT:aJ P t (.slice e) d b z](f:k6 s x=some (.slice a m c)):Ev P s (.call ⟨.builtin .len,[x].toArray,#[t]⟩) ty w (.int .i64 (m:Int)) w:=λρ d' pos af g hρ=>by
  have e1:=hρ x _ f
  simp[execOp,resolve,invoke,builtin,e1,Builtin.len_,hT.underlying,goInt]
theorem Ev.indexAddr{t:TypeId}{b o m c e:Nat}{a r:Nat}{k:IntKind}{i:Int}{q:TypeDesc}{ze:Value}{f d:Nat}{z:Value}[hT:aJ P t (.slice e) f d z][hE:aJ P e q a r ze](l:k6 s x=some (.slice (some ⟨b,o,none⟩) m c))(j:k6 s y=some (.int k i))(p:0<=i)(n:i<m):
    Ev P s (.indexAddr t x y) ty w (.pointer (some ⟨b,o+i.toNat*a,none⟩)) w:=λρ d' pos af g hρ=>by
  have e1:=hρ x _ l
  have e2:=hρ y _ j
  have ha:(Addr.add ⟨b,o,none⟩ (i.toNat*a))=⟨b,o+i.toNat*a,none⟩:=by
    unfold Addr.add;split
    · rename_i h;rw[h];rfl
    · rfl
  simp[execOp,e1,e2,Instr.indexAt,asIntOf,hT.underlying,p,n,hE.sizeOf,ha]
theorem Ev.indexAddrArr{t:TypeId}{b o m e:Nat}{a r:Nat}{k:IntKind}{i:Int}{q:TypeDesc}{ze:Value}{f d:Nat}{z:Value}[hT:aJ P t (.array m e) f d z][hE:aJ P e q a r ze](l:k6 s x=some (.pointer (some ⟨b,o,none⟩)))(j:k6 s y=some (.int k i))(p:0<=i)(n:i<m):
    Ev P s (.indexAddr t x y) ty w (.pointer (some ⟨b,o+i.toNat*a,none⟩)) w:=λρ d' pos af g hρ=>by
  have e1:=hρ x _ l
  have e2:=hρ y _ j
  have ha:(Addr.add ⟨b,o,none⟩ (i.toNat*a))=⟨b,o+i.toNat*a,none⟩:=by
    unfold Addr.add;split
    · rename_i h;rw[h];rfl
    · rfl
  simp[execOp,e1,e2,Instr.indexAt,Instr.sureAddr,asIntOf,hT.underlying,p,n,hE.sizeOf,ha]
def cutAt(a:Option Addr)(l m es:Nat):Option Addr:=if m=l then a else a.map (·.add (l*es))
theorem Ev.sliceL{t:TypeId}{a:Option Addr}{m c e:Nat}{d o:Nat}{k:IntKind}{lo:Int}{n:TypeDesc}{ze:Value}{f b:Nat}{z:Value}{p:Operand}[hT:aJ P t (.slice e) f b z][hE:aJ P e n d o ze]
    (h:k6 s x=some (.slice a m c)) (i:k6 s p=some (.int k lo)) (l:0<=lo) (j:lo<=m) :
    Ev P s (.slice t x (some p) none none) ty w (.slice (cutAt a lo.toNat c d) (m-lo.toNat) (c-lo.toNat)) w:=λρ d' pos af g hρ=>by
  have e1:=hρ x _ h
  have e2:=hρ p _ i
  simp[execOp,e1,e2,Instr.sliceAt,Instr.slice,hT.underlying,Instr.sliceBounds,Instr.sliceBound,asIntOf,l,j,hE.sizeOf,cutAt]
theorem Ev.sliceH{t:TypeId}{a:Option Addr}{m c e:Nat}{n p:Nat}{h:IntKind}{b:Int}{o:TypeDesc}{ze:Value}{f d:Nat}{z:Value}{q:Operand}[hT:aJ P t (.slice e) f d z][hE:aJ P e o n p ze]
    (i:k6 s x=some (.slice a m c)) (j:k6 s q=some (.int h b)) (l:0<=b) (k:b<=c) :
    Ev P s (.slice t x none (some q) none) ty w (.slice a b.toNat c) w:=λρ d' pos af g hρ=>by
  have e1:=hρ x _ i
  have e3:=hρ q _ j
  simp[execOp,e1,e3,Instr.sliceAt,Instr.slice,hT.underlying,Instr.sliceBounds,Instr.sliceBound,asIntOf,l,k,hE.sizeOf]
  intro _;cases a<;>simp[Addr.add]
theorem WL.make{t:TypeId}{e o A:Nat}{q r:IntKind}{l c:Int}{Q:TypeDesc}{ze:Value}{B p:Nat}{z:Value}[hT:aJ P t (.slice e) B p z][hE:aJ P e Q o A ze](F:k6 s x=some (.int q l))(C:k6 s y=some (.int r c))
    (J:0<=l) (a:l<=c) (I:(A:Int)*c<=281474976710656) (m:c<=9223372036854775807) (H:Nat.blt d n=true)
    (k : ∀ b w',New w b (.cells (madeCells ze.cells (c.toNat*o)) e) w'->WL P ops K rest n D ((d,.slice (some ⟨b,0,none⟩) l.toNat c.toNat)::s) w'):WL P ops K (⟨some d,.makeSlice t x y,ty,pos,af,none⟩::rest) n D s w:=by
  obtain ⟨i,G,j,h,f⟩:=hE.inf
  refine WL.ev (v:=.slice (some ⟨w.heap.size,0,none⟩) l.toNat c.toNat) (w':=w.alloc (.cells (madeCells ze.cells (c.toNat*o)) e)) (λρ R pos af g u=>?_) H (k _ _ (atj _ _))
  have O:=u x _ F
  have M:=u y _ C
  have:=run_make (P:=P) w t e i ze hT.und G f q r l c J a (by rw[h];exact I) m
  rw[j] at this
  simp[execOp,O,M,this]
theorem own_keep{w w':World}{T:List Nat}{e i:Nat}{v:Value}{m:Nat}{xs:List Value}(h:w.ownsRow 0 e i v m xs)(k:Chg T w w')(j : ∀ b,v.ownBlock=some b->b∉T):w'.ownsRow 0 e i v m xs:=by
  obtain ⟨l,a⟩:=h
  refine ⟨l,?_⟩
  rcases a with a|⟨g,f,d,rfl,p,o,n⟩
  · exact .inl a
  · exact .inr ⟨g,f,d,rfl,p,k.heap o (j g rfl),n⟩
theorem own_form{w:World}{e b:Nat}{v:Value}{m:Nat}{xs:List Value}(h:w.ownsRow 0 e b v m xs): ∃ a cap,v = .slice a m cap:=by
  rcases h.2 with ⟨rfl,rfl⟩|⟨g,cap,d,rfl,_⟩
  · exact ⟨_,_,rfl⟩
  · exact ⟨_,_,rfl⟩
theorem dmq{w:World}{e k:Nat}{a:Option Addr}{m n cap:Nat}{xs:List Value}(h:w.ownsRow 0 e k (.slice a n cap) m xs)(l:0<xs.length): ∃ g,a=some ⟨g,0,none⟩/\∀ j x,xs[j]?=some x->w.cell? ⟨g,j,none⟩=some x:=by
  obtain ⟨i,u⟩:=h
  rcases u with ⟨_,rfl⟩|⟨g,y,v,q,_,s,_,_,t,r⟩
  · simp at i;rw[i] at l;simp at l
  · injection q with d p o
    refine ⟨g,d,λj x b=>?_⟩
    rw[cell_at' s]
    have f:j<m*k:=by
      rw[<- i]
      by_cases hlt:j<xs.length
      · exact hlt
      · rw[List.getElem?_eq_none oO] at b;cases b
    rw[<- r,List.getElem?_take,if_pos f] at b
    simpa using b
theorem own_lt{w:World}{e d:Nat}{v:Value}{m:Nat}{xs:List Value}(h:w.ownsRow 0 e d v m xs){b:Nat}(a:v.ownBlock=some b):b<w.heap.size:=by
  rcases h.2 with ⟨rfl,_⟩|⟨g,i,f,rfl,_,j,_⟩
  · cases a
  · cases a;exact a0q j
theorem WL.append{t e f G:Nat}{de:TypeDesc}{ze:Value}{J F:Nat}{z:Value}{v:Value}{m:Nat}{xs:List Value}{H:Addr}{mm c:Nat}{news:List Value}[hT:aJ P t (.slice e) J F z][hE:aJ P e de f G ze]
    (p:ze.cells.size=f) (q:0<f) (O:k6 s x=some v) (M:k6 s y=some (.slice (some H) mm c)) (h:w.ownsRow 0 e f v m xs) (U:news.length=mm*f) (b : ∀ j u,news[j]?=some u->w.cell? (H.add j)=some u) (h1 : ∀ u∈news,u.oneCell'=true)
    (C:m+mm<=maxLen) (a:(m+mm)*G<=140737488355328) (Z:Nat.blt d n=true)
    (k : ∀ v' w',w'.ownsRow 0 e f v' (m+mm) (xs++news)->Chg v.ownBlock.toList w w'->(v'.ownBlock=v.ownBlock\/v'.ownBlock=some w.heap.size)->WL P ops K rest n D ((d,v')::s) w') :
    WL P ops K (⟨some d,.call ⟨.builtin .append,[x,y].toArray,#[t,t]⟩,ty,pos,af,none⟩::rest) n D s w:=by
  obtain ⟨i,X,B,A,r⟩:=hE.inf
  obtain ⟨v',w',Q,R,o,_,l⟩:=run_append_own_at (P:=P) w 0 t ty e i ze f G hT.und X r B A p q v m xs h H mm c news U b h1 C a (Nat.zero_le _)
  refine WL.ev (v:=v') (w':=w') (λρ d' pos af g I=>?_) Z (k _ _ R ⟨o.os,o.tape,o.output,o.size,λj V T=>o.block j V λY=>T ?_⟩ l)
  · have e1:=I x _ O
    have e2:=I y _ M
    simp[execOp,resolve,invoke,builtin,e1,e2,Q]
  · rw[<- Y];simp
theorem a7x{t:TypeId}{B:TypeDesc}{d a:Nat}{z:Value}{b i:Nat}{l vs:List Value}{T:TypeId}[hT:aJ P t B d a z](j:k6 s x=some (.pointer (some ⟨b,i,none⟩)))(h:k6 s y=some (.agg vs.toArray))(m:vs.length=d)(q : ∀ v∈vs,v.oneCell'=true)
    (p:w.heap[b]?=some (.cells l.toArray T (0,0))) (o:i+vs.length<=l.length) : ∃ w',EvS P s (.store t x y) ty w w'/\Upd w b (.cells (splice l i vs).toArray T (0,0)) w':=by
  obtain ⟨w',n,k⟩:=byj (P:=P) b T vs l i 0 w q p (by simpa using o)
  refine ⟨w',λρ C f D g e=>?_,by simpa using k⟩
  have A:=e x _ j
  have u:=e y _ h
  have r:(Value.agg vs.toArray).cells=vs.toArray:=rfl
  simp[execOp,A,u,Instr.storeAt,Instr.sureAddr,storeVar,hT.sizeOf,r,m,n]
theorem bnq{w:World}{e k:Nat}{v:Value}{m:Nat}{xs:List Value}(h:w.ownsRow 0 e k v m xs):(v = .slice none 0 0/\m=0/\xs=[])\/∃ g cap,v = .slice (some ⟨g,0,none⟩) m cap/\m<=cap/\g<w.heap.size/\∀ j x,xs[j]?=some x->w.cell? ⟨g,j,none⟩=some x:=by
  have u:=@dmq w e k
  obtain ⟨q,p⟩:=h
  rcases p with ⟨rfl,rfl⟩|⟨g,i,f,rfl,t,n,l,s,r⟩
  · exact .inl ⟨rfl,rfl,List.length_eq_zero_iff.1 oO⟩
  · refine .inr ⟨g,i,rfl,l,a0q n,λj x d=>?_⟩
    by_cases hp:0<xs.length
    · obtain ⟨y,b,o⟩:=dmq (a:=some ⟨g,0,none⟩) (cap:=i) ⟨q,.inr ⟨g,i,f,rfl,t,n,l,s,r⟩⟩ hp
      injection b with b;injection b with b;subst b
      exact o j x d
    · rw[List.getElem?_eq_none oO] at d;cases d
theorem ev_append{t e d B:Nat}{Z:TypeDesc}{ze:Value}{F A:Nat}{z:Value}{v:Value}{m:Nat}{xs:List Value}{C:Addr}{mm c:Nat}{news:List Value}[hT:aJ P t (.slice e) F A z][hE:aJ P e Z d B ze]
    (l:ze.cells.size=d) (n:0<d) (I:k6 s x=some v) (H:k6 s y=some (.slice (some C) mm c)) (f:w.ownsRow 0 e d v m xs) (Q:news.length=mm*d) (b : ∀ j u,news[j]?=some u->w.cell? (C.add j)=some u) (V : ∀ u∈news,u.oneCell'=true)
    (r:m+mm<=maxLen) (a:(m+mm)*B<=140737488355328) :
    ∃ v' w',Ev P s (.call ⟨.builtin .append,[x,y].toArray,#[t,t]⟩) ty w v' w'/\w'.ownsRow 0 e d v' (m+mm) (xs++news)/\Chg v.ownBlock.toList w w'/\(v'.ownBlock=v.ownBlock\/v'.ownBlock=some w.heap.size):=by
  obtain ⟨i,T,q,p,o⟩:=hE.inf
  obtain ⟨v',w',J,M,k,_,h⟩:=run_append_own_at (P:=P) w 0 t ty e i ze d B hT.und T o q p l n v m xs f C mm c news Q b V r a (Nat.zero_le _)
  refine ⟨v',w',λρ d' G af g D=>?_,M,⟨k.os,k.tape,k.output,k.size,λj R O=>k.block j R λU=>O ?_⟩,h⟩
  · have Y:=D x _ I
    have X:=D y _ H
    simp[execOp,resolve,invoke,builtin,Y,X,J]
  · rw[<- U];simp
theorem aoj{t e:TypeId}{o:TypeDesc}{j f a p:Nat}{z ze:Value}{d:List (Nat×Operand)}{vs:List (Nat×Value)}{cs:List Value}{m:Nat}[hT:aJ P t (.slice e) j f z][hE:aJ P e o a p ze]
    (q:m*a<=2^24) (l:0<m*a) (k:boj s d=some vs) (n:Instr.fill (λi=>some (i*a,a)) ((Array.range (m*a)).map (ze.cells[· % ze.cells.size]!)) vs=some cs.toArray) :
    ∃ b w',Ev P s (.buildSlice t m d.toArray) ty w (.slice (some ⟨b,0,none⟩) m m) w'/\New w b (.cells cs.toArray e) w':=
  ⟨w.heap.size,w.alloc (.cells cs.toArray e),λρ d' pos af g hρ=>by
    have h1:=boq hρ d vs k
    have h3 : ¬(16777216<m*a):=by have:(2:Nat)^24=16777216:=rfl;omega
    have h4 : ¬(m*a=0):=by omega
    have h5 : ¬(m=0\/a=0):=by
      intro h;rcases h with h|h<;>simp[h] at l
    simp[execOp,Instr.buildSlice,hT.underlying,hE.sizeOf,hE.zero,h1,h3,h5,n,newRow]
    intro h;exact absurd h h4,atj _ _⟩
theorem Ev.drj{t:TypeId}{d:Addr}{m c e:Nat}{b p:Nat}{k:IntKind}{i:Int}{o:TypeDesc}{ze:Value}{f a:Nat}{z:Value}[hT:aJ P t (.slice e) f a z][hE:aJ P e o b p ze](j:k6 s x=some (.slice (some d) m c))(h:k6 s y=some (.int k i))(n:0<=i)(l:i<m):
    Ev P s (.indexAddr t x y) ty w (.pointer (some (d.add (i.toNat*b)))) w:=λρ d' pos af g hρ=>by
  have e1:=hρ x _ j
  have e2:=hρ y _ h
  simp[execOp,e1,e2,Instr.indexAt,asIntOf,hT.underlying,n,l,hE.sizeOf]
theorem Ev.bdx{t t':TypeId}{f e:Nat}{z:Value}{a b:Bool}[hT:aJ P t .bool f e z](h:k6 s x=some (.bool a))(g:k6 s y=some (.bool b)):Ev P s (.binOp .eql t x y t') ty w (.bool (a==b)) w:=
  pQ h g (λ_ _=>cnj _ _ _ _ _ _) (by
    have:=ckx (P:=P) (w:=w) (t:=t) (u:=.bool a) (v:=.bool b) (r:=a==b) λd=>by simp[Op.equalIn,hT.underlying]
    simp only[binOp]
    simp[this])
theorem eax{t:TypeId}{k:TypeDesc}{d:Nat}{z:Value}{b i:Nat}{l:List Value}{T:TypeId}{v:Value}[hT:aJ P t k 1 d z](h:k6 s x=some (.pointer (some ⟨b,i,none⟩)))(f:k6 s y=some v)(e:v.oneCell'=true)
    (a:w.heap[b]?=some (.cells l.toArray T (0,0))) (j:i<l.length):EvS P s (.store t x y) ty w (w.setCell ⟨b,i,none⟩ v)/\Upd w b (.cells (l.set i v).toArray T (0,0)) (w.setCell ⟨b,i,none⟩ v):=
  ⟨λρ d' pos af g hρ=>by
    have e1:=hρ x _ h
    have e2:=hρ y _ f
    have e3:v.cells = #[v]:=by cases v<;>first|rfl|cases e
    have e4:w.cell? ⟨b,i,none⟩=some l[i]:=by rw[a7j a];simp[j]
    have e5:w.frozen? ⟨b,i,none⟩=false:=b7j a
    simp[execOp,e1,e2,Instr.storeAt,Instr.sureAddr,storeVar,hT.sizeOf,e3,storeCells,Addr.add,run_store _ _ _ _ _ e,e4,e5],bex w b i l T v a⟩
end
end Sx
namespace Sx
open Go
def postS(n:Nat)(K:List Deferred->Sl->Prop):Act->Prop:=λa=>∃ D s,Fr n D s a/\K D s
def WS(P:Program)(ops:Array Oper)(K:List Deferred->Sl->Prop)(l:List Oper)(n:Nat)(D:List Deferred)(s:Sl)(w:World):Prop:=∀ a,Fr n D s a->wpStill P ops w (postS n K) l a
section
variable {P:Program} {A:AQ} {n:Nat} {D:List Deferred} {s:Sl} {w:World} {ops:Array Oper} {K:List Deferred->Sl->Prop} {rest:List Oper}
variable {op:Op} {ty:TypeId} {pos:String} {af:Array Edge} {dst:Option Tmp} {d j:Nat} {b:Bool} {v:Value}
theorem WS.nil(h:K D s):WS P ops K [] n D s w:=λa ha=>wpStill_nil ⟨D,s,ha,h⟩
theorem dbj{o:Oper}{a:Act}{Q:Act->Prop}(b:Region.wanted o (yielded ops a.tmps)=true)(h : ∀ K':Act->Prop,(∀ a,wpStill P ops w Q rest a->K' a)->o.still P a w K'):wpStill P ops w Q (o::rest) a:=
  wpStill_step λK' hK=>by rw[if_pos b];exact h K' hK
theorem WS.ev(b:Ev P s op ty w v w)(e:Nat.blt d n=true)(k:WS P ops K rest n D ((d,v)::s) w):WS P ops K (⟨some d,op,ty,pos,af,none⟩::rest) n D s w:=λa ha=>
  dbj (by simp[Region.wanted]) λK' hK=>by
    unfold Oper.still
    rw[b a.eval (some d) pos af none λx u hx=>ha.eval hx,Oper.stillUpon_value]
    exact hK _ (k _ (ha.put e v))
theorem WS.call{f:FuncId}{xs:List Operand}{at_:Array TypeId}{vs:List Value}(hF:aQ P f)(b:bcx s xs=some vs)(g:Nat.blt d n=true)(h:Ret P f vs w λu w'=>u=v/\w=w')
    (k:WS P ops K rest n D ((d,v)::s) w):WS P ops K (⟨some d,.call ⟨.value (.func f),xs.toArray,at_⟩,ty,pos,af,none⟩::rest) n D s w:=λa ha=>
  dbj (by simp[Region.wanted]) λK' hK=>by
    unfold Oper.still
    rw[a9x hF rfl b λx u b=>ha.eval b]
    exact ⟨rfl,v,Calls.mono h λe w' ⟨u,he,hu,hw⟩=>⟨by rw[he,hu],hw.symm⟩,hK _ (k _ (ha.put g v))⟩
theorem WS.want{g:Oper}{x:Bool}{t:Nat}(f:ops[j]?=some g)(e:g.dst=some t)(d:look s t=some (.bool x))(i:(x==b)=true)(k:WS P ops K (⟨dst,op,ty,pos,af,none⟩::rest) n D s w):
    WS P ops K (⟨dst,op,ty,pos,af,some (j,b)⟩::rest) n D s w:=λa ha=>by
  have h:=k a ha
  unfold wpStill at h ⊢
  rw[if_pos (by rw[arj ha f e d];exact i)]
  rw[if_pos (by simp[Region.wanted])] at h
  exact h
theorem WS.pass{g:Oper}{x:Bool}{t:Nat}(h:ops[j]?=some g)(f:g.dst=some t)(e:look s t=some (.bool x))(l:(x==b)=false)(i:Nat.blt d n=true)(k:WS P ops K rest n D ((d,undef)::s) w):
    WS P ops K (⟨some d,op,ty,pos,af,some (j,b)⟩::rest) n D s w:=λa ha=>by
  unfold wpStill
  rw[if_neg (by rw[arj ha h f e,l];simp)]
  exact k _ (ha.put i undef)
theorem WS.passU{g:Oper}{t:Nat}(h:ops[j]?=some g)(f:g.dst=some t)(e:look s t=some undef)(i:Nat.blt d n=true)(k:WS P ops K rest n D ((d,undef)::s) w):
    WS P ops K (⟨some d,op,ty,pos,af,some (j,b)⟩::rest) n D s w:=λa ha=>by
  unfold wpStill
  rw[if_neg (by rw[yieldedU ha h f e];simp)]
  exact k _ (ha.put i undef)
theorem still_mono{Q b:Act->Prop}(h : ∀ a,Q a->b a): ∀ (l:List Oper) (a:Act),wpStill P ops w Q l a->wpStill P ops w b l a
  | [],a,hh=>h a hh
  | o::r,a,hh=>by
    unfold wpStill at hh ⊢
    split
    · rename_i hw;rw[if_pos hw] at hh;exact Oper.still_mono (still_mono h r) hh
    · rename_i hw;rw[if_neg hw] at hh;exact still_mono h r _ hh
theorem CW.regionS{b:Nat}{l:List Oper}(d:P.follows .mixedOrders=true)(e:Region.lexB .any l.toArray=true)
    (h : ∀ K:List Deferred->Sl->Prop,(∀ D s,A .normal D s w.drew->K D s)->WS P l.toArray K l n D s w.drew):CW P (.region b l.toArray true) A n D s w:=λa ha=>
  wp_region_still_lit d e (still_mono (λa ⟨D,s,hf,hk⟩=>⟨D,s,hf,hk⟩) l a (h (λD s=>A .normal D s w.drew) (λ_ _ h=>h) a ha))
end
def WH(P:Program)(ops:Array Oper)(K:KK)(S:World->Prop)(fuel:Nat)(listed:Array Bool)(n:Nat)(D:List Deferred)(s:Sl)(w:World):Prop:=∀ a,Fr n D s a->wpAnyH P .any ops (post n K) S fuel listed a w
section
variable {P:Program} {A:AQ} {n:Nat} {D:List Deferred} {s:Sl} {w:World} {ops:Array Oper} {K:KK} {S:World->Prop} {fuel:Nat} {listed:Array Bool}
variable {op:Op} {ty:TypeId} {pos:String} {af:Array Edge} {d:Nat} {v:Value}
theorem CW.regionH{b:Nat}{l:List Oper}(S:World->Prop)(m:Nat)(d:l.length=m)(e:P.follows .mixedOrders=true)
    (h : ∀ R:KK,(∀ D s w,A .normal D s w->R D s w)->WH P l.toArray R S m (Array.replicate m false) n D s w.drew):CW P (.region b l.toArray true) A n D s w:=λa ha=>by
  refine wp_mono (wp_region_held (S:=S) e ?_) (ctj (K:=λD s w=>A .normal D s w) λ_ _ _ h=>h)
  have:=h (λD s w=>A .normal D s w) (λ_ _ _ h=>h) a ha
  subst d
  simpa using this
theorem WH.take(i:Nat)(f:ops[i]?=some ⟨some d,op,ty,pos,af,none⟩)(b:Region.noSelect ops=true)(g:Region.free .any ops listed i=true)(e:(Region.ready .any ops listed).contains i=true)
    (m:S w) (j : ∀ w,S w->Ev P s op ty w v w) (l:Nat.blt d n=true) (k:WH P ops K S fuel (listed.setIfInBounds i true) n D ((d,v)::s) w):WH P ops K S (fuel+1) listed n D s w:=λa ha=>
  wpAnyH_take f b g e (λc a w h=>h.elim) (.inl ⟨by simp[Region.wanted],λw' hw'=>j w' hw' a.eval (some d) pos af none λx u hx=>ha.eval hx⟩) m (k _ (ha.put l v))
theorem WH.one(i:Nat){w':World}(e:ops[i]?=some ⟨some d,op,ty,pos,af,none⟩)(b:Region.ready .any ops listed=[i])(f:Ev P s op ty w v w')(h:S w')(g:Nat.blt d n=true)
    (k:WH P ops K S fuel (listed.setIfInBounds i true) n D ((d,v)::s) w'):WH P ops K S (fuel+1) listed n D s w:=λa ha=>
  wpAnyH_all b oS λj hj=>by
    obtain rfl:j=i:=by simpa using hj
    unfold wpOp
    simp only[e]
    rw[if_pos (by simp[Region.wanted])]
    refine .inl ?_
    unfold Oper.wp
    rw[f a.eval (some d) pos af none λx u hx=>ha.eval hx]
    exact ⟨h,k _ (ha.put g v)⟩
theorem WH.oneS(i:Nat){w':World}(d:ops[i]?=some ⟨none,op,ty,pos,af,none⟩)(b:Region.ready .any ops listed=[i])(e:EvS P s op ty w w')(f:S w')
    (k:WH P ops K S fuel (listed.setIfInBounds i true) n D s w'):WH P ops K S (fuel+1) listed n D s w:=λa ha=>
  wpAnyH_all b oS λj hj=>by
    obtain rfl:j=i:=by simpa using hj
    unfold wpOp
    simp only[d]
    rw[if_pos (by simp[Region.wanted])]
    refine .inl ?_
    unfold Oper.wp
    rw[e a.eval none pos af none λx u hx=>ha.eval hx]
    exact ⟨f,k _ ha⟩
theorem WH.k7(i:Nat){f:FuncId}{xs:List Operand}{at_:Array TypeId}{vs:List Value}{R:Value->World->Prop}(l:ops[i]?=some ⟨some d,.call ⟨.value (.func f),xs.toArray,at_⟩,ty,pos,af,none⟩)(g:Region.ready .any ops listed=[i])(hF:aQ P f)(b:bcx s xs=some vs)(m:Nat.blt d n=true)(h:Ret P f vs w R)
    (k : ∀ v w',R v w'->S w'/\WH P ops K S fuel (listed.setIfInBounds i true) n D ((d,v)::s) w'):WH P ops K S (fuel+1) listed n D s w:=λa ha=>
  wpAnyH_all g oS λj hj=>by
    obtain rfl:j=i:=by simpa using hj
    unfold wpOp
    simp only[l]
    rw[if_pos (by simp[Region.wanted])]
    refine .inl ?_
    unfold Oper.wp
    rw[a9x hF rfl b λx u b=>ha.eval b]
    exact Calls.mono h λe w' ⟨v,he,hR⟩=>by subst he;exact ⟨(k v w' hR).1,(k v w' hR).2 _ (ha.put m v)⟩
theorem WH.buildSlice(i:Nat){t e:TypeId}{y:TypeDesc}{j f a A:Nat}{z ze:Value}{g:List (Nat×Operand)}{vs:List (Nat×Value)}{cs:List Value}{m:Nat}[hT:aJ P t (.slice e) j f z][hE:aJ P e y a A ze]
    (r:ops[i]?=some ⟨some d,.buildSlice t m g.toArray,ty,pos,af,none⟩) (o:Region.ready .any ops listed=[i])
    (q:m*a<=2^24) (p:0<m*a) (l:boj s g=some vs) (u:Instr.fill (λi=>some (i*a,a)) ((Array.range (m*a)).map (ze.cells[· % ze.cells.size]!)) vs=some cs.toArray) (x:Nat.blt d n=true)
    (k : ∀ b w',New w b (.cells cs.toArray e) w'->S w'/\WH P ops K S fuel (listed.setIfInBounds i true) n D ((d,.slice (some ⟨b,0,none⟩) m m)::s) w'):WH P ops K S (fuel+1) listed n D s w:=by
  obtain ⟨b,w',v,h⟩:=aoj (P:=P) (ty:=ty) (w:=w) (t:=t) (hT:=hT) (hE:=hE) q p l u
  exact WH.one i r o v (k b w' h).1 x (k b w' h).2
theorem WH.takeG(i:Nat){j:Nat}{b:Bool}{g:Oper}{x:Bool}{t:Nat}(o:ops[i]?=some ⟨some d,op,ty,pos,af,some (j,b)⟩)(l:Region.noSelect ops=true)(q:Region.free .any ops listed i=true)(m:(Region.ready .any ops listed).contains i=true)
    (p:ops[j]?=some g) (f:g.dst=some t) (e:look s t=some (.bool x)) (z:(x==b)=true)
    (A:S w) (r : ∀ w,S w->Ev P s op ty w v w) (y:Nat.blt d n=true) (k:WH P ops K S fuel (listed.setIfInBounds i true) n D ((d,v)::s) w):WH P ops K S (fuel+1) listed n D s w:=λa ha=>
  wpAnyH_take o l q m (λc a w h=>h.elim) (.inl ⟨by rw[arj ha p f e];exact z,λw' hw'=>r w' hw' a.eval (some d) pos af _ λx u e=>ha.eval e⟩) A (k _ (ha.put y v))
theorem WH.rX(i:Nat){j:Nat}{b:Bool}{g:Oper}{x:Bool}{t:Nat}{f:FuncId}{xs:List Operand}{at_:Array TypeId}{vs:List Value}{R:Value->World->Prop}(q:ops[i]?=some ⟨some d,.call ⟨.value (.func f),xs.toArray,at_⟩,ty,pos,af,some (j,b)⟩)(p:Region.ready .any ops listed=[i])
    (r:ops[j]?=some g) (o:g.dst=some t) (l:look s t=some (.bool x)) (z:(x==b)=true) (hF:aQ P f) (m:bcx s xs=some vs) (y:Nat.blt d n=true) (h:Ret P f vs w R)
    (k : ∀ v w',R v w'->S w'/\WH P ops K S fuel (listed.setIfInBounds i true) n D ((d,v)::s) w'):WH P ops K S (fuel+1) listed n D s w:=λa ha=>
  wpAnyH_all p oS λj' hj=>by
    obtain rfl:j'=i:=by simpa using hj
    unfold wpOp
    simp only[q]
    rw[if_pos (by rw[arj ha r o l];exact z)]
    refine .inl ?_
    unfold Oper.wp
    rw[a9x hF rfl m λx u m=>ha.eval m]
    exact Calls.mono h λe w' ⟨v,he,hR⟩=>by subst he;exact ⟨(k v w' hR).1,(k v w' hR).2 _ (ha.put y v)⟩
theorem WH.done(b:Region.ready .any ops listed=[])(h:K D s w):WH P ops K S fuel listed n D s w:=λa ha=>wpAnyH_done b ⟨D,s,ha,h⟩ fuel
end
end Sx
namespace Sx
open Go
section
variable {P:Program} {n:Nat} {D:List Deferred} {s:Sl} {w:World} {ops:Array Oper} {K:KK} {rest:List Oper} {ty:TypeId} {pos:String} {af:Array Edge} {d:Nat} {x y:Operand}
end
end Sx
namespace Sx
open Go
def anyK(P:Program)(ops:Array Oper)(Q:Exit->Act->World->Prop)(S:World->Prop)(z:Nat):Nat->Array Bool->Act->World->Prop
  | 0,listed,a,w=>Region.ready .any ops listed=[]/\Q .normal a w
  | fuel+1,listed,a,w=>(Region.ready .any ops listed=[]->Q .normal a w)/\
    ∀ i∈Region.ready .any ops listed,wpOp P ops Q i (λa' w'=>((listed.setIfInBounds i true).getD z false=false->S w')/\anyK P ops Q S z fuel (listed.setIfInBounds i true) a' w') a w
section
variable {P:Program} {ops:Array Oper} {Q:Exit->Act->World->Prop} {S:World->Prop} {z:Nat}
theorem any_of_K : ∀ (fuel:Nat) (listed:Array Bool) (a:Act) (w:World),anyK P ops Q S z fuel listed a w->wpAny P .any ops Q fuel listed a w
  | 0,_,_,_,h=>h
  | fuel+1,_,_,_,h=>⟨h.1,λi hi=>wpOp_mono (λa' w' k=>any_of_K fuel _ a' w' k.2) (h.2 i hi)⟩
theorem anyK_first{i:Nat}{s:Oper}{v:Value}(U:ops[i]?=some s)(m:Region.noSelect ops=true)(hQ : ∀ c a w,Q (.panic c) (a.put s.dst v) w->Q (.panic c) a w)(hz:Region.waitsFor .any ops z i=true)(J:z≠i):
    ∀ (fuel:Nat) (listed:Array Bool) (a:Act) (w:World),(∀ j oj,ops[j]?=some oj->j≠i->listed.getD j true=false->(∀ e∈oj.after,Region.binds .any e=true->e.on≠i)->s.apart ops oj=true)->
      i∈Region.ready .any ops listed->listed.getD z false=false->YieldsIf P ops S s v a->S w->anyK P ops Q S z fuel (listed.setIfInBounds i true) (a.put s.dst v) w->anyK P ops Q S z (fuel+1) listed a w:=by
  obtain ⟨oz,M,ez,V,B,A⟩:=Region.waitsFor_spec hz
  have I : ∀ (listed:Array Bool) j,i∈Region.ready .any ops listed->j∈Region.ready .any ops listed->j≠z:=λlisted j l r e=>by
    subst e
    obtain ⟨_,o,Z,g⟩:=mem_ready.1 r
    rw[M] at Z;cases Z
    have d:=g ez V B
    rw[A] at d
    have D:=(mem_ready.1 l).1
    rcases Nat.lt_or_ge i listed.size with q|q
    · simp[q] at D d;rw[D] at d;cases d
    · simp[Array.getElem?_eq_none q] at d
  intro fuel
  induction fuel with
  | zero=>
    intro listed a w _ l R F C H
    refine ⟨λh=>(by rw[h] at l;cases l),λj r=>?_⟩
    by_cases e:j=i
    · subst e;exact F.wpOp U C ⟨λ_=>C,H⟩
    · have:=ready_mono r e
      rw[H.1] at this;cases this
  | succ fuel ih=>
    intro listed a w f l R F C H
    refine ⟨λh=>(by rw[h] at l;cases l),λj r=>?_⟩
    by_cases e:j=i
    · subst e;exact F.wpOp U C ⟨λ_=>C,H⟩
    · have d:=H.2 j (ready_mono r e)
      have y:=I listed j l r
      obtain ⟨n,oj,p,g⟩:=mem_ready.1 r
      have x : ∀ e∈oj.after,Region.binds .any e=true->e.on≠i:=λe he hb X=>by
        have d:=g e he hb
        have D:=(mem_ready.1 l).1
        rw[X] at d
        rcases Nat.lt_or_ge i listed.size with q|q
        · simp[q] at D d;rw[D] at d;cases d
        · simp[Array.getElem?_eq_none q] at d
      have h2:=wpOp_putIf p (f j oj p e n x) (λY b=>Region.noSelect_spec m i s Y b U) (λY b=>Region.noSelect_spec m j oj Y b p) hQ F d
      have lz:(listed.setIfInBounds j true).getD z false=false:=by rw[getD_set_ne false y];exact R
      have t:((listed.setIfInBounds i true).setIfInBounds j true).getD z false=false:=by rw[getD_set_ne false y,getD_set_ne false (Ne.symm J)];exact R
      refine wpOp_mono (λa' w' G=>⟨λ_=>G.2.1 t,ih (listed.setIfInBounds j true) a' w' (λk ok hk T u O=>f k ok hk T ?_ O) (ready_mono l (Ne.symm e)) lz G.1 (G.2.1 t) ?_⟩) h2
      · by_cases hjk:j=k
        · subst hjk;exact n
        · rw[getD_set_ne true hjk] at u;exact u
      · rw[Array.setIfInBounds_comm _ _ e]
        exact G.2.2
end
def WK(P:Program)(ops:Array Oper)(K:KK)(S:World->Prop)(z:Nat)(fuel:Nat)(listed:Array Bool)(n:Nat)(D:List Deferred)(s:Sl)(w:World):Prop:=∀ a,Fr n D s a->anyK P ops (post n K) S z fuel listed a w
section
variable {P:Program} {A:AQ} {n:Nat} {D:List Deferred} {s:Sl} {w:World} {ops:Array Oper} {K:KK} {S:World->Prop} {z:Nat} {fuel:Nat} {listed:Array Bool}
variable {op:Op} {ty:TypeId} {pos:String} {af:Array Edge} {d:Nat} {v:Value}
theorem CW.regionK{b:Nat}{l:List Oper}(S:World->Prop)(z m:Nat)(d:l.length=m)(e:P.follows .mixedOrders=true)
    (h : ∀ R:KK,(∀ D s w,A .normal D s w->R D s w)->WK P l.toArray R S z m (Array.replicate m false) n D s w.drew):CW P (.region b l.toArray true) A n D s w:=λa ha=>by
  refine wp_mono (wp_region_any e (any_of_K _ _ _ _ (S:=S) (z:=z) ?_)) (ctj (K:=λD s w=>A .normal D s w) λ_ _ _ h=>h)
  have:=h (λD s w=>A .normal D s w) (λ_ _ _ h=>h) a ha
  subst d
  simpa using this
theorem WK.take(i:Nat)(g:ops[i]?=some ⟨some d,op,ty,pos,af,none⟩)(l:Region.noSelect ops=true)(o:Region.free .any ops listed i=true)(m:(Region.ready .any ops listed).contains i=true)(j:Region.waitsFor .any ops z i=true)(b:Nat.beq z i=false)(f:listed.getD z false=false)
    (r:S w) (p : ∀ w,S w->Ev P s op ty w v w) (q:Nat.blt d n=true) (k:WK P ops K S z fuel (listed.setIfInBounds i true) n D ((d,v)::s) w):WK P ops K S z (fuel+1) listed n D s w:=λa ha=>
  anyK_first g l (λc a w h=>h.elim) j (λe=>by rw[e] at b;simp at b) fuel listed a w (Region.free_spec g o) (by simpa using m) f (.inl ⟨by simp[Region.wanted],λw' hw'=>p w' hw' a.eval (some d) pos af none λx u hx=>ha.eval hx⟩) r (k _ (ha.put q v))
theorem WK.one(i:Nat){w':World}(e:ops[i]?=some ⟨some d,op,ty,pos,af,none⟩)(b:Region.ready .any ops listed=[i])(f:Ev P s op ty w v w')(l:(listed.setIfInBounds i true).getD z false=false->S w')(g:Nat.blt d n=true)
    (k:WK P ops K S z fuel (listed.setIfInBounds i true) n D ((d,v)::s) w'):WK P ops K S z (fuel+1) listed n D s w:=λa ha=>by
  refine ⟨λh=>(by rw[b] at h;cases h),λj hj=>?_⟩
  rw[b] at hj
  obtain rfl:j=i:=by simpa using hj
  unfold wpOp
  simp only[e]
  rw[if_pos (by simp[Region.wanted])]
  refine .inl ?_
  unfold Oper.wp
  rw[f a.eval (some d) pos af none λx u hx=>ha.eval hx]
  exact ⟨l,k _ (ha.put g v)⟩
theorem WK.oneS(i:Nat){w':World}(d:ops[i]?=some ⟨none,op,ty,pos,af,none⟩)(b:Region.ready .any ops listed=[i])(e:EvS P s op ty w w')(f:(listed.setIfInBounds i true).getD z false=false->S w')
    (k:WK P ops K S z fuel (listed.setIfInBounds i true) n D s w'):WK P ops K S z (fuel+1) listed n D s w:=λa ha=>by
  refine ⟨λh=>(by rw[b] at h;cases h),λj hj=>?_⟩
  rw[b] at hj
  obtain rfl:j=i:=by simpa using hj
  unfold wpOp
  simp only[d]
  rw[if_pos (by simp[Region.wanted])]
  refine .inl ?_
  unfold Oper.wp
  rw[e a.eval none pos af none λx u hx=>ha.eval hx]
  exact ⟨f,k _ ha⟩
theorem WK.k7(i:Nat){f:FuncId}{xs:List Operand}{at_:Array TypeId}{vs:List Value}{R:Value->World->Prop}(l:ops[i]?=some ⟨some d,.call ⟨.value (.func f),xs.toArray,at_⟩,ty,pos,af,none⟩)(g:Region.ready .any ops listed=[i])(hF:aQ P f)(b:bcx s xs=some vs)(m:Nat.blt d n=true)(h:Ret P f vs w R)
    (k : ∀ v w',R v w'->S w'/\WK P ops K S z fuel (listed.setIfInBounds i true) n D ((d,v)::s) w'):WK P ops K S z (fuel+1) listed n D s w:=λa ha=>by
  refine ⟨λh=>(by rw[g] at h;cases h),λj hj=>?_⟩
  rw[g] at hj
  obtain rfl:j=i:=by simpa using hj
  unfold wpOp
  simp only[l]
  rw[if_pos (by simp[Region.wanted])]
  refine .inl ?_
  unfold Oper.wp
  rw[a9x hF rfl b λx u b=>ha.eval b]
  exact Calls.mono h λe w' ⟨v,he,hR⟩=>by subst he;exact ⟨λ_=>(k v w' hR).1,(k v w' hR).2 _ (ha.put m v)⟩
theorem WK.buildSlice(i:Nat){t e:TypeId}{A:TypeDesc}{l f a B:Nat}{j ze:Value}{g:List (Nat×Operand)}{vs:List (Nat×Value)}{cs:List Value}{m:Nat}[hT:aJ P t (.slice e) l f j][hE:aJ P e A a B ze]
    (u:ops[i]?=some ⟨some d,.buildSlice t m g.toArray,ty,pos,af,none⟩) (p:Region.ready .any ops listed=[i])
    (r:m*a<=2^24) (q:0<m*a) (o:boj s g=some vs) (v:Instr.fill (λi=>some (i*a,a)) ((Array.range (m*a)).map (ze.cells[· % ze.cells.size]!)) vs=some cs.toArray) (y:Nat.blt d n=true)
    (k : ∀ b w',New w b (.cells cs.toArray e) w'->S w'/\WK P ops K S z fuel (listed.setIfInBounds i true) n D ((d,.slice (some ⟨b,0,none⟩) m m)::s) w'):WK P ops K S z (fuel+1) listed n D s w:=by
  obtain ⟨b,w',x,h⟩:=aoj (P:=P) (ty:=ty) (w:=w) (t:=t) (hT:=hT) (hE:=hE) r q o v
  exact WK.one i u p x (λ_=>(k b w' h).1) y (k b w' h).2
theorem WK.d4q(i:Nat){t:TypeId}{A:TypeDesc}{d:Nat}{f:Value}{b o:Nat}{l:List Value}{T:TypeId}{u:Value}{x y:Operand}[hT:aJ P t A 1 d f](q:ops[i]?=some ⟨none,.store t x y,ty,pos,af,none⟩)(m:Region.ready .any ops listed=[i])(a:(listed.setIfInBounds i true).getD z false=true)
    (j:k6 s x=some (.pointer (some ⟨b,o,none⟩))) (g:k6 s y=some u) (v:u.oneCell'=true)
    (r:w.heap[b]?=some (.cells l.toArray T (0,0))) (p:o<l.length) (k : ∀ w',Upd w b (.cells (l.set o u).toArray T (0,0)) w'->WK P ops K S z fuel (listed.setIfInBounds i true) n D s w'):WK P ops K S z (fuel+1) listed n D s w:=
  have h:=eax (P:=P) (ty:=ty) (t:=t) (hT:=hT) j g v r p
  WK.oneS i q m h.1 (λe=>by rw[a] at e;cases e) (k _ h.2)
theorem WK.done(b:Region.ready .any ops listed=[])(h:K D s w):WK P ops K S z fuel listed n D s w:=λa ha=>by
  cases fuel with
  | zero=>exact ⟨b,D,s,ha,h⟩
  | succ f=>exact ⟨λ_=>⟨D,s,ha,h⟩,λj hj=>by rw[b] at hj;cases hj⟩
end
end Sx
namespace Sx
open Go
theorem tX{i:Int}(h : -9223372036854775808<=i/\i<=9223372036854775807):IntKind.i64.min<=i/\i<=IntKind.i64.max:=by simp only[IntKind.min,IntKind.max,IntKind.signed,IntKind.bits];simp;omega
theorem jX{i:Int}(h:0<=i/\i<=18446744073709551615):IntKind.u64.min<=i/\i<=IntKind.u64.max:=by simp only[IntKind.min,IntKind.max,IntKind.signed,IntKind.bits];simp;omega
theorem in_u32{i:Int}(h:0<=i/\i<=4294967295):IntKind.u32.min<=i/\i<=IntKind.u32.max:=by simp only[IntKind.min,IntKind.max,IntKind.signed,IntKind.bits];simp;omega
theorem wrap_u64(n:Nat):IntKind.u64.wrap (n:Int)=((n%18446744073709551616:Nat):Int):=by
  simp[IntKind.wrap,IntKind.signed,IntKind.bits]
theorem wrap_u32(n:Nat):IntKind.u32.wrap (n:Int)=((n%4294967296:Nat):Int):=by
  simp[IntKind.wrap,IntKind.signed,IntKind.bits]
theorem wrap_u8(n:Nat):IntKind.u8.wrap (n:Int)=((n%256:Nat):Int):=by
  simp[IntKind.wrap,IntKind.signed,IntKind.bits]
theorem wX(n:Int):IntKind.u64.wrap n=n%18446744073709551616:=by
  simp[IntKind.wrap,IntKind.signed,IntKind.bits]
theorem d2j(n:Int):IntKind.u32.wrap n=n%4294967296:=by
  simp[IntKind.wrap,IntKind.signed,IntKind.bits]
theorem wrap_i64m(n:Int):IntKind.i64.wrap n=(n+9223372036854775808)%18446744073709551616-9223372036854775808:=by
  simp[IntKind.wrap,IntKind.signed,IntKind.bits]
  split<;>omega
section
variable {P:Program} {n:Nat} {D:List Deferred} {s:Sl} {w:World} {ty:TypeId} {x y:Operand} {ops:Array Oper} {K:KK} {rest:List Oper} {pos:String} {af:Array Edge} {d:Nat}
section
variable {t t':TypeId} {a b:Nat}
theorem Ev.abq(e:k6 s x=some (.int .u64 (a:Int)))(d:k6 s y=some (.int .u64 (b:Int))):Ev P s (.binOp .add t x y t') ty w (.int .u64 (((a+b)%18446744073709551616:Nat):Int)) w:=by
  have:=Ev.add (P:=P) (w:=w) (ty:=ty) (t:=t) (t':=t') e d
  rwa [<- Int.natCast_add,wrap_u64] at this
theorem Ev.iJ(e:k6 s x=some (.int .u64 (a:Int)))(d:k6 s y=some (.int .u64 (b:Int)))(h:a+b<18446744073709551616):Ev P s (.binOp .add t x y t') ty w (.int .u64 ((a+b:Nat):Int)) w:=by
  have:=Ev.abq (P:=P) (w:=w) (ty:=ty) (t:=t) (t':=t') e d
  rwa [Nat.mod_eq_of_lt h] at this
theorem Ev.czj(e:k6 s x=some (.int .u64 (a:Int)))(d:k6 s y=some (.int .u64 (b:Int)))(f:b<=18446744073709551616):Ev P s (.binOp .sub t x y t') ty w (.int .u64 (((a+(18446744073709551616-b))%18446744073709551616:Nat):Int)) w:=by
  have:=Ev.sub (P:=P) (w:=w) (ty:=ty) (t:=t) (t':=t') e d
  rw[wX] at this
  rwa [show ((a:Int)-(b:Int))%18446744073709551616=(((a+(18446744073709551616-b))%18446744073709551616:Nat):Int) by omega] at this
theorem Ev.bfx(e:k6 s x=some (.int .u64 (a:Int)))(d:k6 s y=some (.int .u64 (b:Int)))(h:b<=a)(f:a<18446744073709551616):Ev P s (.binOp .sub t x y t') ty w (.int .u64 ((a-b:Nat):Int)) w:=by
  have:=Ev.sub (P:=P) (w:=w) (ty:=ty) (t:=t) (t':=t') e d
  rw[wX] at this
  rwa [show ((a:Int)-(b:Int))%18446744073709551616=((a-b:Nat):Int) by omega] at this
theorem Ev.mul64(e:k6 s x=some (.int .u64 (a:Int)))(d:k6 s y=some (.int .u64 (b:Int))):Ev P s (.binOp .mul t x y t') ty w (.int .u64 (((a*b)%18446744073709551616:Nat):Int)) w:=by
  have:=Ev.mul (P:=P) (w:=w) (ty:=ty) (t:=t) (t':=t') e d
  rwa [<- Int.natCast_mul,wrap_u64] at this
theorem Ev.mul64In(e:k6 s x=some (.int .u64 (a:Int)))(d:k6 s y=some (.int .u64 (b:Int)))(h:a*b<18446744073709551616):Ev P s (.binOp .mul t x y t') ty w (.int .u64 ((a*b:Nat):Int)) w:=by
  have:=Ev.mul64 (P:=P) (w:=w) (ty:=ty) (t:=t) (t':=t') e d
  rwa [Nat.mod_eq_of_lt h] at this
theorem Ev.sub32(e:k6 s x=some (.int .u32 (a:Int)))(d:k6 s y=some (.int .u32 (b:Int)))(f:b<=4294967296):Ev P s (.binOp .sub t x y t') ty w (.int .u32 (((a+(4294967296-b))%4294967296:Nat):Int)) w:=by
  have:=Ev.sub (P:=P) (w:=w) (ty:=ty) (t:=t) (t':=t') e d
  rw[d2j] at this
  rwa [show ((a:Int)-(b:Int))%4294967296=(((a+(4294967296-b))%4294967296:Nat):Int) by omega] at this
theorem Ev.mul32(e:k6 s x=some (.int .u32 (a:Int)))(d:k6 s y=some (.int .u32 (b:Int))):Ev P s (.binOp .mul t x y t') ty w (.int .u32 (((a*b)%4294967296:Nat):Int)) w:=by
  have:=Ev.mul (P:=P) (w:=w) (ty:=ty) (t:=t) (t':=t') e d
  rwa [<- Int.natCast_mul,wrap_u32] at this
theorem Ev.dlq{k:IntKind}(e:k6 s x=some (.int k (a:Int)))(d:k6 s y=some (.int k (b:Int)))(h:b≠0)(f:(a:Int)<=k.max):Ev P s (.binOp .quo t x y t') ty w (.int k ((a/b:Nat):Int)) w:=by
  have:=Ev.b1x (P:=P) (w:=w) (ty:=ty) (t:=t) (t':=t') e d oO f oO
  simpa using this
theorem Ev.dhx{k:IntKind}(e:k6 s x=some (.int k (a:Int)))(d:k6 s y=some (.int k (b:Int)))(h:b≠0):Ev P s (.binOp .rem t x y t') ty w (.int k ((a%b:Nat):Int)) w:=by
  have:=Ev.dhq (P:=P) (w:=w) (ty:=ty) (t:=t) (t':=t') e d oO oO
  simpa using this
theorem a8x(k a:Nat):BitVec.ofInt k (a:Int)=BitVec.ofNat k a:=BitVec.ofInt_natCast k a
theorem dvq(k:IntKind)(b:k.signed=false)(a:Nat)(h:a<2^k.bits):k.wrap (a:Int)=(a:Int):=by
  cases k<;>first|(simp[IntKind.signed] at b;done)|(simp[IntKind.bits] at h;simp[IntKind.wrap,IntKind.signed,IntKind.bits];omega)
theorem Ev.andU{k:IntKind}(h:k.signed=false)(g:k6 s x=some (.int k (a:Int)))(f:k6 s y=some (.int k (b:Int)))(i:a<2^k.bits)(d:b<2^k.bits):Ev P s (.binOp .and t x y t') ty w (.int k ((a&&& b:Nat):Int)) w:=by
  have:=Ev.and (P:=P) (w:=w) (ty:=ty) (t:=t) (t':=t') g f
  have e:aiq .and k (a:Int) (b:Int)=((a&&& b:Nat):Int):=by
    simp only[aiq,a8x,BitVec.toNat_and,BitVec.toNat_ofNat,Nat.mod_eq_of_lt i,Nat.mod_eq_of_lt d]
    exact dvq k h _ (Nat.and_lt_two_pow _ d)
  rwa [e] at this
theorem Ev.orU{k:IntKind}(i:k.signed=false)(h:k6 s x=some (.int k (a:Int)))(g:k6 s y=some (.int k (b:Int)))(f:a<2^k.bits)(d:b<2^k.bits):Ev P s (.binOp .or t x y t') ty w (.int k ((a||| b:Nat):Int)) w:=by
  have:=Ev.or (P:=P) (w:=w) (ty:=ty) (t:=t) (t':=t') h g
  have e:aiq .or k (a:Int) (b:Int)=((a||| b:Nat):Int):=by
    simp only[aiq,a8x,BitVec.toNat_or,BitVec.toNat_ofNat,Nat.mod_eq_of_lt f,Nat.mod_eq_of_lt d]
    exact dvq k i _ (Nat.or_lt_two_pow f d)
  rwa [e] at this
theorem Ev.xorU{k:IntKind}(i:k.signed=false)(h:k6 s x=some (.int k (a:Int)))(g:k6 s y=some (.int k (b:Int)))(f:a<2^k.bits)(d:b<2^k.bits):Ev P s (.binOp .xor t x y t') ty w (.int k ((a ^^^ b:Nat):Int)) w:=by
  have:=Ev.xor (P:=P) (w:=w) (ty:=ty) (t:=t) (t':=t') h g
  have e:aiq .xor k (a:Int) (b:Int)=((a ^^^ b:Nat):Int):=by
    simp only[aiq,a8x,BitVec.toNat_xor,BitVec.toNat_ofNat,Nat.mod_eq_of_lt f,Nat.mod_eq_of_lt d]
    exact dvq k i _ (Nat.xor_lt_two_pow f d)
  rwa [e] at this
theorem Ev.andNotU{k:IntKind}(g:k.signed=false)(f:k6 s x=some (.int k (a:Int)))(d:k6 s y=some (.int k (b:Int)))(i:a<2^k.bits)(h:b<2^k.bits):Ev P s (.binOp .andNot t x y t') ty w (.int k ((a&&& (2^k.bits-1-b):Nat):Int)) w:=by
  have:=Ev.andNot (P:=P) (w:=w) (ty:=ty) (t:=t) (t':=t') f d
  have e:aiq .andNot k (a:Int) (b:Int)=((a&&& (2^k.bits-1-b):Nat):Int):=by
    simp only[aiq,a8x,BitVec.toNat_and,BitVec.toNat_not,BitVec.toNat_ofNat,Nat.mod_eq_of_lt i,Nat.mod_eq_of_lt h]
    exact dvq k g _ (Nat.and_lt_two_pow _ oO)
  rwa [e] at this
theorem Ev.complU{k:IntKind}(b:k.signed=false)(f:k6 s x=some (.int k (a:Int)))(d:a<2^k.bits):Ev P s (.unOp .xor t x) ty w (.int k ((2^k.bits-1-a:Nat):Int)) w:=by
  have:=Ev.compl (P:=P) (w:=w) (ty:=ty) (t:=t) f
  have i:=Nat.two_pow_pos k.bits
  have g:(if k.signed=true then (-1:Int) else k.max)=((2^k.bits-1:Nat):Int):=by
    rw[b];cases k<;>first|rfl|(simp[IntKind.signed] at b)
  have e:aiq .xor k (if k.signed=true then (-1:Int) else k.max) (a:Int)=((2^k.bits-1-a:Nat):Int):=by
    rw[g]
    simp only[aiq,a8x,BitVec.toNat_xor,BitVec.toNat_ofNat,Nat.mod_eq_of_lt d,Nat.mod_eq_of_lt (show 2^k.bits-1<2^k.bits by omega)]
    have h:(2^k.bits-1) ^^^ a=2^k.bits-1-a:=by
      have:=BitVec.toNat_not (x:=BitVec.ofNat k.bits a)
      rw[<- BitVec.allOnes_xor,BitVec.toNat_xor,BitVec.toNat_allOnes,BitVec.toNat_ofNat,Nat.mod_eq_of_lt d] at this
      exact this
    rw[h]
    exact dvq k b _ oO
  rwa [e] at this
theorem Ev.aqx{f:IntKind}(i:k6 s x=some (.int .u64 (a:Int)))(g:k6 s y=some (.int f (b:Int))):Ev P s (.binOp .shl t x y t') ty w (.int .u64 ((a*2^b%18446744073709551616:Nat):Int)) w:=by
  have:=Ev.shl (P:=P) (w:=w) (ty:=ty) (t:=t) (t':=t') i g oO
  have e:IntKind.u64.wrap ((a:Int)*2^(min (b:Int).toNat IntKind.u64.bits))=((a*2^b%18446744073709551616:Nat):Int):=by
    have j:(b:Int).toNat=b:=by omega
    rw[j,show ((a:Int)*2^(min b IntKind.u64.bits))=((a*2^(min b IntKind.u64.bits):Nat):Int) by simp,wrap_u64]
    congr 1
    show a*2^(min b 64)%_=_
    by_cases h:b<=64
    · rw[Nat.min_eq_left h]
    · rw[Nat.min_eq_right oO]
      obtain ⟨q,rfl⟩ : ∃ q,b=64+q:=⟨b-64,by omega⟩
      rw[Nat.pow_add,<- Nat.mul_assoc]
      have d:(2:Nat)^64=18446744073709551616:=by decide
      rw[d,Nat.mul_mod_left,Nat.mul_right_comm,Nat.mul_mod_left]
  rwa [e] at this
theorem Ev.shlU32{f:IntKind}(i:k6 s x=some (.int .u32 (a:Int)))(g:k6 s y=some (.int f (b:Int))):Ev P s (.binOp .shl t x y t') ty w (.int .u32 ((a*2^b%4294967296:Nat):Int)) w:=by
  have:=Ev.shl (P:=P) (w:=w) (ty:=ty) (t:=t) (t':=t') i g oO
  have e:IntKind.u32.wrap ((a:Int)*2^(min (b:Int).toNat IntKind.u32.bits))=((a*2^b%4294967296:Nat):Int):=by
    have j:(b:Int).toNat=b:=by omega
    rw[j,show ((a:Int)*2^(min b IntKind.u32.bits))=((a*2^(min b IntKind.u32.bits):Nat):Int) by simp,wrap_u32]
    congr 1
    show a*2^(min b 32)%_=_
    by_cases h:b<=32
    · rw[Nat.min_eq_left h]
    · rw[Nat.min_eq_right oO]
      obtain ⟨q,rfl⟩ : ∃ q,b=32+q:=⟨b-32,by omega⟩
      rw[Nat.pow_add,<- Nat.mul_assoc]
      have d:(2:Nat)^32=4294967296:=by decide
      rw[d,Nat.mul_mod_left,Nat.mul_right_comm,Nat.mul_mod_left]
  rwa [e] at this
theorem div_pow_min{a b k:Nat}(h:a<2^k):a/2^(min b k)=a/2^b:=by
  by_cases hb:b<=k
  · rw[Nat.min_eq_left hb]
  · rw[Nat.min_eq_right oO,Nat.div_eq_of_lt h,Nat.div_eq_of_lt (Nat.lt_of_lt_of_le h (Nat.pow_le_pow_right oD oO))]
theorem Ev.avx{k d:IntKind}(g:k6 s x=some (.int k (a:Int)))(f:k6 s y=some (.int d (b:Int)))(i:a<2^k.bits):Ev P s (.binOp .shr t x y t') ty w (.int k ((a/2^b:Nat):Int)) w:=by
  have:=Ev.shr (P:=P) (w:=w) (ty:=ty) (t:=t) (t':=t') g f oO
  have e:(a:Int).fdiv (2^(min (b:Int).toNat k.bits))=((a/2^b:Nat):Int):=by
    have h:(b:Int).toNat=b:=by omega
    rw[h,show ((2:Int)^(min b k.bits))=((2^(min b k.bits):Nat):Int) by simp,Int.fdiv_eq_ediv_of_nonneg _ (Int.natCast_nonneg _),<- Int.natCast_ediv,div_pow_min i]
  rwa [e] at this
theorem Ev.eZ{src dst:TypeId}{n f:TypeDesc}{j d b e:Nat}{z g:Value}{k a:IntKind}{i:Int}[o:aJ P src n j d z][p:aJ P dst f b e g](m:f = .int a)(l:k6 s x=some (.int k i))(h:a.min<=i/\i<=a.max):
    Ev P s (.convert src dst x) ty w (.int a i) w:=by
  have:=Ev.conv (P:=P) (w:=w) (ty:=ty) (src:=src) (dst:=dst) m l
  rwa [wrap_in h] at this
theorem Ev.tJ{src dst:TypeId}{l f:TypeDesc}{h d b e:Nat}{z g:Value}{k:IntKind}[m:aJ P src l h d z][n:aJ P dst f b e g](j:f = .int .u32)(i:k6 s x=some (.int k (a:Int))):
    Ev P s (.convert src dst x) ty w (.int .u32 ((a%4294967296:Nat):Int)) w:=by
  have:=Ev.conv (P:=P) (w:=w) (ty:=ty) (src:=src) (dst:=dst) j i
  rwa [wrap_u32] at this
theorem Ev.coq{src dst:TypeId}{l f:TypeDesc}{h d b e:Nat}{z g:Value}{k:IntKind}[m:aJ P src l h d z][n:aJ P dst f b e g](j:f = .int .u8)(i:k6 s x=some (.int k (a:Int))):
    Ev P s (.convert src dst x) ty w (.int .u8 ((a%256:Nat):Int)) w:=by
  have:=Ev.conv (P:=P) (w:=w) (ty:=ty) (src:=src) (dst:=dst) j i
  rwa [wrap_u8] at this
theorem Ev.c1q{a b:Int}(e:k6 s x=some (.int .i64 a))(d:k6 s y=some (.int .i64 b))(h : -9223372036854775808<=a*b/\a*b<=9223372036854775807):Ev P s (.binOp .mul t x y t') ty w (.int .i64 (a*b)) w:=by
  have:=Ev.mul (P:=P) (w:=w) (ty:=ty) (t:=t) (t':=t') e d
  rwa [wrap_i64 h] at this
theorem Ev.bpx{a:Int}(b:k6 s x=some (.int .i64 a))(h : -9223372036854775807<=a/\a<=9223372036854775807):Ev P s (.unOp .neg t x) ty w (.int .i64 (-a)) w:=by
  have:=Ev.neg (P:=P) (w:=w) (ty:=ty) (t:=t) b
  rwa [Int.zero_sub,wrap_i64 oO] at this
end
def RW(w:World)(a:Option Addr)(xs:List Value):Prop:=∀ (i:Nat) (v:Value),xs[i]?=some v->∃ ad,a=some ad/\w.cell? (ad.add i)=some v
theorem addr_blk(a:Addr)(i:Nat):(a.add i).block=a.block:=by unfold Addr.add;split<;>rfl
theorem addr_add2(a:Addr)(m n:Nat):(a.add m).add n=a.add (m+n):=by
  cases a with
  | mk b o f=>simp only[Addr.add];split<;>split<;>simp_all<;>omega
def adr(a:Option Addr)(j:Nat):Addr:=(a.getD ⟨0,0,none⟩).add j
theorem RW.at_{a:Option Addr}{xs:List Value}{j:Nat}{v:Value}(h:RW w a xs)(b:xs[j]?=some v):w.cell? (adr a j)=some v:=by
  obtain ⟨e,rfl,d⟩:=h j v b
  exact d
theorem RW.some_{a:Option Addr}{xs:List Value}(h:RW w a xs)(b:0<xs.length): ∃ ad,a=some ad:=by
  obtain ⟨ad,rfl,d⟩:=h 0 _ (List.getElem?_eq_getElem b)
  exact ⟨ad,rfl⟩
theorem RW.nil{a:Option Addr}: RW w a []:=λi v h=>by simp at h
theorem RW.dJ{a:Option Addr}{xs:List Value}{T:List Nat}{w':World}(h:RW w a xs)(d:Chg T w w')(hT : ∀ b∈T,w.heap.size<=b):RW w' a xs:=λi v hv=>by
  obtain ⟨ad,rfl,h2⟩:=h i v hv
  refine ⟨ad,rfl,d.cell h2 λhm=>?_⟩
  have:=hT _ hm
  have:=block_lt_of_cell h2
  omega
theorem RW.q8{a:Option Addr}{xs:List Value}{w':World}(h:RW w a xs)(b:Chg [] w w'):RW w' a xs:=h.dJ b oS
theorem RW.keepB{a:Option Addr}{xs:List Value}{T:List Nat}{w':World}(h:RW w a xs)(b:Chg T w w')(hT : ∀ ad,a=some ad->ad.block∉T):RW w' a xs:=λi v hv=>by
  obtain ⟨ad,rfl,h2⟩:=h i v hv
  exact ⟨ad,rfl,b.cell h2 (by rw[addr_blk];exact hT ad rfl)⟩
theorem RW.take{a:Option Addr}{xs:List Value}(h:RW w a xs)(k:Nat):RW w a (xs.take k):=λi v hv=>by
  rw[List.getElem?_take] at hv
  split at hv
  · exact h i v hv
  · cases hv
theorem RW.drop{a:Option Addr}{xs:List Value}(h:RW w a xs)(k:Nat):RW w (a.map (·.add k)) (xs.drop k):=λi v hv=>by
  rw[List.getElem?_drop] at hv
  obtain ⟨ad,rfl,h2⟩:=h _ v hv
  exact ⟨ad.add k,rfl,by rw[addr_add2];exact h2⟩
theorem RW.cut{a:Option Addr}{xs:List Value}(h:RW w a xs)(k c:Nat)(b:k<=xs.length)(d:xs.length<=c):RW w (cutAt a k c 1) (xs.drop k):=by
  unfold cutAt
  split
  · rename_i e
    rw[List.drop_eq_nil_of_le oO]
    exact RW.nil
  · rw[Nat.mul_one];exact h.drop k
theorem RW.append_left{a:Option Addr}{xs b:List Value}(h:RW w a (xs++b)):RW w a xs:=by
  have:=h.take xs.length
  rwa [List.take_left] at this
theorem RW.of_heap{b:Nat}{xs:List Value}{E:TypeId}{a:Nat×Nat}(h:w.heap[b]?=some (.cells xs.toArray E a)):RW w (some ⟨b,0,none⟩) xs:=λi v hv=>⟨_,rfl,by rw[axq,Nat.zero_add,a7j h];exact hv⟩
theorem RW.dmj{e b:Nat}{a:Option Addr}{m c:Nat}{xs:List Value}(h:w.ownsRow 0 e b (.slice a m c) m xs):RW w a xs:=λi v hv=>by
  have hp:0<xs.length:=by
    cases xs with
    | nil=>simp at hv
    | cons x xs=>simp
  obtain ⟨g,rfl,d⟩:=dmq h hp
  exact ⟨_,rfl,by rw[axq,Nat.zero_add];exact d _ _ hv⟩
theorem Ev.ixR(j:Nat){t:TypeId}{a:Option Addr}{m c e o:Nat}{k:IntKind}{i:Int}{n:TypeDesc}{ze:Value}{f d:Nat}{z:Value}{xs:List Value}[hT:aJ P t (.slice e) f d z][hE:aJ P e n 1 o ze](h:k6 s x=some (.slice a m c))(g:k6 s y=some (.int k i))(l:RW w a xs)(b:i=(j:Int))(p:j<m)(q:j<xs.length):
    Ev P s (.indexAddr t x y) ty w (.pointer (some (adr a j))) w:=by
  obtain ⟨r,rfl⟩:=l.some_ oO
  subst b
  have:=Ev.drj (P:=P) (s:=s) (w:=w) (ty:=ty) (t:=t) (hT:=hT) (hE:=hE) h g oO oO
  rwa [show ((j:Int)).toNat*1=j by omega] at this
theorem Ev.ixB(j:Nat){t:TypeId}{b m c e n:Nat}{k:IntKind}{i:Int}{l:TypeDesc}{ze:Value}{f d:Nat}{z:Value}[hT:aJ P t (.slice e) f d z][hE:aJ P e l 1 n ze](h:k6 s x=some (.slice (some ⟨b,0,none⟩) m c))(g:k6 s y=some (.int k i))(a:i=(j:Int))(o:j<m):
    Ev P s (.indexAddr t x y) ty w (.pointer (some ⟨b,j,none⟩)) w:=by
  subst a
  have:=Ev.indexAddr (P:=P) (s:=s) (w:=w) (ty:=ty) (t:=t) (hT:=hT) (hE:=hE) h g oO oO
  rwa [show 0+((j:Int)).toNat*1=j by omega] at this
theorem Ev.c6j(j:Nat){t:TypeId}{a:Option Addr}{m c e:Nat}{l o:Nat}{g:IntKind}{d:Int}{n:TypeDesc}{ze:Value}{f b:Nat}{z:Value}{q:Operand}[hT:aJ P t (.slice e) f b z][hE:aJ P e n l o ze]
    (h:k6 s x=some (.slice a m c)) (i:k6 s q=some (.int g d)) (k:d=(j:Int)) (p:j<=c):Ev P s (.slice t x none (some q) none) ty w (.slice a j c) w:=by
  subst k
  exact Ev.sliceH (hT:=hT) (hE:=hE) h i oO oO
theorem Ev.brj(j:Nat){t:TypeId}{a:Option Addr}{m c e:Nat}{d n:Nat}{g:IntKind}{lo:Int}{l:TypeDesc}{ze:Value}{f b:Nat}{z:Value}{q:Operand}[hT:aJ P t (.slice e) f b z][hE:aJ P e l d n ze]
    (h:k6 s x=some (.slice a m c)) (i:k6 s q=some (.int g lo)) (k:lo=(j:Int)) (o:j<=m):Ev P s (.slice t x (some q) none none) ty w (.slice (cutAt a j c d) (m-j) (c-j)) w:=by
  subst k
  exact Ev.sliceL (hT:=hT) (hE:=hE) h i oO oO
theorem Ev.slice3n(j i:Nat){t:TypeId}{a:Option Addr}{m c e:Nat}{B D:Nat}{k n:IntKind}{h f:Int}{C:TypeDesc}{ze:Value}{l d:Nat}{z:Value}{p q:Operand}[hT:aJ P t (.slice e) l d z][hE:aJ P e C B D ze]
    (o:k6 s x=some (.slice a m c)) (r:k6 s q=some (.int n h)) (u:k6 s p=some (.int k f)) (v:h=(j:Int)) (b:f=(i:Int)) (A:j<=i) (y:i<=c):Ev P s (.slice t x none (some q) (some p)) ty w (.slice a j i) w:=λρ d' pos af g hρ=>by
  subst b;subst v
  have e1:=hρ x _ o
  have e2:=hρ q _ r
  have e3:=hρ p _ u
  have e4:(0:Int)<=(j:Int):=by omega
  have e5:(0:Int)<=(i:Int):=by omega
  simp[execOp,e1,e2,e3,Instr.sliceAt,Instr.slice,hT.underlying,Instr.sliceBounds,Instr.sliceBound,asIntOf,A,y,hE.sizeOf]
  intro _;cases a<;>simp[Addr.add]
theorem k9.ret3{a:Func}{R:Value->World->Prop}{t u q:Nat}{v x z:Value}(e:a.results = #[.tmp t,.tmp u,.tmp q])(d:look s t=some v)(b:look s u=some x)(f:look s q=some z)(h:R (.tuple [v,x,z].toArray) w):k9 P a n R .ret [] s w:=
  k9.ckq e (aZ.tmp d) (aZ.tmp b) (aZ.tmp f) h
theorem WL.afq{b:Bool}(a:b=true->WL P ops K rest n D ((d,.bool true)::s) w)(e:b=false->WL P ops K rest n D ((d,.bool false)::s) w):WL P ops K rest n D ((d,.bool b)::s) w:=by
  cases b
  · exact e rfl
  · exact a rfl
theorem j0.g8{s s':Sl}{t:Nat}{b b':Bool}(h:look s t=some (.bool b'))(d:b'=b)(a:j0 s' s):j0 ((t,.bool b)::s') s:=by
  subst d;exact j0.cons h a
theorem j0.consI{s s':Sl}{t:Nat}{k:IntKind}{i a:Int}(h:look s t=some (.int k a))(d:a=i)(b:j0 s' s):j0 ((t,.int k i)::s') s:=by
  subst d;exact j0.cons h b
theorem j0.oZ{s s':Sl}{k:Nat}{v:Value}(h:look s' k=none)(a:j0 s' s):j0 s' ((k,v)::s):=λt x hx=>by
  rw[b6j]
  by_cases e:k=t
  · subst e;rw[h] at hx;cases hx
  · rw[if_neg e];exact a t x hx
theorem CW.oX{A:AQ}{x y:Code}(c:Nat)(b:Bool)(d:CW P x (cjx (λD' s' w'=>D'=D/\w'=w/\j0 ((c,.bool b)::s) s') A) n D s w)(a:CW P y A n D ((c,.bool b)::s) w):CW P (.seq x y) A n D s w:=
  CW.anj _ d λD' s' w' ⟨h1,h2,h3⟩=>by subst h1;subst h2;exact a.sub h3
section
variable {α:Type}
theorem map_at(f:α->Value){l:List α}{i:Nat}(a:α)(h:i<l.length):(l.map f)[i]?=some (f (l.getD i a)):=by
  rw[List.getElem?_map,List.getD_eq_getElem?_getD,List.getElem?_eq_getElem h];rfl
end
def kZ(n:Nat):Value:=.int .u32 (n:Int)
def u64v(n:Nat):Value:=.int .u64 (n:Int)
def u8v(n:Nat):Value:=.int .u8 (n:Int)
def bkx(n:Nat):Value:=.float .f64 n
theorem u32_one(l:List Nat): ∀ v∈l.map kZ,v.oneCell'=true:=λv hv=>by obtain ⟨x,_,rfl⟩:=List.mem_map.1 hv;rfl
theorem RW.u32{a:Option Addr}{l:List Nat}{j:Nat}(h:RW w a (l.map kZ))(b:j<l.length):w.cell? (adr a j)=some (.int .u32 ((l.getD j 0:Nat):Int)):=h.at_ (map_at kZ 0 b)
theorem RW.f64{a:Option Addr}{l:List Nat}{j:Nat}(h:RW w a (l.map bkx))(b:j<l.length):w.cell? (adr a j)=some (.float .f64 (l.getD j 0)):=h.at_ (map_at bkx 0 b)
def OB(w:World)(b:Nat)(E:TypeId)(l:List Nat):Prop:=w.heap[b]?=some (.cells (l.map kZ).toArray E (0,0))
theorem OB.u32{b:Nat}{E:TypeId}{l:List Nat}{j:Nat}(h:OB w b E l)(a:j<l.length):w.cell? ⟨b,j,none⟩=some (.int .u32 ((l.getD j 0:Nat):Int)):=by
  rw[a7j h];exact map_at kZ 0 a
theorem OB.row{b:Nat}{E:TypeId}{l:List Nat}(h:OB w b E l):RW w (some ⟨b,0,none⟩) (l.map kZ):=RW.of_heap h
theorem OB.dJ{b:Nat}{E:TypeId}{l:List Nat}{T:List Nat}{w':World}(h:OB w b E l)(a:Chg T w w')(hT:b∉T):OB w' b E l:=a.heap h hT
theorem OB.q8{b:Nat}{E:TypeId}{l:List Nat}{w':World}(h:OB w b E l)(a:Chg [] w w'):OB w' b E l:=a.heap h oS
theorem OB.lt{b:Nat}{E:TypeId}{l:List Nat}(h:OB w b E l):b<w.heap.size:=a0q h
theorem WL.tQ{t:TypeId}{h:TypeDesc}{a:Nat}{z:Value}{b i v:Nat}{l:List Nat}{E:TypeId}[hT:aJ P t h 1 a z](e:k6 s x=some (.pointer (some ⟨b,i,none⟩)))(d:k6 s y=some (.int .u32 (v:Int)))
    (g:OB w b E l) (f:i<l.length) (k : ∀ w',OB w' b E (l.set i v)->Chg [b] w w'->WL P ops K rest n D s w'):WL P ops K (⟨none,.store t x y,ty,pos,af,none⟩::rest) n D s w:=
  WL.store (l:=l.map kZ) (v:=kZ v) e d rfl g (by simpa using f) λw' hu=>k w' (by have:=hu.at_;rw[<- List.map_set] at this;exact this) hu.chg
theorem Chg.step{T T':List Nat}{a b c:World}(h:Chg T a b)(k:Chg T' b c)(hT : ∀ x,x∈T'->x∈T\/a.heap.size<=x):Chg T a c:=
  ⟨k.os.trans h.os,k.tape.trans h.tape,k.output.trans h.output,Nat.le_trans h.size k.size,λi hi hn=>(k.block i (Nat.lt_of_lt_of_le hi h.size) λhm=>by
    rcases hT i hm with q|q
    · exact hn q
    · omega).trans (h.block i hi hn)⟩
theorem madeU{z:Value}(a:z.cells = #[.int .u32 0])(n:Nat):madeCells z.cells (n*1)=((List.replicate n 0).map kZ).toArray:=by
  rw[a,Nat.mul_one]
  apply Array.ext'
  simp[madeCells,List.map_replicate,kZ,Nat.mod_one,List.map_const']
theorem WL.bcq(j i:Nat){t:TypeId}{e a:Nat}{o p:IntKind}{l c:Int}{m g:Nat}{z:Value}[hT:aJ P t (.slice e) m g z][hE:aJ P e (.int .u32) 1 a (.int .u32 0)](r:k6 s x=some (.int o l))(q:k6 s y=some (.int p c))
    (v:l=(j:Int)) (B:c=(i:Int)) (u:j<=i) (F:a*i<=281474976710656) (C:i<=281474976710656) (A:Nat.blt d n=true)
    (k : ∀ b w',OB w' b e (List.replicate i 0)->Chg [] w w'->w.heap.size<=b->WL P ops K rest n D ((d,.slice (some ⟨b,0,none⟩) j i)::s) w'):WL P ops K (⟨some d,.makeSlice t x y,ty,pos,af,none⟩::rest) n D s w:=by
  subst v;subst B
  refine WL.make (hT:=hT) (hE:=hE) r q oO oO (by rw[show (a:Int)*(i:Int)=((a*i:Nat):Int) by simp];omega) oO A λb w' f=>?_
  have h:=f.at_
  rw[show (i:Int).toNat=i by omega,madeU (by rfl)] at h
  exact k b w' h f.chg f.ge
theorem WL.copyU{t t':TypeId}{e be:Nat}{b m c f c2:Nat}{a:Option Addr}{l xs:List Nat}{T H:Nat}{z ze:Value}{de:TypeDesc}[hT:aJ P t (.slice e) T H z][hE:aJ P e de 1 be ze](M:k6 s x=some (.slice (some ⟨b,0,none⟩) m c))(J:k6 s y=some (.slice a f c2))(C:OB w b e l)(O:RW w a (xs.map kZ))(hn:f<=xs.length)(hm:m<=l.length)(Q:Nat.blt d n=true)
    (k : ∀ w',OB w' b e (xs.take (min f m)++l.drop (min f m))->Chg [b] w w'->WL P ops K rest n D ((d,.int .i64 ((min f m:Nat):Int))::s) w'):WL P ops K (⟨some d,.call ⟨.builtin .copy,[x,y].toArray,#[t,t']⟩,ty,pos,af,none⟩::rest) n D s w:=by
  obtain ⟨i,Y,B,X,V⟩:=hE.inf
  have u:(P.info? e).map (·.size)=some 1:=by rw[Y];simp[B]
  by_cases h0:min f m=0
  · refine WL.ev (v:=goInt 0) (w':=w) (λρ d' pos af g r=>?_) Q ?_
    · have G:=r x _ M
      have F:=r y _ J
      have:=run_copy_none (P:=P) w t t' ty e (some ⟨b,0,none⟩) a m c f c2 hT.und u h0
      simp[execOp,resolve,invoke,builtin,G,F,this]
    · have:=k w (by rw[h0];simpa using C) (Chg.refl _ _)
      rw[h0] at this
      exact this
  · obtain ⟨R,rfl⟩:=O.some_ oT
    have h:((xs.take (min f m)).map kZ).length=Nat.min f m:=by
      show _=min f m
      simp;omega
    have o:=run_copy_row (P:=P) w t t' ty e b 0 m c R f c2 (l.map kZ).toArray e ((xs.take (min f m)).map kZ) hT.und u C h
      (λj v U=>by
        obtain ⟨a4,e0,Z⟩:=(by rw[List.map_take];exact O.take (min f m):RW w (some R) ((xs.take (min f m)).map kZ)) j v U
        cases e0;exact Z)
      oT (u32_one _)
    obtain ⟨I,p⟩ : ∃ I,I=w.setRow b ((l.map kZ).toArray.toList.take 0++(xs.take (min f m)).map kZ++(l.map kZ).toArray.toList.drop (0+((xs.take (min f m)).map kZ).length)).toArray:=⟨_,rfl⟩
    rw[<- p] at o
    refine WL.ev (v:=goInt ((xs.take (min f m)).map kZ).length) (w':=I) (λρ d' pos af g r=>?_) Q ?_
    · have G:=r x _ M
      have F:=r y _ J
      simp[execOp,resolve,invoke,builtin,G,F,o]
    · rw[h]
      refine k _ ?_ ?_
      · have:=setRow_heap w b _ ((l.map kZ).toArray.toList.take 0++(xs.take (min f m)).map kZ++(l.map kZ).toArray.toList.drop (0+((xs.take (min f m)).map kZ).length)).toArray e (0,0) C
        rw[<- p] at this
        unfold OB
        rw[this,h]
        simp[List.map_drop]
      · subst p
        exact ⟨rfl,rfl,rfl,by simp[World.setRow],λq hq A=>setRow_other w b q _ (by simpa using A)⟩
theorem Ev.dnj{t t':TypeId}{f e:Nat}{z:Value}{a b:Bool}[hT:aJ P t .bool f e z](h:k6 s x=some (.bool a))(g:k6 s y=some (.bool b)):Ev P s (.binOp .neq t x y t') ty w (.bool (a != b)) w:=
  pQ h g (λ_ _=>cnj _ _ _ _ _ _) (by
    have:=ckx (P:=P) (w:=w) (t:=t) (u:=.bool a) (v:=.bool b) (r:=a==b) λd=>by simp[Op.equalIn,hT.underlying]
    simp only[binOp]
    simp[this,bne])
theorem Ev.maxI{a b:Int}{e d:TypeId}(i:k6 s x=some (.int .i64 a))(f:k6 s y=some (.int .i64 b)):Ev P s (.call ⟨.builtin .max,[x,y].toArray,#[e,d]⟩) ty w (.int .i64 (max a b)) w:=λρ d' pos af g hρ=>by
  have e1:=hρ x _ i
  have e2:=hρ y _ f
  simp[execOp,resolve,invoke,builtin,e1,e2,Builtin.max_,Builtin.max2]
  by_cases h:a<=b
  · rw[Int.max_eq_right h];simp[h];try omega
  · rw[Int.max_eq_left oO];simp[h];try omega
theorem Ev.minI{a b:Int}{e d:TypeId}(i:k6 s x=some (.int .i64 a))(f:k6 s y=some (.int .i64 b)):Ev P s (.call ⟨.builtin .min,[x,y].toArray,#[e,d]⟩) ty w (.int .i64 (min a b)) w:=λρ d' pos af g hρ=>by
  have e1:=hρ x _ i
  have e2:=hρ y _ f
  simp[execOp,resolve,invoke,builtin,e1,e2,Builtin.min_,Builtin.min2]
  by_cases h:a<=b
  · rw[Int.min_eq_left h];simp[h];try omega
  · rw[Int.min_eq_right oO];simp[h];try omega
def BK(w:World)(b:Nat)(T:TypeId)(l:List Value):Prop:=w.heap[b]?=some (.cells l.toArray T (0,0))
theorem BK.dJ{b:Nat}{T:TypeId}{l:List Value}{U:List Nat}{w':World}(h:BK w b T l)(a:Chg U w w')(hT:b∉U):BK w' b T l:=a.heap h hT
theorem BK.q8{b:Nat}{T:TypeId}{l:List Value}{w':World}(h:BK w b T l)(a:Chg [] w w'):BK w' b T l:=a.heap h oS
theorem BK.lt{b:Nat}{T:TypeId}{l:List Value}(h:BK w b T l):b<w.heap.size:=a0q h
theorem BK.at_{b:Nat}{T:TypeId}{l:List Value}{i:Nat}{v:Value}(h:BK w b T l)(a:l[i]?=some v):w.cell? ⟨b,i,none⟩=some v:=by rw[a7j h];exact a
theorem BK.sub{b:Nat}{T:TypeId}{l cs:List Value}{o m:Nat}(h:BK w b T l)(a:(l.drop o).take m=cs): ∀ j v,cs[j]?=some v->w.cell? (Addr.add ⟨b,o,none⟩ j)=some v:=λj v hj=>by
  subst a
  rw[axq]
  refine h.at_ ?_
  rw[List.getElem?_take] at hj
  split at hj
  · rwa [List.getElem?_drop] at hj
  · cases hj
theorem Ev.fZ{t:TypeId}{e:TypeDesc}{a d b o:Nat}{z:Value}{T:TypeId}{l cs:List Value}[hT:aJ P t e a d z](h:c4j e=true)(f:k6 s x=some (.pointer (some ⟨b,o,none⟩)))(j:BK w b T l)(i:(l.drop o).take a=cs)(g:cs.length=a):Ev P s (.load t x) ty w (.agg cs.toArray) w:=
  Ev.awj h g f (j.sub i)
theorem Ev.rZ{t:TypeId}{e:TypeDesc}{d a b:Nat}{z:Value}{T:TypeId}{l:List Value}[hT:aJ P t e d a z](h:c4j e=true)(f:k6 s x=some (.pointer (some ⟨b,0,none⟩)))(i:BK w b T l)(g:l.length=d):Ev P s (.load t x) ty w (.agg l.toArray) w:=
  Ev.awj h g f (i.sub (m:=l.length) oS)
theorem BK.fJ{t:TypeId}{e:TypeDesc}{d a b:Nat}{z:Value}{T:TypeId}{l:List Value}[hT:aJ P t e d a z](h:BK w b T l)(g:c4j e=true)(f:l.length=d):(loadVar t ⟨b,0,none⟩).run P w = .ok (.agg l.toArray) w:=
  loadVar_agg g f (h.sub (m:=l.length) oS)
theorem BK.var1{t:TypeId}{d:TypeDesc}{e a b o:Nat}{z v:Value}{T:TypeId}{l:List Value}[hT:aJ P t d e a z](h:BK w b T l)(f:c4j d=false)(g:l[o]?=some v):(loadVar t ⟨b,o,none⟩).run P w = .ok v w:=
  loadVar_one f (h.at_ g)
theorem WL.iZ{t:TypeId}{h:TypeDesc}{e a:Nat}{z:Value}{l:List Value}[hT:aJ P t h e a z](f:z.cells=l.toArray)(g:Nat.blt d n=true)
    (k : ∀ b w',BK w' b t l->Chg [] w w'->w.heap.size<=b->WL P ops K rest n D ((d,.pointer (some ⟨b,0,none⟩))::s) w'):WL P ops K (⟨some d,.alloc t,ty,pos,af,none⟩::rest) n D s w:=
  WL.alloc f g λb w' hn=>k b w' hn.at_ hn.chg hn.ge
theorem WL.cgq{t:TypeId}{v:Value}{l:List Value}(a:k6 s x=some v)(e:v.cells=l.toArray)(f:Nat.blt d n=true)
    (k : ∀ b w',BK w' b t l->Chg [] w w'->w.heap.size<=b->WL P ops K rest n D ((d,.pointer (some ⟨b,0,none⟩))::s) w'):WL P ops K (⟨some d,.box t x,ty,pos,af,none⟩::rest) n D s w:=
  WL.box a e f λb w' hn=>k b w' hn.at_ hn.chg hn.ge
theorem WL.nZ{t:TypeId}{r:TypeDesc}{d a:Nat}{z:Value}{b i:Nat}{l e vs:List Value}{T:TypeId}[hT:aJ P t r d a z](h:k6 s x=some (.pointer (some ⟨b,i,none⟩)))(g:k6 s y=some (.agg vs.toArray))(j:vs.length=d)(q : ∀ v∈vs,v.oneCell'=true)
    (p:BK w b T l) (m:i+vs.length<=l.length) (o:splice l i vs=e) (k : ∀ w',BK w' b T e->Chg [b] w w'->WL P ops K rest n D s w'):WL P ops K (⟨none,.store t x y,ty,pos,af,none⟩::rest) n D s w:=by
  subst o
  exact WL.storeAgg h g j q p m λw' f=>k w' f.at_ f.chg
theorem WL.bJ{t:TypeId}{p:TypeDesc}{a:Nat}{z:Value}{b i:Nat}{l d:List Value}{T:TypeId}{v:Value}[hT:aJ P t p 1 a z](g:k6 s x=some (.pointer (some ⟨b,i,none⟩)))(f:k6 s y=some v)(o:v.oneCell'=true)
    (m:BK w b T l) (h:i<l.length) (j:l.set i v=d) (k : ∀ w',BK w' b T d->Chg [b] w w'->WL P ops K rest n D s w'):WL P ops K (⟨none,.store t x y,ty,pos,af,none⟩::rest) n D s w:=by
  subst j
  exact WL.store g f o m h λw' e=>k w' e.at_ e.chg
theorem CW.cQ{A:AQ}{a:Nat}{l:List Oper}(m:Nat)(b:l.length=m)(d:P.follows .mixedOrders=true)
    (h : ∀ R:KK,(∀ D s w,A .normal D s w->R D s w)->Chg [] w.drew w.drew->Chg [] w w.drew->WH P l.toArray R (Chg [] w.drew) m (Array.replicate m false) n D s w.drew):CW P (.region a l.toArray true) A n D s w:=
  CW.regionH (Chg [] w.drew) m b d λR hR=>h R hR (Chg.refl _ _) (Chg.drew _ _)
theorem CW.jQ{A:AQ}{a:Nat}{l:List Oper}(b:P.follows .mixedOrders=true)(d:Region.lexB .any l.toArray=true)
    (h : ∀ K:List Deferred->Sl->Prop,(∀ D s,A .normal D s w.drew->K D s)->Chg [] w w.drew->WS P l.toArray K l n D s w.drew):CW P (.region a l.toArray true) A n D s w:=
  CW.regionS b d λK hK=>h K hK (Chg.drew _ _)
theorem CW.gJ{A:AQ}{a:Nat}{l:List Oper}(z m:Nat)(b:l.length=m)(d:P.follows .mixedOrders=true)
    (h : ∀ R:KK,(∀ D s w,A .normal D s w->R D s w)->Chg [] w.drew w.drew->Chg [] w w.drew->WK P l.toArray R (Chg [] w.drew) z m (Array.replicate m false) n D s w.drew):CW P (.region a l.toArray true) A n D s w:=
  CW.regionK (Chg [] w.drew) z m b d λR hR=>h R hR (Chg.refl _ _) (Chg.drew _ _)
theorem byq : ∀ (r l:List Value),splice (l++r) l.length r=l++r
  | [],l=>by simp[splice]
  | x::r,l=>by
    have h:=byq r (l++[x])
    simp only[splice]
    rw[show (l++x::r).set l.length x=l++x::r by simp]
    simpa using h
def S2(b:Nat)(T:TypeId)(l:List Value)(b2:Nat)(T2:TypeId)(l2:List Value)(w:World):Prop:=BK w b T l/\BK w b2 T2 l2
theorem CW.dhj{A:AQ}{i:Nat}{l:List Oper}(m:Nat){b e:Nat}{T f:TypeId}{d a:List Value}(o:BK w b T d)(g:BK w e f a)(j:l.length=m)(k:P.follows .mixedOrders=true)
    (h : ∀ R:KK,(∀ D s w,A .normal D s w->R D s w)->S2 b T d e f a w.drew->Chg [] w w.drew->WH P l.toArray R (S2 b T d e f a) m (Array.replicate m false) n D s w.drew):CW P (.region i l.toArray true) A n D s w:=
  CW.regionH (S2 b T d e f a) m j k λR hR=>h R hR ⟨o.q8 (Chg.drew _ _),g.q8 (Chg.drew _ _)⟩ (Chg.drew _ _)
section
variable {fuel:Nat} {listed:Array Bool} {b b2:Nat} {T T2:TypeId} {l1 l2:List Value}
theorem WH.same1(i:Nat){t:TypeId}{B:TypeDesc}{g f:Nat}{m:Value}{x y:Operand}[hT:aJ P t B g f m](u:ops[i]?=some ⟨none,.store t x y,ty,pos,af,none⟩)(r:Region.ready .any ops listed=[i])
    (p:k6 s x=some (.pointer (some ⟨b,0,none⟩))) (o:k6 s y=some (.agg l1.toArray)) (q:l1.length=g) (A : ∀ v∈l1,v.oneCell'=true) (d:b≠b2) (h:S2 b T l1 b2 T2 l2 w)
    (k : ∀ w',S2 b T l1 b2 T2 l2 w'->Chg [b] w w'->WH P ops K (S2 b T l1 b2 T2 l2) fuel (listed.setIfInBounds i true) n D s w'):WH P ops K (S2 b T l1 b2 T2 l2) (fuel+1) listed n D s w:=by
  obtain ⟨w',z,a⟩:=a7x (P:=P) (ty:=ty) (t:=t) (hT:=hT) p o q A h.1 oS
  have e:=byq l1 []
  simp only[List.nil_append,List.length_nil] at e
  have l:=a.at_
  rw[e] at l
  have j:S2 b T l1 b2 T2 l2 w':=⟨l,h.2.dJ a.chg (by simpa using Ne.symm d)⟩
  exact WH.oneS i u r z j (k w' j a.chg)
theorem WH.same2(i:Nat){t:TypeId}{B:TypeDesc}{g f:Nat}{m:Value}{x y:Operand}[hT:aJ P t B g f m](u:ops[i]?=some ⟨none,.store t x y,ty,pos,af,none⟩)(r:Region.ready .any ops listed=[i])
    (p:k6 s x=some (.pointer (some ⟨b2,0,none⟩))) (o:k6 s y=some (.agg l2.toArray)) (q:l2.length=g) (A : ∀ v∈l2,v.oneCell'=true) (d:b≠b2) (h:S2 b T l1 b2 T2 l2 w)
    (k : ∀ w',S2 b T l1 b2 T2 l2 w'->Chg [b2] w w'->WH P ops K (S2 b T l1 b2 T2 l2) fuel (listed.setIfInBounds i true) n D s w'):WH P ops K (S2 b T l1 b2 T2 l2) (fuel+1) listed n D s w:=by
  obtain ⟨w',z,a⟩:=a7x (P:=P) (ty:=ty) (t:=t) (hT:=hT) p o q A h.2 oS
  have e:=byq l2 []
  simp only[List.nil_append,List.length_nil] at e
  have l:=a.at_
  rw[e] at l
  have j:S2 b T l1 b2 T2 l2 w':=⟨h.1.dJ a.chg (by simpa using d),l⟩
  exact WH.oneS i u r z j (k w' j a.chg)
end
section
variable {A:AQ} {S:World->Prop} {z:Nat} {fuel:Nat} {listed:Array Bool} {op:Op}
theorem WK.nZ(i:Nat){t:TypeId}{G:TypeDesc}{g f:Nat}{m:Value}{b o:Nat}{l h vs:List Value}{T:TypeId}{x y:Operand}[hT:aJ P t G g f m](B:ops[i]?=some ⟨none,.store t x y,ty,pos,af,none⟩)(u:Region.ready .any ops listed=[i])(a:(listed.setIfInBounds i true).getD z false=true)
    (q:k6 s x=some (.pointer (some ⟨b,o,none⟩))) (p:k6 s y=some (.agg vs.toArray)) (r:vs.length=g) (F : ∀ v∈vs,v.oneCell'=true)
    (C:BK w b T l) (A:o+vs.length<=l.length) (d:splice l o vs=h) (k : ∀ w',BK w' b T h->Chg [b] w w'->WK P ops K S z fuel (listed.setIfInBounds i true) n D s w'):WK P ops K S z (fuel+1) listed n D s w:=by
  subst d
  obtain ⟨w',d,j⟩:=a7x (P:=P) (ty:=ty) (t:=t) (hT:=hT) q p r F C A
  exact WK.oneS i B u d (λe=>by rw[a] at e;cases e) (k w' j.at_ j.chg)
theorem WK.bJ(i:Nat){t:TypeId}{B:TypeDesc}{d:Nat}{g:Value}{b o:Nat}{l e:List Value}{T:TypeId}{u:Value}{x y:Operand}[hT:aJ P t B 1 d g](q:ops[i]?=some ⟨none,.store t x y,ty,pos,af,none⟩)(m:Region.ready .any ops listed=[i])(a:(listed.setIfInBounds i true).getD z false=true)
    (j:k6 s x=some (.pointer (some ⟨b,o,none⟩))) (h:k6 s y=some u) (A:u.oneCell'=true)
    (v:BK w b T l) (p:o<l.length) (r:l.set o u=e) (k : ∀ w',BK w' b T e->Chg [b] w w'->WK P ops K S z fuel (listed.setIfInBounds i true) n D s w'):WK P ops K S z (fuel+1) listed n D s w:=by
  subst r
  exact WK.d4q i q m a j h A v p λw' f=>k w' f.at_ f.chg
theorem WK.tQ(i:Nat){t:TypeId}{q:TypeDesc}{d:Nat}{e:Value}{b o v:Nat}{l:List Nat}{E:TypeId}{x y:Operand}[hT:aJ P t q 1 d e](m:ops[i]?=some ⟨none,.store t x y,ty,pos,af,none⟩)(h:Region.ready .any ops listed=[i])(a:(listed.setIfInBounds i true).getD z false=true)
    (g:k6 s x=some (.pointer (some ⟨b,o,none⟩))) (f:k6 s y=some (.int .u32 (v:Int)))
    (p:OB w b E l) (j:o<l.length) (k : ∀ w',OB w' b E (l.set o v)->Chg [b] w w'->WK P ops K S z fuel (listed.setIfInBounds i true) n D s w'):WK P ops K S z (fuel+1) listed n D s w:=
  WK.d4q (l:=l.map kZ) (u:=kZ v) i m h a g f rfl p (by simpa using j) λw' hu=>k w' (by have:=hu.at_;rw[<- List.map_set] at this;exact this) hu.chg
theorem WK.after(i:Nat){d:Nat}{v:Value}(f:ops[i]?=some ⟨some d,op,ty,pos,af,none⟩)(b:Region.ready .any ops listed=[i])(a:(listed.setIfInBounds i true).getD z false=true)(g:Ev P s op ty w v w)(h:Nat.blt d n=true)
    (k:WK P ops K S z fuel (listed.setIfInBounds i true) n D ((d,v)::s) w):WK P ops K S z (fuel+1) listed n D s w:=
  WK.one i f b g (λe=>by rw[a] at e;cases e) h k
end
theorem Ev.indexS{t:TypeId}{b:ByteArray}{k:IntKind}{i:Nat}{c:UInt8}{d a:Nat}{z:Value}[hT:aJ P t .string d a z](f:k6 s x=some (.string b))(e:k6 s y=some (.int k (i:Int)))(h:b[i]?=some c):Ev P s (.index t x y) ty w (.int .u8 (c.toNat:Int)) w:=λρ d' pos af g hρ=>by
  have e1:=hρ x _ f
  have e2:=hρ y _ e
  have e3:(0:Int)<=(i:Int):=by omega
  simp[execOp,e1,e2,Instr.index,asIntOf,hT.underlying,h]
end
end Sx
namespace Sx
open Go
theorem qs:(∀ (p:Prop) [Decidable p],(decide p=true)=p)/\(∀ (p:Prop) [Decidable p],(decide p=false) = ¬p)/\(∀ (p:Prop) [Decidable p],(¬¬p)=p)/\(∀ a b:Bool,((a&&b)=true)=(a=true/\b=true))/\(∀ a b:Bool,((a||b)=true)=(a=true\/b=true))/\(∀ b:Bool,((!b)=true)=(b=false))/\(∀ b:Bool,((!b)=false)=(b=true))/\(∀ (α:Type) (a b:α),(a≠b) = ¬a=b)/\(∀ a b:Int,(¬a<b)=(b<=a))/\(∀ a b:Int,(¬a<=b)=(b<a)):=
  ⟨λp _=>by simp,λp _=>by simp,λp _=>by simp[Decidable.not_not],λa b=>by simp,λa b=>by simp,λb=>by simp,λb=>by simp,λ_ a b=>rfl,λa b=>propext Int.not_lt,λa b=>propext Int.not_le⟩
theorem qt:(∀ (x y:Value) (l:List Value),(x::l).set 0 y=y::l)/\(∀ (x y:Value) (l:List Value) (i:Nat),(x::l).set (i+1) y=x::l.set i y)/\(∀ n:Nat,0+n=n)/\(∀ (l:List Value) (i:Nat),splice l i []=l)/\(∀ (l:List Value) (i:Nat) (v:Value) (r:List Value),splice l i (v::r)=splice (l.set i v) (i+1) r):=⟨λ_ _ _=>rfl,λ_ _ _ _=>rfl,Nat.zero_add,λ_ _=>rfl,λ_ _ _ _=>rfl⟩
theorem Chg.s1{T:List Nat}{b:Nat}{a w w':World}(h:Chg T a w)(k:Chg [b] w w')(d:b∈T\/a.heap.size<=b:=by first|exact .inr (by first|assumption|omega)|exact .inl oS):Chg T a w':=
  h.step k λy hy=>by simp only[List.mem_singleton] at hy;subst hy;exact d
section
variable {P:Program} {n:Nat} {D:List Deferred} {s:Sl} {w:World} {ops:Array Oper} {K:KK} {rest:List Oper} {ty:TypeId} {pos:String} {af:Array Edge} {d:Nat} {x:Operand} {v:Value}
theorem Mv(h:k6 s x=some v)(a:Nat.blt d n=true)(k:WL P ops K rest n D ((d,v)::s) w):WL P ops K (⟨some d,.move x,ty,pos,af,none⟩::rest) n D s w:=WL.ev (Ev.move h) a k
theorem As(h:k6 s x=some v)(a:Nat.blt d n=true)(k:WL P ops K rest n D ((d,v)::s) w):WL P ops K (⟨some d,.assign x,ty,pos,af,none⟩::rest) n D s w:=WL.ev (Ev.assign h) a k
theorem Sq{A:AQ}{a:Nat}{l:List Oper}{y:Code}(h : ∀ K:KK,(∀ D s w,CW P y A n D s w->K D s w)->∀ R:KK,(∀ D s w,cjx K A .normal D s w->R D s w)->WL P l.toArray R l n D s w):CW P (.seq (.region a l.toArray false) y) A n D s w:=
  CW.seq λK kh=>CW.region λR kr=>h K kh R kr
end
end Sx
namespace Sx
open Go
section
variable {P:Program} {n:Nat} {D:List Deferred} {s:Sl} {w:World} {ty:TypeId} {x y:Operand} {ops:Array Oper} {K:KK} {rest:List Oper} {pos:String} {af:Array Edge} {d:Nat}
theorem Ev.shlI{t t':TypeId}{a b c:Int}{d:IntKind}(f:k6 s x=some (.int .i64 a))(e:k6 s y=some (.int d b))(h:0<=b)(g:IntKind.i64.wrap (a*2^(min b.toNat 64))=c):Ev P s (.binOp .shl t x y t') ty w (.int .i64 c) w:=by
  subst g
  exact Ev.shl (P:=P) (w:=w) (ty:=ty) (t:=t) (t':=t') f e h
theorem Ev.andI{t t':TypeId}{a b:Nat}(h:k6 s x=some (.int .i64 (a:Int)))(g:k6 s y=some (.int .i64 (b:Int)))(j:a<9223372036854775808)(i:b<9223372036854775808):Ev P s (.binOp .and t x y t') ty w (.int .i64 ((a&&& b:Nat):Int)) w:=by
  have:=Ev.and (P:=P) (w:=w) (ty:=ty) (t:=t) (t':=t') h g
  have f:a<2^IntKind.i64.bits:=by show a<2^64;omega
  have d:b<2^IntKind.i64.bits:=by show b<2^64;omega
  have e:aiq .and .i64 (a:Int) (b:Int)=((a&&& b:Nat):Int):=by
    simp only[aiq,a8x,BitVec.toNat_and,BitVec.toNat_ofNat,Nat.mod_eq_of_lt f,Nat.mod_eq_of_lt d]
    have:a&&& b<2^63:=Nat.and_lt_two_pow _ i
    exact wrap_i64 oO
  rwa [e] at this
theorem Ev.indexAr{t e m p:Nat}{l:List Value}{k:IntKind}{i:Nat}{v:Value}{b:TypeDesc}{ze:Value}{d a:Nat}{z:Value}[hT:aJ P t (.array m e) d a z][hE:aJ P e b 1 p ze](h:k6 s x=some (.agg l.toArray))(f:k6 s y=some (.int k (i:Int)))(n:i<m)(o:c4j b=false)(j:l[i]?=some v):Ev P s (.index t x y) ty w v w:=λρ d' pos af g hρ=>by
  have e1:=hρ x _ h
  have e2:=hρ y _ f
  have e3:(0:Int)<=(i:Int):=by omega
  have e4:(i:Int)<(m:Int):=by omega
  simp[execOp,e1,e2,Instr.index,asIntOf,hT.underlying,e3,e4,hE.sizeOf,part,hE.isAgg,o,j,n]
theorem Ev.buildA{t e m:Nat}{k:TypeDesc}{b l:Nat}{ze:Value}{f d:Nat}{z:Value}{a:List (Nat×Operand)}{vs:List (Nat×Value)}{cs:List Value}[hT:aJ P t (.array m e) f d z][hE:aJ P e k b l ze]
    (h:boj s a=some vs) (j:Instr.fill (λi=>some (i*b,b)) z.cells vs=some cs.toArray):Ev P s (.build t a.toArray) ty w (.agg cs.toArray) w:=λρ d' pos af g hρ=>by
  have h1:=boq hρ a vs h
  simp[execOp,Instr.build,hT.zero,hT.underlying,hE.sizeOf,h1,j]
def FB(w:World)(b:Nat)(E:TypeId)(l:List Nat):Prop:=w.heap[b]?=some (.cells (l.map bkx).toArray E (0,0))
theorem FB.row{b:Nat}{E:TypeId}{l:List Nat}(h:FB w b E l):RW w (some ⟨b,0,none⟩) (l.map bkx):=RW.of_heap h
theorem FB.dJ{b:Nat}{E:TypeId}{l:List Nat}{T:List Nat}{w':World}(h:FB w b E l)(a:Chg T w w')(hT:b∉T):FB w' b E l:=a.heap h hT
theorem FB.q8{b:Nat}{E:TypeId}{l:List Nat}{w':World}(h:FB w b E l)(a:Chg [] w w'):FB w' b E l:=a.heap h oS
theorem FB.lt{b:Nat}{E:TypeId}{l:List Nat}(h:FB w b E l):b<w.heap.size:=a0q h
theorem madeF{z:Value}(a:z.cells = #[.float .f64 0])(n:Nat):madeCells z.cells (n*1)=((List.replicate n 0).map bkx).toArray:=by
  rw[a,Nat.mul_one]
  apply Array.ext'
  simp[madeCells,List.map_replicate,bkx,Nat.mod_one,List.map_const']
theorem WL.makeF(j i:Nat){t:TypeId}{e a:Nat}{o p:IntKind}{l c:Int}{m g:Nat}{z:Value}[hT:aJ P t (.slice e) m g z][hE:aJ P e (.float .f64) 1 a (.float .f64 0)](r:k6 s x=some (.int o l))(q:k6 s y=some (.int p c))
    (v:l=(j:Int)) (B:c=(i:Int)) (u:j<=i) (F:a*i<=281474976710656) (C:i<=281474976710656) (A:Nat.blt d n=true)
    (k : ∀ b w',FB w' b e (List.replicate i 0)->Chg [] w w'->w.heap.size<=b->WL P ops K rest n D ((d,.slice (some ⟨b,0,none⟩) j i)::s) w'):WL P ops K (⟨some d,.makeSlice t x y,ty,pos,af,none⟩::rest) n D s w:=by
  subst v;subst B
  refine WL.make (hT:=hT) (hE:=hE) r q oO oO (by rw[show (a:Int)*(i:Int)=((a*i:Nat):Int) by simp];omega) oO A λb w' f=>?_
  have h:=f.at_
  rw[show (i:Int).toNat=i by omega,madeF (by rfl)] at h
  exact k b w' h f.chg f.ge
theorem WL.appendF{t e V:Nat}{ze:Value}{F q:Nat}{z:Value}{b m cap c2:Nat}{l:List Nat}{v:Nat}{r:Addr}[hT:aJ P t (.slice e) F q z][hE:aJ P e (.float .f64) 1 V ze]
    (H:k6 s x=some (.slice (some ⟨b,0,none⟩) m cap)) (G:k6 s y=some (.slice (some r) 1 c2)) (p:FB w b e l) (R:w.cell? r=some (.float .f64 v)) (f:m+1<=cap) (C:m<l.length) (Q:Nat.blt d n=true)
    (k : ∀ w',FB w' b e (l.set m v)->Chg [b] w w'->WL P ops K rest n D ((d,.slice (some ⟨b,0,none⟩) (m+1) cap)::s) w'):WL P ops K (⟨some d,.call ⟨.builtin .append,[x,y].toArray,#[t,t]⟩,ty,pos,af,none⟩::rest) n D s w:=by
  obtain ⟨i,O,h,M,J⟩:=hE.inf
  have o:=bex w b m (l.map bkx) e (bkx v) p
  have a:=run_append_room_cells (P:=P) w t ty e i hT.und O b 0 m cap r 1 c2 [bkx v] (by simp[h]) (λj u o=>by
      cases j with
      | zero=>simp at o;subst o;simpa[Addr.add,bkx] using R
      | succ j=>simp at o) (by simp;rfl) f (λj B=>by
      have:j=0:=by simpa using B
      subst this
      rw[h,a7j p];simp;omega) (λj B=>b7j p)
  have I:w.setCells b (0+m*i.size) [bkx v]=w.setCell ⟨b,m,none⟩ (bkx v):=by
    rw[h];simp[World.setCells]
  rw[I] at a
  refine WL.ev (v:=.slice (some ⟨b,0,none⟩) (m+1) cap) (w':=w.setCell ⟨b,m,none⟩ (bkx v)) (λρ X pos af g A=>?_) Q (k _ ?_ o.chg)
  · have U:=A x _ H
    have T:=A y _ G
    simp[execOp,resolve,invoke,builtin,U,T,a]
  · have:=o.at_;rw[<- List.map_set] at this;exact this
section
variable {P:Program} {ops:Array Oper} {Q:Exit->Act->World->Prop} {S:World->Prop} {z:Nat}
theorem anyK_firstT{i:Nat}{p:Oper}{v:Value}(F:ops[i]?=some p)(g:Region.noSelect ops=true)(V : ∀ c a w,Q (.panic c) (a.put p.dst v) w->Q (.panic c) a w)(B:z≠i):
    ∀ (fuel:Nat) (listed:Array Bool) (a:Act) (w:World),(∀ j oj,ops[j]?=some oj->j≠i->listed.getD j true=false->(∀ e∈oj.after,Region.binds .any e=true->e.on≠i)->p.apart ops oj=true)->
      i∈Region.ready .any ops listed->YieldsIf P ops (λ_=>True) p v a->(listed.getD z false=false->S w)->anyK P ops Q S z fuel (listed.setIfInBounds i true) (a.put p.dst v) w->anyK P ops Q S z (fuel+1) listed a w:=by
  have d : ∀ (listed:Array Bool),(listed.setIfInBounds i true).getD z false=listed.getD z false:=λlisted=>getD_set_ne false (Ne.symm B)
  intro fuel
  induction fuel with
  | zero=>
    intro listed a w _ m x I H
    refine ⟨λh=>(by rw[h] at m;cases m),λj y=>?_⟩
    by_cases e:j=i
    · subst e;exact x.wpOp F trivial ⟨λq=>I (by rw[<- d];exact q),H⟩
    · have:=ready_mono y e
      rw[H.1] at this;cases this
  | succ fuel ih=>
    intro listed a w f m x I H
    refine ⟨λh=>(by rw[h] at m;cases m),λj y=>?_⟩
    by_cases e:j=i
    · subst e;exact x.wpOp F trivial ⟨λq=>I (by rw[<- d];exact q),H⟩
    · have o:=H.2 j (ready_mono y e)
      obtain ⟨l,oj,n,u⟩:=mem_ready.1 y
      have s : ∀ e∈oj.after,Region.binds .any e=true->e.on≠i:=λe T U G=>by
        have o:=u e T U
        have M:=(mem_ready.1 m).1
        rw[G] at o
        rcases Nat.lt_or_ge i listed.size with q|q
        · simp[q] at M o;rw[M] at o;cases o
        · simp[Array.getElem?_eq_none q] at o
      have X:=wpOp_putIf n (f j oj n e l s) (λJ b=>Region.noSelect_spec g i p J b F) (λJ b=>Region.noSelect_spec g j oj J b n) V x o
      have t:((listed.setIfInBounds i true).setIfInBounds j true).getD z false=(listed.setIfInBounds j true).getD z false:=by
        rw[Array.setIfInBounds_comm _ _ (Ne.symm e)];exact d _
      refine wpOp_mono (λY O A=>⟨λq=>A.2.1 (by rw[t];exact q),ih (listed.setIfInBounds j true) Y O (λk ok R D r C=>f k ok R D ?_ C) (ready_mono m (Ne.symm e)) A.1 (λq=>A.2.1 (by rw[t];exact q)) ?_⟩) X
      · by_cases hjk:j=k
        · subst hjk;exact l
        · rw[getD_set_ne true hjk] at r;exact r
      · rw[Array.setIfInBounds_comm _ _ e]
        exact A.2.2
end
theorem WK.takeT{S:World->Prop}{z fuel:Nat}{b:Array Bool}{g:Op}{v:Value}(i:Nat)(j:ops[i]?=some ⟨some d,g,ty,pos,af,none⟩)(l:Region.noSelect ops=true)(o:Region.free .any ops b i=true)(m:(Region.ready .any ops b).contains i=true)(f:Nat.beq z i=false)
    (r:b.getD z false=false->S w) (p : ∀ w,Ev P s g ty w v w) (q:Nat.blt d n=true) (k:WK P ops K S z fuel (b.setIfInBounds i true) n D ((d,v)::s) w):WK P ops K S z (fuel+1) b n D s w:=λa ha=>
  anyK_firstT j l (λc a w h=>h.elim) (λe=>by rw[e] at f;simp at f) fuel b a w (Region.free_spec j o) (by simpa using m) (.inl ⟨by simp[Region.wanted],λw' hw'=>p w' a.eval (some d) pos af none λx u hx=>ha.eval hx⟩) r (k _ (ha.put q v))
def TB(w:World)(b:Nat)(T:TypeId)(L:List Nat)(R:List Value):Prop:=BK w b T (L.map u64v++R)
section
variable {b:Nat} {T:TypeId} {L:List Nat} {R:List Value}
theorem TB.dJ{U:List Nat}{w':World}(h:TB w b T L R)(a:Chg U w w')(hT:b∉U):TB w' b T L R:=a.heap h hT
theorem TB.q8{w':World}(h:TB w b T L R)(a:Chg [] w w'):TB w' b T L R:=a.heap h oS
end
theorem WS.afq{a:List Deferred->Sl->Prop}{b:Bool}(e:b=true->WS P ops a rest n D ((d,.bool true)::s) w)(f:b=false->WS P ops a rest n D ((d,.bool false)::s) w):WS P ops a rest n D ((d,.bool b)::s) w:=by
  cases b
  · exact f rfl
  · exact e rfl
end
end Sx
namespace Sx
open Go
section
variable {P:Program} {n:Nat} {D:List Deferred} {s:Sl} {w:World}
theorem CW.azx{A:AQ}{x y:Code}(c:Nat)(b:Bool)(d:Chg [] w w->CW P x (cjx (λD' s' w'=>D'=D/\Chg [] w w'/\j0 ((c,.bool b)::s) s') A) n D s w)(a : ∀ w',Chg [] w w'->CW P y A n D ((c,.bool b)::s) w'):CW P (.seq x y) A n D s w:=
  CW.anj _ (d (Chg.refl _ _)) λD' s' w' ⟨h1,h2,h3⟩=>by subst h1;exact (a w' h2).sub h3
end
section
variable {P:Program} {n:Nat} {D:List Deferred} {s:Sl} {w:World} {ops:Array Oper} {K:KK} {S:World->Prop} {fuel:Nat} {listed:Array Bool}
variable {op:Op} {ty:TypeId} {pos:String} {af:Array Edge} {d:Nat}
theorem WH.passG(i:Nat){j:Nat}{b:Bool}{g:Oper}{x:Bool}{t:Nat}(o:ops[i]?=some ⟨some d,op,ty,pos,af,some (j,b)⟩)(l:Region.noSelect ops=true)(q:Region.free .any ops listed i=true)(m:(Region.ready .any ops listed).contains i=true)
    (p:ops[j]?=some g) (f:g.dst=some t) (e:look s t=some (.bool x)) (u:(x==b)=false)
    (v:S w) (r:Nat.blt d n=true) (k:WH P ops K S fuel (listed.setIfInBounds i true) n D ((d,undef)::s) w):WH P ops K S (fuel+1) listed n D s w:=λa ha=>
  wpAnyH_take o l q m (λc a w h=>h.elim) (.inr ⟨by rw[arj ha p f e];exact u,rfl⟩) v (k _ (ha.put r undef))
theorem WH.a0x(i:Nat){j:Nat}{b:Bool}{g:Oper}{x:Bool}{t:Nat}(l:ops[i]?=some ⟨some d,op,ty,pos,af,some (j,b)⟩)(h:Region.ready .any ops listed=[i])
    (m:ops[j]?=some g) (f:g.dst=some t) (e:look s t=some (.bool x)) (p:(x==b)=false)
    (q:S w) (o:Nat.blt d n=true) (k:WH P ops K S fuel (listed.setIfInBounds i true) n D ((d,undef)::s) w):WH P ops K S (fuel+1) listed n D s w:=λa ha=>
  wpAnyH_all h oS λj' hj=>by
    obtain rfl:j'=i:=by simpa using hj
    unfold wpOp
    simp only[l]
    rw[if_neg (by rw[arj ha m f e,p];simp)]
    exact ⟨q,k _ (ha.put o undef)⟩
end
end Sx
namespace Sx
open Go
section
variable {P:Program} {A:AQ} {n:Nat} {D:List Deferred} {s:Sl} {w:World} {ops:Array Oper} {K:KK} {rest:List Oper} {ty t t':TypeId} {pos:String} {af:Array Edge} {dst:Option Tmp} {d j i:Nat} {b:Bool} {v:Value} {x y c:Operand} {op:Op}
theorem zm(h:k6 s x=some v)(k:WL P ops K rest n D ((d,v)::s) w)(a:Nat.blt d n=true:=by rfl):WL P ops K (⟨some d,.move x,ty,pos,af,none⟩::rest) n D s w:=WL.ev (Ev.move h) a k
theorem za(h:k6 s x=some v)(k:WL P ops K rest n D ((d,v)::s) w)(a:Nat.blt d n=true:=by rfl):WL P ops K (⟨some d,.assign x,ty,pos,af,none⟩::rest) n D s w:=WL.ev (Ev.assign h) a k
theorem zx{l:List Value}(h:k6 s x=some (.tuple l.toArray))(a:l[i]?=some v)(k:WL P ops K rest n D ((d,v)::s) w)(b:Nat.blt d n=true:=by rfl):WL P ops K (⟨some d,.extract x i,ty,pos,af,none⟩::rest) n D s w:=WL.ev (Ev.extract h a) b k
theorem zf{b o a:Nat}[hF:eJ P t i a](e:k6 s x=some (.pointer (some ⟨b,o,none⟩)))(k:WL P ops K rest n D ((d,.pointer (some ⟨b,o+a,none⟩))::s) w)(f:Nat.blt d n=true:=by rfl):WL P ops K (⟨some d,.fieldAddr t x i,ty,pos,af,none⟩::rest) n D s w:=WL.ev (Ev.fieldAddr e) f k
theorem zl{e:TypeDesc}{f a b:Nat}{z:Value}{T:TypeId}{l:List Value}{o:Nat}[hT:aJ P t e f a z](m:BK w b T l)(g:k6 s x=some (.pointer (some ⟨b,o,none⟩)))(h:l[o]?=some v)(k:WL P ops K rest n D ((d,v)::s) w)(i:c4j e=false:=by rfl)(j:Nat.blt d n=true:=by rfl):WL P ops K (⟨some d,.load t x,ty,pos,af,none⟩::rest) n D s w:=WL.ev (Ev.load i g (m.at_ h)) j k
theorem zg{f:TypeDesc}{e a b:Nat}{z:Value}{T:TypeId}{l:List Value}[hT:aJ P t f e a z](m:BK w b T l)(g:k6 s x=some (.pointer (some ⟨b,0,none⟩)))(k:WL P ops K rest n D ((d,.agg l.toArray)::s) w)(i:c4j f=true:=by rfl)(h:l.length=e:=by rfl)(j:Nat.blt d n=true:=by rfl):WL P ops K (⟨some d,.load t x,ty,pos,af,none⟩::rest) n D s w:=WL.ev (Ev.rZ i g m h) j k
theorem zt{p q:Operand}(b:k6 s c=some (.bool true))(e:k6 s p=some v)(k:WL P ops K rest n D ((d,v)::s) w)(a:Nat.blt d n=true:=by rfl):WL P ops K (⟨some d,.pick c p q,ty,pos,af,none⟩::rest) n D s w:=WL.ev (Ev.aeq b rfl e) a k
theorem ze{p q:Operand}(b:k6 s c=some (.bool false))(e:k6 s q=some v)(k:WL P ops K rest n D ((d,v)::s) w)(a:Nat.blt d n=true:=by rfl):WL P ops K (⟨some d,.pick c p q,ty,pos,af,none⟩::rest) n D s w:=WL.ev (Ev.aox b rfl e) a k
theorem zn{a:Option Addr}{m c e:Nat}{f b:Nat}{z:Value}[hT:aJ P t (.slice e) f b z](g:k6 s x=some (.slice a m c))(k:WL P ops K rest n D ((d,.int .i64 (m:Int))::s) w)(h:Nat.blt d n=true:=by rfl):WL P ops K (⟨some d,.call ⟨.builtin .len,[x].toArray,#[t]⟩,ty,pos,af,none⟩::rest) n D s w:=WL.ev (Ev.len g) h k
theorem zq{q:IntKind}{a b:Int}(f:k6 s x=some (.int q a))(e:k6 s y=some (.int q b))(k:WL P ops K rest n D ((d,.bool (decide (a=b)))::s) w)(g:Nat.blt d n=true:=by rfl):WL P ops K (⟨some d,.binOp .eql t x y t',ty,pos,af,none⟩::rest) n D s w:=WL.ev (Ev.eql f e) g k
theorem zL{q:IntKind}{a b:Int}(f:k6 s x=some (.int q a))(e:k6 s y=some (.int q b))(k:WL P ops K rest n D ((d,.bool (decide (a<b)))::s) w)(g:Nat.blt d n=true:=by rfl):WL P ops K (⟨some d,.binOp .lss t x y t',ty,pos,af,none⟩::rest) n D s w:=WL.ev (Ev.lss f e) g k
theorem zG{q:IntKind}{a b:Int}(f:k6 s x=some (.int q a))(e:k6 s y=some (.int q b))(k:WL P ops K rest n D ((d,.bool (decide (b<a)))::s) w)(g:Nat.blt d n=true:=by rfl):WL P ops K (⟨some d,.binOp .gtr t x y t',ty,pos,af,none⟩::rest) n D s w:=WL.ev (Ev.gtr f e) g k
theorem zN{q:IntKind}{a b:Int}(f:k6 s x=some (.int q a))(e:k6 s y=some (.int q b))(k:WL P ops K rest n D ((d,.bool (decide (a≠b)))::s) w)(g:Nat.blt d n=true:=by rfl):WL P ops K (⟨some d,.binOp .neq t x y t',ty,pos,af,none⟩::rest) n D s w:=WL.ev (Ev.neq f e) g k
theorem zQ{q:IntKind}{a b:Int}(f:k6 s x=some (.int q a))(e:k6 s y=some (.int q b))(k:WL P ops K rest n D ((d,.bool (decide (a<=b)))::s) w)(g:Nat.blt d n=true:=by rfl):WL P ops K (⟨some d,.binOp .leq t x y t',ty,pos,af,none⟩::rest) n D s w:=WL.ev (Ev.leq f e) g k
theorem zP{a:Addr}(h:k6 s x=some (.pointer (some a)))(k:WL P ops K rest n D ((d,.pointer (some a))::s) w)(b:Nat.blt d n=true:=by rfl):WL P ops K (⟨some d,.nilCheck x,ty,pos,af,none⟩::rest) n D s w:=WL.ev (Ev.nilPtr h) b k
theorem zT{b:Bool}(h:k6 s x=some (.bool b))(k:WL P ops K rest n D ((d,.bool !b)::s) w)(a:Nat.blt d n=true:=by rfl):WL P ops K (⟨some d,.unOp .not t x,ty,pos,af,none⟩::rest) n D s w:=WL.ev (Ev.not h) a k
def gdOf(ops:Array Oper)(j:Nat)(s:Sl):Option Value:=
  match ops[j]? with
  | some g=>match g.dst with
    | some t=>look s t
    | none=>none
  | none=>none
theorem a8j(h:gdOf ops j s=some v): ∃ g t,ops[j]?=some g/\g.dst=some t/\look s t=some v:=by
  unfold gdOf at h
  split at h
  · rename_i g hg
    split at h
    · rename_i t ht;exact ⟨g,t,hg,ht,h⟩
    · cases h
  · cases h
theorem zw{q:Bool}(h:gdOf ops j s=some (.bool q))(k:WL P ops K (⟨dst,op,ty,pos,af,none⟩::rest) n D s w)(a:(q==b)=true:=by rfl):WL P ops K (⟨dst,op,ty,pos,af,some (j,b)⟩::rest) n D s w:=by
  obtain ⟨g,t,f,e,d⟩:=a8j h
  exact WL.want f e d a k
theorem zv{q:Bool}(h:gdOf ops j s=some (.bool q))(k:WL P ops K rest n D ((d,undef)::s) w)(e:(q==b)=false:=by rfl)(a:Nat.blt d n=true:=by rfl):WL P ops K (⟨some d,op,ty,pos,af,some (j,b)⟩::rest) n D s w:=by
  obtain ⟨g,t,l,i,f⟩:=a8j h
  exact WL.pass l i f e a k
theorem zu(h:gdOf ops j s=some undef)(k:WL P ops K rest n D ((d,undef)::s) w)(a:Nat.blt d n=true:=by rfl):WL P ops K (⟨some d,op,ty,pos,af,some (j,b)⟩::rest) n D s w:=by
  obtain ⟨g,t,i,f,e⟩:=a8j h
  exact WL.passU i f e a k
theorem zz(h:K D s w):WL P ops K [] n D s w:=WL.nil h
theorem Sr{a:Nat}{l:List Oper}{y:Code}(h : ∀ R:KK,(∀ {D s w},CW P y A n D s w->R D s w)->WL P l.toArray R l n D s w):CW P (.seq (.region a l.toArray false) y) A n D s w:=
  CW.seq λK kh=>CW.region λR kr=>h R λhc=>kr _ _ _ (kh _ _ _ hc)
theorem zc{x y:Code}(h : ∀ K:KK,(∀ {D s w},CW P y A n D s w->K D s w)->CW P x (cjx K A) n D s w):CW P (.seq x y) A n D s w:=CW.seq λK kh=>h K λhc=>kh _ _ _ hc
theorem BK.kq{b:Nat}{T:TypeId}{l:List Value}{U:List Nat}{w':World}(h:BK w b T l)(a:Chg U w w')(hT:b∉U:=by simp;omega):BK w' b T l:=h.dJ a hT
theorem OB.kq{b:Nat}{E:TypeId}{l:List Nat}{U:List Nat}{w':World}(h:OB w b E l)(a:Chg U w w')(hT:b∉U:=by simp;omega):OB w' b E l:=h.dJ a hT
theorem FB.kq{b:Nat}{E:TypeId}{l:List Nat}{U:List Nat}{w':World}(h:FB w b E l)(a:Chg U w w')(hT:b∉U:=by simp;omega):FB w' b E l:=h.dJ a hT
theorem TB.kq{b:Nat}{T:TypeId}{L:List Nat}{R:List Value}{U:List Nat}{w':World}(h:TB w b T L R)(a:Chg U w w')(hT:b∉U:=by simp;omega):TB w' b T L R:=h.dJ a hT
theorem Chg.s2{T:List Nat}{b:Nat}{a w w':World}(h:Chg T a w)(k:Chg [b] w w')(d:a.heap.size<=b:=by first|assumption|omega):Chg T a w':=h.s1 k (.inr d)
theorem AqE{α:Type}{a b:α}(h:a=b:=by first|(simp_all;done)|(refine decide_eq_decide.2 ?_;omega)|(refine (decide_eq_true ?_).symm;omega)|(refine (decide_eq_false ?_).symm;omega)):a=b:=h
theorem crf(w:World):Chg [] w w:=Chg.refl _ _
theorem Chg.ta{T:List Nat}{w' a:World}(h:Chg T w w')(b:Chg [] w' a):Chg T w a:=h.trans (Chg.any b)
theorem zdd{a b q:Nat}(e:a<q)(d:q<=b):a≠b:=by omega
theorem zi{a b:Int}(f:k6 s x=some (.int .i64 a))(e:k6 s y=some (.int .i64 b))(k:WL P ops K rest n D ((d,.int .i64 (a+b))::s) w)(h : -9223372036854775808<=a+b/\a+b<=9223372036854775807:=by omega)(g:Nat.blt d n=true:=by rfl):WL P ops K (⟨some d,.binOp .add t x y t',ty,pos,af,none⟩::rest) n D s w:=WL.ev (Ev.kQ f e h) g k
theorem zo{q:IntKind}{a b:Int}(f:k6 s x=some (.int q a))(e:k6 s y=some (.int q b))(k:WL P ops K rest n D ((d,.int q (q.wrap (a+b)))::s) w)(g:Nat.blt d n=true:=by rfl):WL P ops K (⟨some d,.binOp .add t x y t',ty,pos,af,none⟩::rest) n D s w:=WL.ev (Ev.add f e) g k
theorem zy{x y:Code}{b:Bool}(e:k6 s c=some (.bool b))(a:b=true->CW P x A n D s w)(d:b=false->CW P y A n D s w):CW P (.cond c x y) A n D s w:=CW.cond e a d
theorem zr(h:A .ret D s w):CW P .ret A n D s w:=CW.ret h
theorem zr1{a:Func}{R:Value->World->Prop}{t:Nat}{v:Value}(d:a.results = #[.tmp t])(b:look s t=some v)(h:R v w):k9 P a n R .ret [] s w:=k9.ret1 d b h
theorem zr2{a:Func}{R:Value->World->Prop}{t u:Nat}{v x:Value}(e:a.results = #[.tmp t,.tmp u])(d:look s t=some v)(b:look s u=some x)(h:R (.tuple #[v,x]) w):k9 P a n R .ret [] s w:=k9.ret2 e d b h
theorem BK.k0{b:Nat}{T:TypeId}{l:List Value}{w':World}(h:BK w b T l)(a:Chg [] w w'):BK w' b T l:=h.q8 a
theorem OB.k0{b:Nat}{E:TypeId}{l:List Nat}{w':World}(h:OB w b E l)(a:Chg [] w w'):OB w' b E l:=h.q8 a
theorem FB.k0{b:Nat}{E:TypeId}{l:List Nat}{w':World}(h:FB w b E l)(a:Chg [] w w'):FB w' b E l:=h.q8 a
theorem TB.k0{b:Nat}{T:TypeId}{L:List Nat}{R:List Value}{w':World}(h:TB w b T L R)(a:Chg [] w w'):TB w' b T L R:=h.q8 a
theorem zss{q:TypeDesc}{d a:Nat}{z:Value}{b i:Nat}{l e vs:List Value}{T:TypeId}[hT:aJ P t q d a z](g:k6 s x=some (.pointer (some ⟨b,i,none⟩)))(f:k6 s y=some (.agg vs.toArray))(p : ∀ v∈vs,v.oneCell'=true)(o:BK w b T l)(m:splice l i vs=e)(k : ∀ w',BK w' b T e->Chg [b] w w'->WL P ops K rest n D s w')(h:vs.length=d:=by rfl)(j:i+vs.length<=l.length:=by simp):WL P ops K (⟨none,.store t x y,ty,pos,af,none⟩::rest) n D s w:=WL.nZ g f h p o j m k
theorem zS{a:Nat}{l:List Oper}(h : ∀ R:KK,(∀ {D s w},A .normal D s w->R D s w)->WL P l.toArray R l n D s w):CW P (.region a l.toArray false) A n D s w:=CW.region λR kr=>h R λhc=>kr _ _ _ hc
theorem zkk(h:A .normal D s w):CW P .skip A n D s w:=CW.skip h
theorem zb{b:Bool}(a:b=true->WL P ops K rest n D ((d,.bool true)::s) w)(e:b=false->WL P ops K rest n D ((d,.bool false)::s) w):WL P ops K rest n D ((d,.bool b)::s) w:=WL.afq a e
theorem zR{a:Nat}{l:List Oper}(h : ∀ R:KK,(∀ D s w,A .normal D s w->R D s w)->WL P l.toArray R l n D s w):CW P (.region a l.toArray false) A n D s w:=CW.region h
variable {S:World->Prop} {z:Nat} {fuel:Nat} {listed:Array Bool} {R:KK}
theorem wk(i:Nat)(h:ops[i]?=some ⟨some d,op,ty,pos,af,none⟩)(o:S w)(l : ∀ w,S w->Ev P s op ty w v w)(k:WK P ops R S z fuel (listed.setIfInBounds i true) n D ((d,v)::s) w)(f:Region.noSelect ops=true:=by kernel_rfl)(j:Region.free .any ops listed i=true:=by kernel_rfl)(g:(Region.ready .any ops listed).contains i=true:=by kernel_rfl)(e:Region.waitsFor .any ops z i=true:=by kernel_rfl)(a:Nat.beq z i=false:=by kernel_rfl)(b:listed.getD z false=false:=by kernel_rfl)(m:Nat.blt d n=true:=by rfl):WK P ops R S z (fuel+1) listed n D s w:=
  WK.take i h f j g e a b o l m k
theorem wh(i:Nat)(e:ops[i]?=some ⟨some d,op,ty,pos,af,none⟩)(j:S w)(g : ∀ w,S w->Ev P s op ty w v w)(k:WH P ops R S fuel (listed.setIfInBounds i true) n D ((d,v)::s) w)(a:Region.noSelect ops=true:=by kernel_rfl)(f:Region.free .any ops listed i=true:=by kernel_rfl)(b:(Region.ready .any ops listed).contains i=true:=by kernel_rfl)(h:Nat.blt d n=true:=by rfl):WH P ops R S (fuel+1) listed n D s w:=
  WH.take i e a f b j g h k
theorem wt(i:Nat)(f:ops[i]?=some ⟨some d,op,ty,pos,af,none⟩)(l:listed.getD z false=false->S w)(h : ∀ w,Ev P s op ty w v w)(k:WK P ops R S z fuel (listed.setIfInBounds i true) n D ((d,v)::s) w)(b:Region.noSelect ops=true:=by kernel_rfl)(g:Region.free .any ops listed i=true:=by kernel_rfl)(e:(Region.ready .any ops listed).contains i=true:=by kernel_rfl)(a:Nat.beq z i=false:=by kernel_rfl)(j:Nat.blt d n=true:=by rfl):WK P ops R S z (fuel+1) listed n D s w:=
  WK.takeT i f b g e a l h j k
theorem wg(i:Nat){j:Nat}{b:Bool}{g:Oper}{x:Bool}{t:Nat}(l:ops[i]?=some ⟨some d,op,ty,pos,af,some (j,b)⟩)(m:ops[j]?=some g)(e:g.dst=some t)(a:look s t=some (.bool x))(r:(x==b)=true)(u:S w)(p : ∀ w,S w->Ev P s op ty w v w)(k:WH P ops R S fuel (listed.setIfInBounds i true) n D ((d,v)::s) w)(f:Region.noSelect ops=true:=by kernel_rfl)(o:Region.free .any ops listed i=true:=by kernel_rfl)(h:(Region.ready .any ops listed).contains i=true:=by kernel_rfl)(q:Nat.blt d n=true:=by rfl):WH P ops R S (fuel+1) listed n D s w:=
  WH.takeG i l f o h m e a r u p q k
theorem wp(i:Nat){j:Nat}{b:Bool}{g:Oper}{x:Bool}{t:Nat}(l:ops[i]?=some ⟨some d,op,ty,pos,af,some (j,b)⟩)(m:ops[j]?=some g)(e:g.dst=some t)(a:look s t=some (.bool x))(q:(x==b)=false)(r:S w)(k:WH P ops R S fuel (listed.setIfInBounds i true) n D ((d,undef)::s) w)(f:Region.noSelect ops=true:=by kernel_rfl)(o:Region.free .any ops listed i=true:=by kernel_rfl)(h:(Region.ready .any ops listed).contains i=true:=by kernel_rfl)(p:Nat.blt d n=true:=by rfl):WH P ops R S (fuel+1) listed n D s w:=
  WH.passG i l f o h m e a q r p k
variable {K':List Deferred->Sl->Prop}
theorem yf{b o a:Nat}[hF:eJ P t i a](e:k6 s x=some (.pointer (some ⟨b,o,none⟩)))(k:WS P ops K' rest n D ((d,.pointer (some ⟨b,o+a,none⟩))::s) w)(f:Nat.blt d n=true:=by rfl):WS P ops K' (⟨some d,.fieldAddr t x i,ty,pos,af,none⟩::rest) n D s w:=WS.ev (Ev.fieldAddr e) f k
theorem yP{a:Addr}(h:k6 s x=some (.pointer (some a)))(k:WS P ops K' rest n D ((d,.pointer (some a))::s) w)(b:Nat.blt d n=true:=by rfl):WS P ops K' (⟨some d,.nilCheck x,ty,pos,af,none⟩::rest) n D s w:=WS.ev (Ev.nilPtr h) b k
theorem eM(h:k6 s x=some v): ∀ w,S w->Ev P s (.move x) ty w v w:=λ_ _=>Ev.move h
theorem eA(h:k6 s x=some v): ∀ w,S w->Ev P s (.assign x) ty w v w:=λ_ _=>Ev.assign h
theorem eP{a:Addr}(h:k6 s x=some (.pointer (some a))): ∀ w,S w->Ev P s (.nilCheck x) ty w (.pointer (some a)) w:=λ_ _=>Ev.nilPtr h
theorem eF{b o a:Nat}[hF:eJ P t i a](d:k6 s x=some (.pointer (some ⟨b,o,none⟩))): ∀ w,S w->Ev P s (.fieldAddr t x i) ty w (.pointer (some ⟨b,o+a,none⟩)) w:=λ_ _=>Ev.fieldAddr d
theorem eX{l:List Value}(h:k6 s x=some (.tuple l.toArray))(a:l[i]?=some v): ∀ w,S w->Ev P s (.extract x i) ty w v w:=λ_ _=>Ev.extract h a
theorem ym(h:k6 s x=some v)(k:WS P ops K' rest n D ((d,v)::s) w)(a:Nat.blt d n=true:=by rfl):WS P ops K' (⟨some d,.move x,ty,pos,af,none⟩::rest) n D s w:=WS.ev (Ev.move h) a k
theorem ya(h:k6 s x=some v)(k:WS P ops K' rest n D ((d,v)::s) w)(a:Nat.blt d n=true:=by rfl):WS P ops K' (⟨some d,.assign x,ty,pos,af,none⟩::rest) n D s w:=WS.ev (Ev.assign h) a k
theorem yt{p q:Operand}(b:k6 s c=some (.bool true))(e:k6 s p=some v)(k:WS P ops K' rest n D ((d,v)::s) w)(a:Nat.blt d n=true:=by rfl):WS P ops K' (⟨some d,.pick c p q,ty,pos,af,none⟩::rest) n D s w:=WS.ev (Ev.aeq b rfl e) a k
theorem ye{p q:Operand}(b:k6 s c=some (.bool false))(e:k6 s q=some v)(k:WS P ops K' rest n D ((d,v)::s) w)(a:Nat.blt d n=true:=by rfl):WS P ops K' (⟨some d,.pick c p q,ty,pos,af,none⟩::rest) n D s w:=WS.ev (Ev.aox b rfl e) a k
theorem yn{a:Option Addr}{m c e:Nat}{f b:Nat}{z:Value}[hT:aJ P t (.slice e) f b z](g:k6 s x=some (.slice a m c))(k:WS P ops K' rest n D ((d,.int .i64 (m:Int))::s) w)(h:Nat.blt d n=true:=by rfl):WS P ops K' (⟨some d,.call ⟨.builtin .len,[x].toArray,#[t]⟩,ty,pos,af,none⟩::rest) n D s w:=WS.ev (Ev.len g) h k
theorem yw{q:Bool}(h:gdOf ops j s=some (.bool q))(k:WS P ops K' (⟨dst,op,ty,pos,af,none⟩::rest) n D s w)(a:(q==b)=true:=by rfl):WS P ops K' (⟨dst,op,ty,pos,af,some (j,b)⟩::rest) n D s w:=by
  obtain ⟨g,t,f,e,d⟩:=a8j h
  exact WS.want f e d a k
theorem yv{q:Bool}(h:gdOf ops j s=some (.bool q))(k:WS P ops K' rest n D ((d,undef)::s) w)(e:(q==b)=false:=by rfl)(a:Nat.blt d n=true:=by rfl):WS P ops K' (⟨some d,op,ty,pos,af,some (j,b)⟩::rest) n D s w:=by
  obtain ⟨g,t,l,i,f⟩:=a8j h
  exact WS.pass l i f e a k
theorem yu(h:gdOf ops j s=some undef)(k:WS P ops K' rest n D ((d,undef)::s) w)(a:Nat.blt d n=true:=by rfl):WS P ops K' (⟨some d,op,ty,pos,af,some (j,b)⟩::rest) n D s w:=by
  obtain ⟨g,t,i,f,e⟩:=a8j h
  exact WS.passU i f e a k
end
section
variable {P:Program} {n:Nat} {D:List Deferred} {s:Sl} {w w0:World} {ops:Array Oper} {K:KK} {rest:List Oper} {ty:TypeId} {pos:String} {af:Array Edge} {d:Nat} {x:Operand} {fn:Func} {R:Value->World->Prop} {f:FuncId} {c:Code} {T:List Nat}
theorem zE0(b:P.funcs[f]?=some fn)(d:fn.body=some c)(h:CW P c (k9 P fn fn.ntmps R) fn.ntmps [] [] w)(a:Nat.ble 0 fn.ntmps=true:=by rfl):Ret P f [] w R:=Ret.enter b d a h
theorem zE1{a:Value}(d:P.funcs[f]?=some fn)(e:fn.body=some c)(h:CW P c (k9 P fn fn.ntmps R) fn.ntmps [] [(0,a)] w)(b:Nat.ble 1 fn.ntmps=true:=by rfl):Ret P f [a] w R:=Ret.enter d e b h
theorem zE2{a b:Value}(e:P.funcs[f]?=some fn)(g:fn.body=some c)(h:CW P c (k9 P fn fn.ntmps R) fn.ntmps [] [(0,a),(1,b)] w)(d:Nat.ble 2 fn.ntmps=true:=by rfl):Ret P f [a,b] w R:=Ret.enter e g d h
theorem zE3{a b e:Value}(g:P.funcs[f]?=some fn)(i:fn.body=some c)(h:CW P c (k9 P fn fn.ntmps R) fn.ntmps [] [(0,a),(1,b),(2,e)] w)(d:Nat.ble 3 fn.ntmps=true:=by rfl):Ret P f [a,b,e] w R:=Ret.enter g i d h
theorem zE4{a b e g:Value}(i:P.funcs[f]?=some fn)(j:fn.body=some c)(h:CW P c (k9 P fn fn.ntmps R) fn.ntmps [] [(0,a),(1,b),(2,e),(3,g)] w)(d:Nat.ble 4 fn.ntmps=true:=by rfl):Ret P f [a,b,e,g] w R:=Ret.enter i j d h
theorem zE5{a b e g p:Value}(i:P.funcs[f]?=some fn)(j:fn.body=some c)(h:CW P c (k9 P fn fn.ntmps R) fn.ntmps [] [(0,a),(1,b),(2,e),(3,g),(4,p)] w)(d:Nat.ble 5 fn.ntmps=true:=by rfl):Ret P f [a,b,e,g,p] w R:=Ret.enter i j d h
theorem zAh{t:TypeId}{i:TypeDesc}{e a:Nat}{z:Value}[hT:aJ P t i e a z](f:z.cells=[Value.bool false,.slice none 0 0,.int .i64 0].toArray)(g:Nat.blt d n=true)(h:Chg T w0 w)
    (k : ∀ b w',BK w' b t [.bool false,.slice none 0 0,.int .i64 0]->Chg [] w w'->w.heap.size<=b->w0.heap.size<=b->Chg T w0 w'->WL P ops K rest n D ((d,.pointer (some ⟨b,0,none⟩))::s) w'):WL P ops K (⟨some d,.alloc t,ty,pos,af,none⟩::rest) n D s w:=
  WL.iZ f g λb w' h1 h2 h3=>k b w' h1 h2 h3 (Nat.le_trans h.size h3) (h.ta h2)
theorem zBh{t:TypeId}{v:Value}{l:List Value}(a:k6 s x=some v)(e:v.cells=l.toArray)(f:Nat.blt d n=true)(h:Chg T w0 w)
    (k : ∀ b w',BK w' b t l->Chg [] w w'->w.heap.size<=b->w0.heap.size<=b->Chg T w0 w'->WL P ops K rest n D ((d,.pointer (some ⟨b,0,none⟩))::s) w'):WL P ops K (⟨some d,.box t x,ty,pos,af,none⟩::rest) n D s w:=
  WL.cgq a e f λb w' h1 h2 h3=>k b w' h1 h2 h3 (Nat.le_trans h.size h3) (h.ta h2)
end
end Sx
section
open Go Sx
set_option maxRecDepth 100000
instance ti2:aJ Tryz.prog 2 (.int .i64) 1 8 (.int .i64 0):=⟨Tryz.underlying2,by kernel_rfl⟩
instance ti3:aJ Tryz.prog 3 (.int .i64) 1 8 (.int .i64 0):=⟨Tryz.underlying3,by kernel_rfl⟩
instance ti4:aJ Tryz.prog 4 (.bool) 1 1 (.bool false):=⟨Tryz.underlying4,by kernel_rfl⟩
instance ti5:aJ Tryz.prog 5 (.int .u8) 1 1 (.int .u8 0):=⟨Tryz.underlying5,by kernel_rfl⟩
instance ti9:aJ Tryz.prog 9 (.string) 1 16 (.string ⟨#[]⟩):=⟨Tryz.underlying9,by kernel_rfl⟩
instance ti22:aJ Tryz.prog 22 (.slice 37) 1 24 (.slice none 0 0):=⟨Tryz.underlying22,by kernel_rfl⟩
instance ti25:aJ Tryz.prog 25 (.slice 42) 1 24 (.slice none 0 0):=⟨Tryz.underlying25,by kernel_rfl⟩
instance ti26:aJ Tryz.prog 26 (.slice 35) 1 24 (.slice none 0 0):=⟨Tryz.underlying26,by kernel_rfl⟩
instance ti27:aJ Tryz.prog 27 (.slice 9) 1 24 (.slice none 0 0):=⟨Tryz.underlying27,by kernel_rfl⟩
instance ti29:aJ Tryz.prog 29 (.struct #[⟨"l",25,0,false,"","steelyard/steelyardlaw21",0⟩,⟨"came",26,1,false,"","steelyard/steelyardlaw21",24⟩,⟨"want",27,2,false,"","steelyard/steelyardlaw21",48⟩]) 3 72 (.agg #[.slice none 0 0,.slice none 0 0,.slice none 0 0]):=⟨Tryz.underlying29,by kernel_rfl⟩
instance ti31:aJ Tryz.prog 31 (.float .f64) 1 8 (.float .f64 0):=⟨Tryz.underlying31,by kernel_rfl⟩
instance ti32:aJ Tryz.prog 32 (.slice 31) 1 24 (.slice none 0 0):=⟨Tryz.underlying32,by kernel_rfl⟩
instance ti34:aJ Tryz.prog 34 (.struct #[⟨"NaN",3,0,false,"","",0⟩,⟨"Inf",3,1,false,"","",8⟩]) 2 16 (.agg #[.int .i64 0,.int .i64 0]):=⟨Tryz.underlying34,by kernel_rfl⟩
instance ti35:aJ Tryz.prog 35 (.slice 5) 1 24 (.slice none 0 0):=⟨Tryz.underlying35,by kernel_rfl⟩
instance ti37:aJ Tryz.prog 37 (.struct #[⟨"Kind",3,0,false,"","",0⟩,⟨"On",3,1,false,"","",8⟩,⟨"With",3,2,false,"","",16⟩,⟨"X",31,3,false,"","",24⟩,⟨"L",32,4,false,"","",32⟩,⟨"Mode",3,5,false,"","",56⟩,⟨"Less",3,6,false,"","",64⟩,⟨"N",3,7,false,"","",72⟩,⟨"P",34,8,false,"","",80⟩,⟨"B",35,10,false,"","",96⟩]) 11 120 (.agg #[.int .i64 0,.int .i64 0,.int .i64 0,.float .f64 0,.slice none 0 0,.int .i64 0,.int .i64 0,.int .i64 0,.int .i64 0,.int .i64 0,.slice none 0 0]):=⟨Tryz.underlying37,by kernel_rfl⟩
instance ti39:aJ Tryz.prog 39 (.pointer 91) 1 8 (.pointer none):=⟨Tryz.underlying39,by kernel_rfl⟩
instance ti40:aJ Tryz.prog 40 (.pointer 148) 1 8 (.pointer none):=⟨Tryz.underlying40,by kernel_rfl⟩
instance ti42:aJ Tryz.prog 42 (.struct #[⟨"s",39,0,false,"","steelyard/steelyardlaw21",0⟩,⟨"r",40,1,false,"","steelyard/steelyardlaw21",8⟩]) 2 16 (.agg #[.pointer none,.pointer none]):=⟨Tryz.underlying42,by kernel_rfl⟩
instance ti47:aJ Tryz.prog 47 (.int .i64) 1 8 (.int .i64 0):=⟨Tryz.underlying47,by kernel_rfl⟩
instance ti85:aJ Tryz.prog 85 (.struct #[⟨"NaN",3,0,false,"","",0⟩,⟨"Up",3,1,false,"","",8⟩,⟨"Down",3,2,false,"","",16⟩,⟨"Minus",3,3,false,"","",24⟩,⟨"Plus",3,4,false,"","",32⟩,⟨"All",3,5,false,"","",40⟩]) 6 48 (.agg #[.int .i64 0,.int .i64 0,.int .i64 0,.int .i64 0,.int .i64 0,.int .i64 0]):=⟨Tryz.underlying85,by kernel_rfl⟩
instance ti86:aJ Tryz.prog 86 (.slice 162) 1 24 (.slice none 0 0):=⟨Tryz.underlying86,by kernel_rfl⟩
instance ti87:aJ Tryz.prog 87 (.slice 162) 1 24 (.slice none 0 0):=⟨Tryz.underlying87,by kernel_rfl⟩
instance ti89:aJ Tryz.prog 89 (.struct #[⟨"Neg",4,0,false,"","",0⟩,⟨"Mag",87,1,false,"","",8⟩,⟨"Exp",3,2,false,"","",32⟩]) 3 40 (.agg #[.bool false,.slice none 0 0,.int .i64 0]):=⟨Tryz.underlying89,by kernel_rfl⟩
instance ti91:aJ Tryz.prog 91 (.struct #[⟨"has",85,0,false,"","steelyard/shard",0⟩,⟨"sum",89,6,false,"","steelyard/shard",48⟩,⟨"squares",89,9,false,"","steelyard/shard",88⟩,⟨"least",31,12,false,"","steelyard/shard",128⟩,⟨"most",31,13,false,"","steelyard/shard",136⟩]) 14 144 (.agg #[.int .i64 0,.int .i64 0,.int .i64 0,.int .i64 0,.int .i64 0,.int .i64 0,.bool false,.slice none 0 0,.int .i64 0,.bool false,.slice none 0 0,.int .i64 0,.float .f64 0,.float .f64 0]):=⟨Tryz.underlying91,by kernel_rfl⟩
instance ti92:aJ Tryz.prog 92 (.array 6 3) 6 48 (.agg #[.int .i64 0,.int .i64 0,.int .i64 0,.int .i64 0,.int .i64 0,.int .i64 0]):=⟨Tryz.underlying92,by kernel_rfl⟩
instance ti94:aJ Tryz.prog 94 (.int .u64) 1 8 (.int .u64 0):=⟨Tryz.underlying94,by kernel_rfl⟩
instance ti141:aJ Tryz.prog 141 (.struct #[⟨"rest",35,0,false,"","steelyard/shard",0⟩,⟨"bad",4,1,false,"","steelyard/shard",24⟩]) 2 32 (.agg #[.slice none 0 0,.bool false]):=⟨Tryz.underlying141,by kernel_rfl⟩
instance ti142:aJ Tryz.prog 142 (.pointer 3) 1 8 (.pointer none):=⟨Tryz.underlying142,by kernel_rfl⟩
instance ti143:aJ Tryz.prog 143 (.slice 142) 1 24 (.slice none 0 0):=⟨Tryz.underlying143,by kernel_rfl⟩
instance ti148:aJ Tryz.prog 148 (.struct #[⟨"S",85,0,false,"","",0⟩,⟨"V",89,6,false,"","",48⟩,⟨"Q",89,9,false,"","",88⟩,⟨"Least",31,12,false,"","",128⟩,⟨"Most",31,13,false,"","",136⟩]) 14 144 (.agg #[.int .i64 0,.int .i64 0,.int .i64 0,.int .i64 0,.int .i64 0,.int .i64 0,.bool false,.slice none 0 0,.int .i64 0,.bool false,.slice none 0 0,.int .i64 0,.float .f64 0,.float .f64 0]):=⟨Tryz.underlying148,by kernel_rfl⟩
instance ti151:aJ Tryz.prog 151 (.struct #[⟨"b",35,0,false,"","steelyard/steelyardref21",0⟩,⟨"at",3,1,false,"","steelyard/steelyardref21",24⟩,⟨"bad",4,2,false,"","steelyard/steelyardref21",32⟩]) 3 40 (.agg #[.slice none 0 0,.int .i64 0,.bool false]):=⟨Tryz.underlying151,by kernel_rfl⟩
instance ti161:aJ Tryz.prog 161 (.struct #[⟨"Num",89,0,false,"","",0⟩,⟨"Den",89,3,false,"","",40⟩]) 6 80 (.agg #[.bool false,.slice none 0 0,.int .i64 0,.bool false,.slice none 0 0,.int .i64 0]):=⟨Tryz.underlying161,by kernel_rfl⟩
instance ti162:aJ Tryz.prog 162 (.int .u32) 1 4 (.int .u32 0):=⟨Tryz.underlying162,by kernel_rfl⟩
instance ti192:aJ Tryz.prog 192 (.struct #[⟨"Neg",4,0,false,"","",0⟩,⟨"Class",3,1,false,"","",8⟩,⟨"Exp",3,2,false,"","",16⟩,⟨"Frac",94,3,false,"","",24⟩]) 4 32 (.agg #[.bool false,.int .i64 0,.int .i64 0,.int .u64 0]):=⟨Tryz.underlying192,by kernel_rfl⟩
instance ti205:aJ Tryz.prog 205 (.struct #[⟨"digits",3,0,false,"","steelyard/dyad",0⟩,⟨"least",3,1,false,"","steelyard/dyad",8⟩,⟨"endless",94,2,false,"","steelyard/dyad",16⟩]) 3 24 (.agg #[.int .i64 0,.int .i64 0,.int .u64 0]):=⟨Tryz.underlying205,by kernel_rfl⟩
instance ti217:aJ Tryz.prog 217 (.int .u64) 1 8 (.int .u64 0):=⟨Tryz.underlying217,by kernel_rfl⟩
instance ti219:aJ Tryz.prog 219 (.struct #[⟨"Digits",3,0,false,"","",0⟩,⟨"Least",3,1,false,"","",8⟩,⟨"Endless",94,2,false,"","",16⟩]) 3 24 (.agg #[.int .i64 0,.int .i64 0,.int .u64 0]):=⟨Tryz.underlying219,by kernel_rfl⟩
instance ti239:aJ Tryz.prog 239 (.slice 3) 1 24 (.slice none 0 0):=⟨Tryz.underlying239,by kernel_rfl⟩
instance ti263:aJ Tryz.prog 263 (.struct #[⟨"wide",3,0,false,"","steelyard/bits",0⟩,⟨"low",3,1,false,"","steelyard/bits",8⟩,⟨"least",3,2,false,"","steelyard/bits",16⟩]) 3 24 (.agg #[.int .i64 0,.int .i64 0,.int .i64 0]):=⟨Tryz.underlying263,by kernel_rfl⟩
instance ti270:aJ Tryz.prog 270 (.array 5 3) 5 40 (.agg #[.int .i64 0,.int .i64 0,.int .i64 0,.int .i64 0,.int .i64 0]):=⟨Tryz.underlying270,by kernel_rfl⟩
instance ti290:aJ Tryz.prog 290 (.slice 161) 1 24 (.slice none 0 0):=⟨Tryz.underlying290,by kernel_rfl⟩
instance ti309:aJ Tryz.prog 309 (.slice 89) 1 24 (.slice none 0 0):=⟨Tryz.underlying309,by kernel_rfl⟩
instance ti320:aJ Tryz.prog 320 (.array 32 5) 32 32 (.agg #[.int .u8 0,.int .u8 0,.int .u8 0,.int .u8 0,.int .u8 0,.int .u8 0,.int .u8 0,.int .u8 0,.int .u8 0,.int .u8 0,.int .u8 0,.int .u8 0,.int .u8 0,.int .u8 0,.int .u8 0,.int .u8 0,.int .u8 0,.int .u8 0,.int .u8 0,.int .u8 0,.int .u8 0,.int .u8 0,.int .u8 0,.int .u8 0,.int .u8 0,.int .u8 0,.int .u8 0,.int .u8 0,.int .u8 0,.int .u8 0,.int .u8 0,.int .u8 0]):=⟨Tryz.underlying320,by kernel_rfl⟩
instance tf29_0:eJ Tryz.prog 29 0 0:=⟨λa w=>by kernel_rfl⟩
instance tf29_1:eJ Tryz.prog 29 1 1:=⟨λa w=>by kernel_rfl⟩
instance tf29_2:eJ Tryz.prog 29 2 2:=⟨λa w=>by kernel_rfl⟩
instance tb29:b9q Tryz.prog 29 #[(0,1),(1,1),(2,1)]:=⟨λw fs h=>by rw[acj Tryz.underlying29 h];kernel_rfl⟩
instance tf34_0:eJ Tryz.prog 34 0 0:=⟨λa w=>by kernel_rfl⟩
instance tf34_1:eJ Tryz.prog 34 1 1:=⟨λa w=>by kernel_rfl⟩
instance tb34:b9q Tryz.prog 34 #[(0,1),(1,1)]:=⟨λw fs h=>by rw[acj Tryz.underlying34 h];kernel_rfl⟩
instance tf37_0:eJ Tryz.prog 37 0 0:=⟨λa w=>by kernel_rfl⟩
instance tf37_1:eJ Tryz.prog 37 1 1:=⟨λa w=>by kernel_rfl⟩
instance tf37_2:eJ Tryz.prog 37 2 2:=⟨λa w=>by kernel_rfl⟩
instance tf37_3:eJ Tryz.prog 37 3 3:=⟨λa w=>by kernel_rfl⟩
instance tf37_4:eJ Tryz.prog 37 4 4:=⟨λa w=>by kernel_rfl⟩
instance tf37_5:eJ Tryz.prog 37 5 5:=⟨λa w=>by kernel_rfl⟩
instance tf37_6:eJ Tryz.prog 37 6 6:=⟨λa w=>by kernel_rfl⟩
instance tf37_7:eJ Tryz.prog 37 7 7:=⟨λa w=>by kernel_rfl⟩
instance tf37_8:eJ Tryz.prog 37 8 8:=⟨λa w=>by kernel_rfl⟩
instance tf37_9:eJ Tryz.prog 37 9 10:=⟨λa w=>by kernel_rfl⟩
instance tb37:b9q Tryz.prog 37 #[(0,1),(1,1),(2,1),(3,1),(4,1),(5,1),(6,1),(7,1),(8,2),(10,1)]:=⟨λw fs h=>by rw[acj Tryz.underlying37 h];kernel_rfl⟩
instance tf42_0:eJ Tryz.prog 42 0 0:=⟨λa w=>by kernel_rfl⟩
instance tf42_1:eJ Tryz.prog 42 1 1:=⟨λa w=>by kernel_rfl⟩
instance tb42:b9q Tryz.prog 42 #[(0,1),(1,1)]:=⟨λw fs h=>by rw[acj Tryz.underlying42 h];kernel_rfl⟩
instance tf85_0:eJ Tryz.prog 85 0 0:=⟨λa w=>by kernel_rfl⟩
instance tf85_1:eJ Tryz.prog 85 1 1:=⟨λa w=>by kernel_rfl⟩
instance tf85_2:eJ Tryz.prog 85 2 2:=⟨λa w=>by kernel_rfl⟩
instance tf85_3:eJ Tryz.prog 85 3 3:=⟨λa w=>by kernel_rfl⟩
instance tf85_4:eJ Tryz.prog 85 4 4:=⟨λa w=>by kernel_rfl⟩
instance tf85_5:eJ Tryz.prog 85 5 5:=⟨λa w=>by kernel_rfl⟩
instance tb85:b9q Tryz.prog 85 #[(0,1),(1,1),(2,1),(3,1),(4,1),(5,1)]:=⟨λw fs h=>by rw[acj Tryz.underlying85 h];kernel_rfl⟩
instance tf89_0:eJ Tryz.prog 89 0 0:=⟨λa w=>by kernel_rfl⟩
instance tf89_1:eJ Tryz.prog 89 1 1:=⟨λa w=>by kernel_rfl⟩
instance tf89_2:eJ Tryz.prog 89 2 2:=⟨λa w=>by kernel_rfl⟩
instance tb89:b9q Tryz.prog 89 #[(0,1),(1,1),(2,1)]:=⟨λw fs h=>by rw[acj Tryz.underlying89 h];kernel_rfl⟩
instance tf91_0:eJ Tryz.prog 91 0 0:=⟨λa w=>by kernel_rfl⟩
instance tf91_1:eJ Tryz.prog 91 1 6:=⟨λa w=>by kernel_rfl⟩
instance tf91_2:eJ Tryz.prog 91 2 9:=⟨λa w=>by kernel_rfl⟩
instance tf91_3:eJ Tryz.prog 91 3 12:=⟨λa w=>by kernel_rfl⟩
instance tf91_4:eJ Tryz.prog 91 4 13:=⟨λa w=>by kernel_rfl⟩
instance tb91:b9q Tryz.prog 91 #[(0,6),(6,3),(9,3),(12,1),(13,1)]:=⟨λw fs h=>by rw[acj Tryz.underlying91 h];kernel_rfl⟩
instance tf141_0:eJ Tryz.prog 141 0 0:=⟨λa w=>by kernel_rfl⟩
instance tf141_1:eJ Tryz.prog 141 1 1:=⟨λa w=>by kernel_rfl⟩
instance tb141:b9q Tryz.prog 141 #[(0,1),(1,1)]:=⟨λw fs h=>by rw[acj Tryz.underlying141 h];kernel_rfl⟩
instance tf148_0:eJ Tryz.prog 148 0 0:=⟨λa w=>by kernel_rfl⟩
instance tf148_1:eJ Tryz.prog 148 1 6:=⟨λa w=>by kernel_rfl⟩
instance tf148_2:eJ Tryz.prog 148 2 9:=⟨λa w=>by kernel_rfl⟩
instance tf148_3:eJ Tryz.prog 148 3 12:=⟨λa w=>by kernel_rfl⟩
instance tf148_4:eJ Tryz.prog 148 4 13:=⟨λa w=>by kernel_rfl⟩
instance tb148:b9q Tryz.prog 148 #[(0,6),(6,3),(9,3),(12,1),(13,1)]:=⟨λw fs h=>by rw[acj Tryz.underlying148 h];kernel_rfl⟩
instance tf151_0:eJ Tryz.prog 151 0 0:=⟨λa w=>by kernel_rfl⟩
instance tf151_1:eJ Tryz.prog 151 1 1:=⟨λa w=>by kernel_rfl⟩
instance tf151_2:eJ Tryz.prog 151 2 2:=⟨λa w=>by kernel_rfl⟩
instance tb151:b9q Tryz.prog 151 #[(0,1),(1,1),(2,1)]:=⟨λw fs h=>by rw[acj Tryz.underlying151 h];kernel_rfl⟩
instance tf161_0:eJ Tryz.prog 161 0 0:=⟨λa w=>by kernel_rfl⟩
instance tf161_1:eJ Tryz.prog 161 1 3:=⟨λa w=>by kernel_rfl⟩
instance tb161:b9q Tryz.prog 161 #[(0,3),(3,3)]:=⟨λw fs h=>by rw[acj Tryz.underlying161 h];kernel_rfl⟩
instance tf192_0:eJ Tryz.prog 192 0 0:=⟨λa w=>by kernel_rfl⟩
instance tf192_1:eJ Tryz.prog 192 1 1:=⟨λa w=>by kernel_rfl⟩
instance tf192_2:eJ Tryz.prog 192 2 2:=⟨λa w=>by kernel_rfl⟩
instance tf192_3:eJ Tryz.prog 192 3 3:=⟨λa w=>by kernel_rfl⟩
instance tb192:b9q Tryz.prog 192 #[(0,1),(1,1),(2,1),(3,1)]:=⟨λw fs h=>by rw[acj Tryz.underlying192 h];kernel_rfl⟩
instance tf205_0:eJ Tryz.prog 205 0 0:=⟨λa w=>by kernel_rfl⟩
instance tf205_1:eJ Tryz.prog 205 1 1:=⟨λa w=>by kernel_rfl⟩
instance tf205_2:eJ Tryz.prog 205 2 2:=⟨λa w=>by kernel_rfl⟩
instance tb205:b9q Tryz.prog 205 #[(0,1),(1,1),(2,1)]:=⟨λw fs h=>by rw[acj Tryz.underlying205 h];kernel_rfl⟩
instance tf219_0:eJ Tryz.prog 219 0 0:=⟨λa w=>by kernel_rfl⟩
instance tf219_1:eJ Tryz.prog 219 1 1:=⟨λa w=>by kernel_rfl⟩
instance tf219_2:eJ Tryz.prog 219 2 2:=⟨λa w=>by kernel_rfl⟩
instance tb219:b9q Tryz.prog 219 #[(0,1),(1,1),(2,1)]:=⟨λw fs h=>by rw[acj Tryz.underlying219 h];kernel_rfl⟩
instance tf263_0:eJ Tryz.prog 263 0 0:=⟨λa w=>by kernel_rfl⟩
instance tf263_1:eJ Tryz.prog 263 1 1:=⟨λa w=>by kernel_rfl⟩
instance tf263_2:eJ Tryz.prog 263 2 2:=⟨λa w=>by kernel_rfl⟩
instance tb263:b9q Tryz.prog 263 #[(0,1),(1,1),(2,1)]:=⟨λw fs h=>by rw[acj Tryz.underlying263 h];kernel_rfl⟩
theorem dZ:Tryz.prog.follows .mixedOrders=true:=by kernel_rfl
theorem ext48(b:Nat)(w:World):(callFunc 48 [(.float .f64 b:Value)].toArray).run Tryz.prog w = .ok (.value (.int .u64 (b:Int))) w:=by kernel_rfl
theorem ext82(b:Int)(w:World):(callFunc 82 [(.int .u64 b:Value)].toArray).run Tryz.prog w = .ok (.value (.float .f64 b.toNat)) w:=by kernel_rfl
theorem hF{P:Program}{f:FuncId}{a:Func}(h:P.funcs[f]?=some a)(d:a.body.isSome=true:=by rfl)(b:(a.name=="runtime.NumGoroutine")=false:=by decide):aQ P f:=⟨a,_,h,(Option.some_get d).symm,b⟩
theorem hasF7:aQ Tryz.prog 7:=hF Tryz.func7
theorem hasF8:aQ Tryz.prog 8:=hF Tryz.func8
theorem hasF9:aQ Tryz.prog 9:=hF Tryz.func9
theorem hasF10:aQ Tryz.prog 10:=hF Tryz.func10
theorem hasF11:aQ Tryz.prog 11:=hF Tryz.func11
theorem hasF21:aQ Tryz.prog 21:=hF Tryz.func21
theorem hasF22:aQ Tryz.prog 22:=hF Tryz.func22
theorem hasF23:aQ Tryz.prog 23:=hF Tryz.func23
theorem hasF24:aQ Tryz.prog 24:=hF Tryz.func24
theorem hasF25:aQ Tryz.prog 25:=hF Tryz.func25
theorem hasF26:aQ Tryz.prog 26:=hF Tryz.func26
theorem hasF27:aQ Tryz.prog 27:=hF Tryz.func27
theorem hasF28:aQ Tryz.prog 28:=hF Tryz.func28
theorem hasF29:aQ Tryz.prog 29:=hF Tryz.func29
theorem hasF30:aQ Tryz.prog 30:=hF Tryz.func30
theorem hasF31:aQ Tryz.prog 31:=hF Tryz.func31
theorem hasF32:aQ Tryz.prog 32:=hF Tryz.func32
theorem hasF33:aQ Tryz.prog 33:=hF Tryz.func33
theorem hasF34:aQ Tryz.prog 34:=hF Tryz.func34
theorem hasF35:aQ Tryz.prog 35:=hF Tryz.func35
theorem hasF36:aQ Tryz.prog 36:=hF Tryz.func36
theorem hasF37:aQ Tryz.prog 37:=hF Tryz.func37
theorem hasF38:aQ Tryz.prog 38:=hF Tryz.func38
theorem hasF39:aQ Tryz.prog 39:=hF Tryz.func39
theorem hasF40:aQ Tryz.prog 40:=hF Tryz.func40
theorem hasF41:aQ Tryz.prog 41:=hF Tryz.func41
theorem hasF42:aQ Tryz.prog 42:=hF Tryz.func42
theorem hasF43:aQ Tryz.prog 43:=hF Tryz.func43
theorem hasF44:aQ Tryz.prog 44:=hF Tryz.func44
theorem hasF45:aQ Tryz.prog 45:=hF Tryz.func45
theorem hasF46:aQ Tryz.prog 46:=hF Tryz.func46
theorem hasF47:aQ Tryz.prog 47:=hF Tryz.func47
theorem hasF68:aQ Tryz.prog 68:=hF Tryz.func68
theorem hasF69:aQ Tryz.prog 69:=hF Tryz.func69
theorem hasF70:aQ Tryz.prog 70:=hF Tryz.func70
theorem hasF71:aQ Tryz.prog 71:=hF Tryz.func71
theorem hasF72:aQ Tryz.prog 72:=hF Tryz.func72
theorem hasF73:aQ Tryz.prog 73:=hF Tryz.func73
theorem hasF74:aQ Tryz.prog 74:=hF Tryz.func74
theorem hasF75:aQ Tryz.prog 75:=hF Tryz.func75
theorem hasF76:aQ Tryz.prog 76:=hF Tryz.func76
theorem hasF77:aQ Tryz.prog 77:=hF Tryz.func77
theorem hasF78:aQ Tryz.prog 78:=hF Tryz.func78
theorem hasF79:aQ Tryz.prog 79:=hF Tryz.func79
theorem hasF80:aQ Tryz.prog 80:=hF Tryz.func80
theorem hasF81:aQ Tryz.prog 81:=hF Tryz.func81
theorem hasF83:aQ Tryz.prog 83:=hF Tryz.func83
theorem hasF84:aQ Tryz.prog 84:=hF Tryz.func84
theorem hasF85:aQ Tryz.prog 85:=hF Tryz.func85
theorem hasF86:aQ Tryz.prog 86:=hF Tryz.func86
theorem hasF87:aQ Tryz.prog 87:=hF Tryz.func87
theorem hasF88:aQ Tryz.prog 88:=hF Tryz.func88
theorem hasF89:aQ Tryz.prog 89:=hF Tryz.func89
theorem hasF90:aQ Tryz.prog 90:=hF Tryz.func90
theorem hasF91:aQ Tryz.prog 91:=hF Tryz.func91
theorem hasF92:aQ Tryz.prog 92:=hF Tryz.func92
theorem hasF93:aQ Tryz.prog 93:=hF Tryz.func93
theorem hasF94:aQ Tryz.prog 94:=hF Tryz.func94
theorem hasF95:aQ Tryz.prog 95:=hF Tryz.func95
theorem hasF96:aQ Tryz.prog 96:=hF Tryz.func96
theorem hasF97:aQ Tryz.prog 97:=hF Tryz.func97
theorem hasF98:aQ Tryz.prog 98:=hF Tryz.func98
theorem hasF99:aQ Tryz.prog 99:=hF Tryz.func99
theorem hasF100:aQ Tryz.prog 100:=hF Tryz.func100
theorem hasF101:aQ Tryz.prog 101:=hF Tryz.func101
theorem hasF102:aQ Tryz.prog 102:=hF Tryz.func102
theorem hasF103:aQ Tryz.prog 103:=hF Tryz.func103
theorem hasF104:aQ Tryz.prog 104:=hF Tryz.func104
theorem hasF105:aQ Tryz.prog 105:=hF Tryz.func105
theorem hasF106:aQ Tryz.prog 106:=hF Tryz.func106
theorem hasF107:aQ Tryz.prog 107:=hF Tryz.func107
theorem hasF108:aQ Tryz.prog 108:=hF Tryz.func108
theorem hasF109:aQ Tryz.prog 109:=hF Tryz.func109
theorem hasF110:aQ Tryz.prog 110:=hF Tryz.func110
theorem hasF111:aQ Tryz.prog 111:=hF Tryz.func111
theorem hasF112:aQ Tryz.prog 112:=hF Tryz.func112
theorem hasF113:aQ Tryz.prog 113:=hF Tryz.func113
theorem hasF129:aQ Tryz.prog 129:=hF Tryz.func129
theorem hasF130:aQ Tryz.prog 130:=hF Tryz.func130
theorem hasF131:aQ Tryz.prog 131:=hF Tryz.func131
theorem hasF132:aQ Tryz.prog 132:=hF Tryz.func132
theorem hasF133:aQ Tryz.prog 133:=hF Tryz.func133
theorem hasF134:aQ Tryz.prog 134:=hF Tryz.func134
theorem hasF135:aQ Tryz.prog 135:=hF Tryz.func135
theorem hasF136:aQ Tryz.prog 136:=hF Tryz.func136
theorem hasF137:aQ Tryz.prog 137:=hF Tryz.func137
theorem hasF138:aQ Tryz.prog 138:=hF Tryz.func138
theorem hasF139:aQ Tryz.prog 139:=hF Tryz.func139
theorem hasF140:aQ Tryz.prog 140:=hF Tryz.func140
theorem hasF141:aQ Tryz.prog 141:=hF Tryz.func141
theorem hasF142:aQ Tryz.prog 142:=hF Tryz.func142
theorem hasF143:aQ Tryz.prog 143:=hF Tryz.func143
theorem hasF144:aQ Tryz.prog 144:=hF Tryz.func144
theorem hasF145:aQ Tryz.prog 145:=hF Tryz.func145
theorem hasF146:aQ Tryz.prog 146:=hF Tryz.func146
theorem hasF147:aQ Tryz.prog 147:=hF Tryz.func147
theorem hasF148:aQ Tryz.prog 148:=hF Tryz.func148
theorem hasF149:aQ Tryz.prog 149:=hF Tryz.func149
theorem hasF150:aQ Tryz.prog 150:=hF Tryz.func150
theorem hasF151:aQ Tryz.prog 151:=hF Tryz.func151
theorem hasF152:aQ Tryz.prog 152:=hF Tryz.func152
theorem hasF153:aQ Tryz.prog 153:=hF Tryz.func153
theorem hasF154:aQ Tryz.prog 154:=hF Tryz.func154
theorem hasF155:aQ Tryz.prog 155:=hF Tryz.func155
theorem hasF156:aQ Tryz.prog 156:=hF Tryz.func156
theorem hasF157:aQ Tryz.prog 157:=hF Tryz.func157
theorem hasF158:aQ Tryz.prog 158:=hF Tryz.func158
theorem hasF159:aQ Tryz.prog 159:=hF Tryz.func159
theorem hasF160:aQ Tryz.prog 160:=hF Tryz.func160
theorem hasF161:aQ Tryz.prog 161:=hF Tryz.func161
theorem hasF162:aQ Tryz.prog 162:=hF Tryz.func162
theorem hasF163:aQ Tryz.prog 163:=hF Tryz.func163
theorem hasF164:aQ Tryz.prog 164:=hF Tryz.func164
theorem hasF165:aQ Tryz.prog 165:=hF Tryz.func165
theorem hasF166:aQ Tryz.prog 166:=hF Tryz.func166
theorem hasF167:aQ Tryz.prog 167:=hF Tryz.func167
theorem hasF168:aQ Tryz.prog 168:=hF Tryz.func168
theorem hasF169:aQ Tryz.prog 169:=hF Tryz.func169
theorem hasF170:aQ Tryz.prog 170:=hF Tryz.func170
theorem hasF171:aQ Tryz.prog 171:=hF Tryz.func171
theorem hasF172:aQ Tryz.prog 172:=hF Tryz.func172
theorem hasF173:aQ Tryz.prog 173:=hF Tryz.func173
theorem hasF174:aQ Tryz.prog 174:=hF Tryz.func174
theorem hasF175:aQ Tryz.prog 175:=hF Tryz.func175
theorem hasF176:aQ Tryz.prog 176:=hF Tryz.func176
theorem hasF177:aQ Tryz.prog 177:=hF Tryz.func177
theorem hasF178:aQ Tryz.prog 178:=hF Tryz.func178
theorem hasF179:aQ Tryz.prog 179:=hF Tryz.func179
theorem hasF180:aQ Tryz.prog 180:=hF Tryz.func180
theorem hasF181:aQ Tryz.prog 181:=hF Tryz.func181
theorem hasF182:aQ Tryz.prog 182:=hF Tryz.func182
theorem hasF183:aQ Tryz.prog 183:=hF Tryz.func183
theorem hasF184:aQ Tryz.prog 184:=hF Tryz.func184
theorem hasF185:aQ Tryz.prog 185:=hF Tryz.func185
theorem hasF186:aQ Tryz.prog 186:=hF Tryz.func186
theorem hasF187:aQ Tryz.prog 187:=hF Tryz.func187
theorem hasF188:aQ Tryz.prog 188:=hF Tryz.func188
theorem hasF189:aQ Tryz.prog 189:=hF Tryz.func189
theorem hasF190:aQ Tryz.prog 190:=hF Tryz.func190
theorem hasF191:aQ Tryz.prog 191:=hF Tryz.func191
theorem hasF203:aQ Tryz.prog 203:=hF Tryz.func203
theorem hasF204:aQ Tryz.prog 204:=hF Tryz.func204
theorem hasF205:aQ Tryz.prog 205:=hF Tryz.func205
theorem hasF206:aQ Tryz.prog 206:=hF Tryz.func206
theorem hasF207:aQ Tryz.prog 207:=hF Tryz.func207
theorem hasF208:aQ Tryz.prog 208:=hF Tryz.func208
theorem hasF209:aQ Tryz.prog 209:=hF Tryz.func209
theorem hasF210:aQ Tryz.prog 210:=hF Tryz.func210
theorem hasF211:aQ Tryz.prog 211:=hF Tryz.func211
theorem hasF212:aQ Tryz.prog 212:=hF Tryz.func212
theorem hasF213:aQ Tryz.prog 213:=hF Tryz.func213
theorem hasF214:aQ Tryz.prog 214:=hF Tryz.func214
theorem hasF215:aQ Tryz.prog 215:=hF Tryz.func215
theorem hasF216:aQ Tryz.prog 216:=hF Tryz.func216
theorem hasF217:aQ Tryz.prog 217:=hF Tryz.func217
theorem hasF218:aQ Tryz.prog 218:=hF Tryz.func218
theorem hasF219:aQ Tryz.prog 219:=hF Tryz.func219
theorem hasF220:aQ Tryz.prog 220:=hF Tryz.func220
theorem hasF221:aQ Tryz.prog 221:=hF Tryz.func221
theorem hasF222:aQ Tryz.prog 222:=hF Tryz.func222
theorem hasF223:aQ Tryz.prog 223:=hF Tryz.func223
theorem hasF224:aQ Tryz.prog 224:=hF Tryz.func224
theorem hasF225:aQ Tryz.prog 225:=hF Tryz.func225
theorem hasF226:aQ Tryz.prog 226:=hF Tryz.func226
theorem hasF227:aQ Tryz.prog 227:=hF Tryz.func227
theorem hasF228:aQ Tryz.prog 228:=hF Tryz.func228
theorem hasF229:aQ Tryz.prog 229:=hF Tryz.func229
theorem hasF230:aQ Tryz.prog 230:=hF Tryz.func230
theorem hasF231:aQ Tryz.prog 231:=hF Tryz.func231
theorem hasF232:aQ Tryz.prog 232:=hF Tryz.func232
theorem hasF233:aQ Tryz.prog 233:=hF Tryz.func233
theorem hasF234:aQ Tryz.prog 234:=hF Tryz.func234
theorem hasF235:aQ Tryz.prog 235:=hF Tryz.func235
theorem hasF236:aQ Tryz.prog 236:=hF Tryz.func236
theorem hasF237:aQ Tryz.prog 237:=hF Tryz.func237
theorem hasF238:aQ Tryz.prog 238:=hF Tryz.func238
theorem hasF249:aQ Tryz.prog 249:=hF Tryz.func249
theorem hasF250:aQ Tryz.prog 250:=hF Tryz.func250
theorem hasF252:aQ Tryz.prog 252:=hF Tryz.func252
theorem hasF253:aQ Tryz.prog 253:=hF Tryz.func253
theorem hasF254:aQ Tryz.prog 254:=hF Tryz.func254
theorem hasF255:aQ Tryz.prog 255:=hF Tryz.func255
theorem hasF256:aQ Tryz.prog 256:=hF Tryz.func256
theorem hasF257:aQ Tryz.prog 257:=hF Tryz.func257
theorem hasF258:aQ Tryz.prog 258:=hF Tryz.func258
theorem hasF259:aQ Tryz.prog 259:=hF Tryz.func259
theorem hasF266:aQ Tryz.prog 266:=hF Tryz.func266
theorem hasF267:aQ Tryz.prog 267:=hF Tryz.func267
theorem hasF269:aQ Tryz.prog 269:=hF Tryz.func269
theorem hasF271:aQ Tryz.prog 271:=hF Tryz.func271
theorem hasF272:aQ Tryz.prog 272:=hF Tryz.func272
theorem hasF273:aQ Tryz.prog 273:=hF Tryz.func273
theorem hasF274:aQ Tryz.prog 274:=hF Tryz.func274
theorem hasF278:aQ Tryz.prog 278:=hF Tryz.func278
end
namespace Wd
def val:List Nat->Nat
  | []=>0
  | x::l=>x+4294967296*val l
def W(l:List Nat):Prop:=∀ x∈l,x<4294967296
def wd(n:Nat):List Nat:=if h:n=0 then [] else n%4294967296::wd (n/4294967296)
termination_by n
decreasing_by omega
theorem fX:wd 0=[]:=by rw[wd];simp
theorem cqj{n:Nat}(h:n≠0):wd n=n%4294967296::wd (n/4294967296):=by rw[wd];simp[h]
theorem g7(n:Nat):val (wd n)=n:=by
  induction n using Nat.strongRecOn with
  | _ n ih=>
    by_cases h:n=0
    · subst h;rw[fX];rfl
    · rw[cqj h,val,ih _ oO];omega
theorem ayx:W []:=λx hx=>by cases hx
theorem zX{x:Nat}{l:List Nat}: W (x::l)↔x<4294967296/\W l:=by simp[W]
theorem apq{a b:List Nat}: W (a++b)↔W a/\W b:=by
  simp only[W,List.mem_append]
  exact ⟨λh=>⟨λx d=>h x (.inl d),λx d=>h x (.inr d)⟩,λh x d=>d.elim (h.1 x) (h.2 x)⟩
theorem W.take{l:List Nat}(h:W l)(k:Nat):W (l.take k):=λx hx=>h x (List.mem_of_mem_take hx)
theorem W.drop{l:List Nat}(h:W l)(k:Nat):W (l.drop k):=λx hx=>h x (List.mem_of_mem_drop hx)
theorem W.set{l:List Nat}(h:W l)(k:Nat){x:Nat}(a:x<4294967296):W (l.set k x):=λy hy=>by
  rcases List.mem_or_eq_of_mem_set hy with hy|rfl
  · exact h y hy
  · exact a
theorem oJ(k:Nat):W (List.replicate k 0):=λx hx=>by
  have:=List.eq_of_mem_replicate hx;omega
theorem W.getD{l:List Nat}(h:W l)(i:Nat):l.getD i 0<4294967296:=by
  rw[List.getD_eq_getElem?_getD]
  by_cases hi:i<l.length
  · rw[List.getElem?_eq_getElem hi];exact h _ (List.getElem_mem hi)
  · rw[List.getElem?_eq_none oO];decide
theorem W_wd(n:Nat):W (wd n):=by
  induction n using Nat.strongRecOn with
  | _ n ih=>
    by_cases h:n=0
    · subst h;rw[fX];exact ayx
    · rw[cqj h];exact zX.2 ⟨by omega,ih _ oO⟩
theorem azq(a b:List Nat):val (a++b)=val a+2^(32*a.length)*val b:=by
  induction a with
  | nil=>simp[val]
  | cons x a ih=>
    simp only[List.cons_append,val,ih,List.length_cons]
    rw[show 32*(a.length+1)=32+32*a.length by omega,Nat.pow_add,Nat.mul_assoc,Nat.mul_add]
    have:(2:Nat)^32=4294967296:=by decide
    rw[this];omega
theorem bxj(a:List Nat)(x:Nat):val (a++[x])=val a+2^(32*a.length)*x:=by rw[azq];simp[val]
theorem vZ{l:List Nat}(h:W l):val l<2^(32*l.length):=by
  induction l with
  | nil=>simp[val]
  | cons x l ih=>
    obtain ⟨b,a⟩:=zX.1 h
    have:=ih a
    simp only[val,List.length_cons]
    rw[show 32*(l.length+1)=32+32*l.length by omega,Nat.pow_add]
    have e:(2:Nat)^32=4294967296:=by decide
    rw[e];omega
theorem agx(k:Nat):val (List.replicate k 0)=0:=by
  induction k with
  | zero=>rfl
  | succ k ih=>simp[List.replicate_succ,val,ih]
theorem anq(l:List Nat)(k:Nat)(h:k<=l.length):val l=val (l.take k)+2^(32*k)*val (l.drop k):=by
  conv=>lhs;rw[<- List.take_append_drop k l]
  rw[azq,List.length_take,Nat.min_eq_left h]
theorem cij{l:List Nat}(b:W l)(k:Nat)(h:k<=l.length):val (l.drop k)=val l/2^(32*k):=by
  have d:=anq l k h
  have a:=vZ (b.take k)
  rw[List.length_take,Nat.min_eq_left h] at a
  rw[d,Nat.add_mul_div_left _ _ (Nat.two_pow_pos _),Nat.div_eq_of_lt a,Nat.zero_add]
theorem ciq{l:List Nat}(b:W l)(k:Nat)(h:k<=l.length):val (l.take k)=val l%2^(32*k):=by
  have d:=anq l k h
  have a:=vZ (b.take k)
  rw[List.length_take,Nat.min_eq_left h] at a
  rw[d,Nat.add_mul_mod_self_left,Nat.mod_eq_of_lt a]
theorem dbx{l:List Nat}{i:Nat}(h:i<l.length):l.take (i+1)=l.take i++[l.getD i 0]:=by
  rw[List.take_add_one,List.getD_eq_getElem?_getD,List.getElem?_eq_getElem h];rfl
theorem anx{l:List Nat}{i:Nat}(h:i<l.length):val (l.take (i+1))=val (l.take i)+2^(32*i)*l.getD i 0:=by
  rw[dbx h,bxj,List.length_take,Nat.min_eq_left oO]
theorem cwj{l:List Nat}{i:Nat}(h:i<l.length):l.drop i=l.getD i 0::l.drop (i+1):=by
  rw[List.drop_eq_getElem_cons h,List.getD_eq_getElem?_getD,List.getElem?_eq_getElem h];rfl
theorem uQ{l:List Nat}{i:Nat}(h:i<l.length):val (l.drop i)=l.getD i 0+4294967296*val (l.drop (i+1)):=by
  rw[cwj h];rfl
theorem aaj{l:List Nat}{i:Nat}(h:l.length<=i):l.getD i 0=0:=by
  rw[List.getD_eq_getElem?_getD,List.getElem?_eq_none h];rfl
theorem brx{l:List Nat}(f:W l)(h:l=[]\/l.getD (l.length-1) 0≠0):wd (val l)=l:=by
  induction l with
  | nil=>exact fX
  | cons x l ih=>
    obtain ⟨k,g⟩:=zX.1 f
    rcases h with h|h
    · cases h
    · cases l with
      | nil=>
        have i:x≠0:=by simpa using h
        rw[val,val,cqj oO]
        have d:(x+4294967296*0)%4294967296=x:=by omega
        have b:(x+4294967296*0)/4294967296=0:=by omega
        rw[d,b,fX]
      | cons y l=>
        have a:=ih g (.inr (by simpa using h))
        have j:val (y::l)≠0:=λe=>by rw[e,fX] at a;cases a
        rw[val,cqj oO]
        have d:(x+4294967296*val (y::l))%4294967296=x:=by omega
        have b:(x+4294967296*val (y::l))/4294967296=val (y::l):=by omega
        rw[d,b,a]
theorem rJ{n:Nat}: wd n=[]↔n=0:=by
  constructor
  · intro h;have:=g7 n;rw[h] at this;exact this.symm
  · intro h;subst h;exact fX
theorem aX{n k:Nat}: (wd n).length<=k↔n<2^(32*k):=by
  induction k generalizing n with
  | zero=>simp[rJ]
  | succ k ih=>
    by_cases h:n=0
    · subst h;simp[fX,Nat.two_pow_pos]
    · rw[cqj h,List.length_cons,Nat.succ_le_succ_iff,ih]
      rw[show 32*(k+1)=32+32*k by omega,Nat.pow_add]
      have e:(2:Nat)^32=4294967296:=by decide
      rw[e,Nat.div_lt_iff_lt_mul oD,Nat.mul_comm]
theorem bZ{l:List Nat}(h:W l):(wd (val l)).length<=l.length:=aX.2 (vZ h)
theorem a1x{n:Nat}: 0<(wd n).length↔n≠0:=by
  rw[<- Nat.not_le,Nat.le_zero,List.length_eq_zero_iff,rJ]
theorem uZ{a b:Nat}(h:a<=b):(wd a).length<=(wd b).length:=
  aX.2 (Nat.lt_of_le_of_lt h (aX.1 (Nat.le_refl _)))
theorem cix{n:Nat}(h:n≠0):(wd n).getD ((wd n).length-1) 0≠0:=by
  intro a
  have f:=a1x.2 h
  have e:=anx (l:=wd n) (i:=(wd n).length-1) oO
  rw[a,show (wd n).length-1+1=(wd n).length by omega,List.take_length,g7] at e
  have d:=vZ ((W_wd n).take ((wd n).length-1))
  rw[List.length_take,Nat.min_eq_left oO] at d
  have b:n<2^(32*((wd n).length-1)):=by omega
  have:=aX.2 b
  omega
def bl(n:Nat):Nat:=if n=0 then 0 else n.log2+1
theorem vQ{n k:Nat}: bl n<=k↔n<2^k:=by
  unfold bl
  by_cases h:n=0
  · subst h;simp[Nat.two_pow_pos]
  · rw[if_neg h,Nat.succ_le_iff,Nat.log2_lt h]
theorem cbx{n k:Nat}: k<bl n↔2^k<=n:=by
  rw[<- Nat.not_le,vQ,Nat.not_lt]
theorem cbj(n:Nat):n<2^bl n:=vQ.1 (Nat.le_refl _)
theorem bl_zero:bl 0=0:=by simp[bl]
theorem aex{n:Nat}: bl n=0↔n=0:=by
  constructor
  · intro h;have:=cbj n;rw[h] at this;omega
  · intro h;subst h;exact bl_zero
theorem blq{n:Nat}(h:n≠0):0<bl n:=by
  have:=mt aex.1 h;omega
theorem cxj{n:Nat}(h:n≠0):2^(bl n-1)<=n:=cbx.1 (by have:=blq h;omega)
theorem cxq{n k:Nat}(d:n<2^k)(b:k=0\/2^(k-1)<=n):bl n=k:=by
  have a:=vQ.2 d
  rcases b with rfl|b
  · omega
  · have:=cbx.2 b;omega
theorem adj{n:Nat}(h:n≠0)(k:Nat):bl (n*2^k)=bl n+k:=by
  have a:=blq h
  refine cxq ?_ (.inr ?_)
  · rw[Nat.pow_add];exact Nat.mul_lt_mul_of_pos_right (cbj n) (Nat.two_pow_pos k)
  · rw[show bl n+k-1=(bl n-1)+k by omega,Nat.pow_add];exact Nat.mul_le_mul_right _ (cxj h)
theorem bl_val{l:List Nat}(f:W l)(h:l≠[])(d:l.getD (l.length-1) 0≠0):bl (val l)=32*(l.length-1)+bl (l.getD (l.length-1) 0):=by
  have j:0<l.length:=List.length_pos_iff.2 h
  have e:=anx (l:=l) (i:=l.length-1) oO
  rw[show l.length-1+1=l.length by omega,List.take_length] at e
  have g:=vZ (f.take (l.length-1))
  rw[List.length_take,Nat.min_eq_left oO] at g
  have k:=blq d
  have b:=cbj (l.getD (l.length-1) 0)
  have a:=cxj d
  rw[e]
  generalize l.getD (l.length-1) 0=x at *
  generalize val (l.take (l.length-1))=y at *
  refine cxq ?_ (.inr ?_)
  · rw[Nat.pow_add]
    calc y+2^(32*(l.length-1))*x<2^(32*(l.length-1))+2^(32*(l.length-1))*x:=by omega
      _=2^(32*(l.length-1))*(x+1):=by rw[Nat.mul_add,Nat.mul_one,Nat.add_comm]
      _<=2^(32*(l.length-1))*2^bl x:=Nat.mul_le_mul_left _ b
  · rw[show 32*(l.length-1)+bl x-1=32*(l.length-1)+(bl x-1) by omega,Nat.pow_add]
    have:=Nat.mul_le_mul_left (2^(32*(l.length-1))) a
    omega
def tz(n:Nat):Nat:=if h:n=0 then 0 else if n%2=1 then 0 else tz (n/2)+1
termination_by n
decreasing_by omega
theorem tz_zero:tz 0=0:=by rw[tz];simp
theorem cex{n:Nat}(h:n%2=1):tz n=0:=by rw[tz];split<;>simp[h]
theorem tz_even{n:Nat}(a:n≠0)(h:n%2=0):tz n=tz (n/2)+1:=by
  conv=>lhs;rw[tz]
  rw[dif_neg a,if_neg oO]
theorem tz_mul(n k:Nat)(h:n%2=1):tz (n*2^k)=k:=by
  induction k with
  | zero=>simpa using cex h
  | succ k ih=>
    have a:=Nat.two_pow_pos k
    have b:n*2^k≠0:=by
      intro e;rcases Nat.mul_eq_zero.1 e with e|e<;>omega
    have e:n*2^(k+1)=2*(n*2^k):=by rw[Nat.pow_succ,<- Nat.mul_assoc,Nat.mul_comm]
    rw[e,tz_even oO oO,Nat.mul_div_cancel_left _ oD,ih]
theorem akj{n:Nat}(h:n≠0):n/2^tz n%2=1/\n=n/2^tz n*2^tz n:=by
  induction n using Nat.strongRecOn with
  | _ n ih=>
    by_cases h2:n%2=1
    · rw[cex h2];simp[h2]
    · rw[tz_even h oO]
      obtain ⟨a,b⟩:=ih (n/2) oO oO
      have e:n/2^(tz (n/2)+1)=n/2/2^tz (n/2):=by rw[Nat.pow_succ,Nat.mul_comm,<- Nat.div_div_eq_div_mul]
      rw[e]
      refine ⟨a,?_⟩
      rw[Nat.pow_succ,<- Nat.mul_assoc]
      generalize n/2/2^tz (n/2)=q at *
      generalize q*2^tz (n/2)=r at *
      omega
theorem zJ{n:Nat}(h:n≠0):tz n<bl n:=by
  obtain ⟨a,b⟩:=akj h
  rw[cbx]
  have:1<=n/2^tz n:=by revert a;generalize n/2^tz n=q;omega
  calc 2^tz n=1*2^tz n:=by rw[Nat.one_mul]
    _<=n/2^tz n*2^tz n:=Nat.mul_le_mul_right _ this
    _=n:=b.symm
theorem d3x{n m k:Nat}(h:n=m*2^k)(a:m%2=1):tz n=k:=by rw[h];exact tz_mul m k a
end Wd
section
open Go Sx Wd
structure NU(w:World)(v:Value)(l:List Nat):Prop where
  ex : ∃ a c,v = .slice a l.length c/\l.length<=c/\RW w a (l.map kZ)
  hw:W l
  len:l.length<=70368744177664
theorem NU.q8{w w':World}{v:Value}{l:List Nat}(h:NU w v l)(b:Chg [] w w'):NU w' v l:=by
  obtain ⟨⟨a,c,i,g,f⟩,e,d⟩:=h
  exact ⟨⟨a,c,i,g,f.q8 b⟩,e,d⟩
theorem NU.one{w:World}{v:Value}{l:List Nat}(h:NU w v l):v.oneCell'=true:=by
  obtain ⟨⟨a,c,rfl,_⟩,_⟩:=h;rfl
def xX:Value->Bool
  | .int .u32 _=>true
  | _=>false
theorem NU.notU{w:World}{v:Value}{l:List Nat}(h:NU w v l):xX v=false:=by
  obtain ⟨⟨a,c,rfl,_⟩,_⟩:=h;rfl
theorem NU.q9{w w':World}{v:Value}{l:List Nat}{b:Nat}{T:TypeId}{cs:List Value}(h:NU w v l)(k:BK w b T cs)(p:Chg [b] w w')(o : ∀ c∈cs,xX c=false):NU w' v l:=by
  obtain ⟨⟨a,c,z,x,t⟩,s,r⟩:=h
  refine ⟨⟨a,c,z,x,λi u g=>?_⟩,s,r⟩
  obtain ⟨m,e,f⟩:=t i u g
  refine ⟨m,e,p.cell f λj=>?_⟩
  simp only[List.mem_singleton] at j
  have n:xX u=true:=by
    rw[List.getElem?_map] at g
    cases hq:l[i]? with
    | none=>rw[hq] at g;cases g
    | some y=>rw[hq] at g;cases g;rfl
  have d:=f
  cases had:m.add i with
  | mk b' o' sp=>
    rw[had] at d j
    simp only at j
    subst j
    cases sp with
    | none=>
      rw[a7j k] at d
      have:=o u (List.mem_of_getElem? d)
      rw[n] at this;cases this
    | some q=>
      have:w.cell? ⟨b',o',some q⟩=none:=by simp[World.cell?,show w.heap[b']?=_ from k]
      rw[this] at d;cases d
theorem NU.part{w:World}{a:Option Addr}{l:List Nat}{k c:Nat}(h:RW w a (l.map kZ))(b:W l)(d:l.length<=70368744177664)(f:k<=l.length)(g:k<=c):NU w (.slice a k c) (l.take k):=by
  have e:(l.take k).length=k:=by rw[List.length_take];omega
  refine ⟨⟨a,c,by rw[e],by omega,?_⟩,b.take k,by omega⟩
  rw[List.map_take]
  exact h.take k
theorem NU.adx{w:World}{a:Option Addr}{l:List Nat}{k c:Nat}(h:RW w a (l.map kZ))(b:W l)(d:l.length<=70368744177664)(e:k=l.length)(f:k<=c):NU w (.slice a k c) l:=by
  subst e
  exact ⟨⟨a,c,rfl,f,h⟩,b,d⟩
theorem NU.nil{w:World}{c:Nat}{a:Option Addr}: NU w (.slice a 0 c) []:=⟨⟨a,c,rfl,by simp,by simpa using RW.nil⟩,ayx,by simp⟩
theorem NU.nX{w:World}{b c:Nat}{E:TypeId}{l:List Nat}{k:Nat}(h:OB w b E l)(a:W l)(d:l.length<=70368744177664)(e:k=l.length)(f:k<=c):NU w (.slice (some ⟨b,0,none⟩) k c) l:=NU.adx h.row a d e f
theorem cut_wd{l:List Nat}{k:Nat}(d:W l)(b:k<=l.length)(a:val (l.take k)=val l)(h:k=0\/l.getD (k-1) 0≠0):wd (val l)=l.take k:=by
  rw[<- a]
  refine brx (d.take k) ?_
  rcases h with rfl|h
  · left;simp
  · by_cases hk0:k=0
    · subst hk0;left;simp
    · right
      rw[List.length_take,Nat.min_eq_left b]
      have:(l.take k).getD (k-1) 0=l.getD (k-1) 0:=by
        rw[List.getD_eq_getElem?_getD,List.getD_eq_getElem?_getD,List.getElem?_take,if_pos oO]
      rw[this];exact h
theorem b4j{l:List Nat}{k:Nat}(b:k<=l.length)(d:0<k)(a:l.getD (k-1) 0=0):val (l.take (k-1))=val (l.take k):=by
  have:=anx (l:=l) (i:=k-1) oO
  rw[show k-1+1=k by omega,a] at this
  omega
theorem d6j{w:World}{b k:Nat}{e:TypeId}{l:List Nat}(h:OB w b e l)(a:k<=l.length)(d:l.length<=281474976710656):w.ownsRow 0 e 1 (.slice (some ⟨b,0,none⟩) k l.length) k ((l.take k).map kZ):=
  ⟨by simp;omega,.inr ⟨b,l.length,_,rfl,Nat.zero_le _,h,a,by unfold maxLen;omega,by simp,by simp[List.map_take]⟩⟩
theorem NU.dmj{w:World}{e:TypeId}{v:Value}{m:Nat}{l:List Nat}(h:w.ownsRow 0 e 1 v m (l.map kZ))(d:W l)(a:l.length<=70368744177664):NU w v l:=by
  have f:m=l.length:=by have:=h.1;simp at this;omega
  subst f
  rcases bnq h with ⟨rfl,i,_⟩|⟨g,j,rfl,b,_,_⟩
  · have:l=[]:=List.length_eq_zero_iff.1 i
    subst this
    exact NU.nil
  · exact NU.adx (RW.dmj h) d a rfl b
end
section
open Go Sx
def allO:List Value->Prop
  | []=>True
  | v::l=>v.oneCell'=true/\allO l
theorem ao{l:List Value}(h:allO l:=by repeat (first|exact trivial|exact rfl|assumption|exact NU.one oA|apply And.intro)): ∀ v∈l,v.oneCell'=true:=by
  induction l with
  | nil=>intro v b;cases b
  | cons a l ih=>
    intro v b
    rcases List.mem_cons.1 b with rfl|b
    · exact h.1
    · exact ih h.2 v b
def allN(p:Value->Bool):List Value->Prop
  | []=>True
  | v::l=>p v=false/\allN p l
theorem an{p:Value->Bool}{l:List Value}(h:allN p l:=by repeat (first|exact trivial|exact rfl|exact NU.notU oA|apply And.intro)): ∀ v∈l,p v=false:=by
  induction l with
  | nil=>intro v b;cases b
  | cons a l ih=>
    intro v b
    rcases List.mem_cons.1 b with rfl|b
    · exact h.1
    · exact ih h.2 v b
theorem SMg{a b:Sl}(h:j0 a b:=by first|((repeat (first|exact j0.refl|refine j0.oZ (by rfl) ?_));done)|((repeat (first|exact j0.nil|refine j0.cons rfl ?_));done)):j0 a b:=h
theorem SLp{a b:Sl}(h:j0 a b:=by (repeat (first|exact j0.nil|refine j0.cons rfl ?_|refine j0.consI rfl oO ?_))):j0 a b:=h
theorem o1{v:Value}(h:v.oneCell'=true:=by first|rfl|assumption|exact NU.one oA):v.oneCell'=true:=h
end
namespace Sx
open Go
def d2q(P:Program)(f:FuncId)(args:List Value)(w:World)(R:Value->World->Prop):Prop:=
  ∀ u,CallsD P f args.toArray u w λe u' w'=>u'=u/\∃ v,e = .returned v/\R v w'
theorem d2q.mono{P:Program}{f:FuncId}{args:List Value}{w:World}{R a:Value->World->Prop}(h:d2q P f args w R)(b : ∀ v w',R v w'->a v w'):d2q P f args w a:=λu=>
  CallsD.mono (h u) λ_ _ _ ⟨hu,v,he,hR⟩=>⟨hu,v,he,b _ _ hR⟩
def ebj(P:Program)(fn:Func)(n:Nat)(g:FuncId)(R:Value->World->Prop):AQ
  | .normal,D,s,w | .ret,D,s,w=>∃ vs:List Value,D=[⟨.fn (.func g) #[],vs.toArray⟩]/\d2q P g vs w λ_ w'=>∃ v,ResS P fn n D s w' v/\R v w'
  | _,_,_,_=>False
section
variable {P:Program} {n:Nat} {D:List Deferred} {s:Sl} {w:World}
theorem frame0{b:Func}{args:List Value}(f:Nat.ble args.length b.ntmps=true):Fr b.ntmps [] (b2j 0 args) { tmps:=args.toArray++Array.replicate (b.ntmps-args.toArray.size) undef,defers:=[] }:=by
  have e:args.length<=b.ntmps:=by simpa[Nat.ble_eq] using f
  refine ⟨by simp;omega,rfl,λt v a=>?_⟩
  rw[dpx] at a
  simp only[Nat.zero_le,if_true,Nat.sub_zero] at a
  have d:t<args.length:=by
    by_cases hl:t<args.length
    · exact hl
    · rw[List.getElem?_eq_none oO] at a;cases a
  rw[Array.getElem?_append_left (by simpa using d)]
  simpa using a
theorem Ret.enterD{f:FuncId}{fn:Func}{c:Code}{args:List Value}{R:Value->World->Prop}(g:FuncId)(r:aQ P g)(t:P.funcs[f]?=some fn)(y:fn.body=some c)(p:Nat.ble args.length fn.ntmps=true)
    (h:CW P c (ebj P fn fn.ntmps g R) fn.ntmps [] (b2j 0 args) w):Ret P f args w R:=by
  refine calls_of_wp_defers t y (wp_mono (h _ (frame0 p)) λe a w o=>?_)
  obtain ⟨D,s,d,j⟩:=o
  have k:(∃ i:List Value,D=[⟨.fn (.func g) #[],i.toArray⟩]/\d2q P g i w λ_ b=>∃ v,ResS P fn fn.ntmps D s b v/\R v b)->Leaves P fn a.tmps (λe b=>∃ v,e = .returned v/\R v b) a.defers .returning w:=by
    rintro ⟨i,u,n⟩
    rw[d.defers,u]
    refine leaves_cons (args:=i.toArray) oS (by simp only[invoke,Array.append_empty];exact r.run _) (CallsD.mono (n _) λe A b q=>?_)
    obtain ⟨m,v,rfl,x,l,z⟩:=q
    subst m
    exact ⟨x,l a d,x,rfl,z⟩
  cases e with
  | normal=>exact k j
  | ret=>exact k j
  | _=>exact j.elim
theorem d2q.enter{f:FuncId}{b:Func}{c:Code}{args:List Value}{R:Value->World->Prop}(g:P.funcs[f]?=some b)(i:b.body=some c)(d:Nat.ble args.length b.ntmps=true)
    (h:CW P c (k9 P b b.ntmps R) b.ntmps [] (b2j 0 args) w):d2q P f args w R:=λu=>by
  refine callsD_of_wp g i (wp_mono (h _ (frame0 d)) λe a w hq=>?_)
  obtain ⟨D,s,hfr,hk⟩:=hq
  unfold k9 at hk
  cases e with
  | normal=>obtain ⟨hd,v,hres,hR⟩:=hk;exact ⟨by rw[hfr.defers,hd],v,hres a hfr,v,rfl,hR⟩
  | ret=>obtain ⟨hd,v,hres,hR⟩:=hk;exact ⟨by rw[hfr.defers,hd],v,hres a hfr,v,rfl,hR⟩
  | _=>exact hk.elim
theorem ebj.iX{fn:Func}{g:FuncId}{vs:List Value}{R:Value->World->Prop}{r q:ResultVar}(b:fn.results = #[r,q])(d:D=[⟨.fn (.func g) #[],vs.toArray⟩])
    (h:d2q P g vs w λ_ w'=>∃ v u,aZ P n D s w' r v/\aZ P n D s w' q u/\R (.tuple [v,u].toArray) w'):ebj P fn n g R .ret D s w:=
  ⟨vs,d,h.mono λ_ w' ⟨v,u,h1,h2,hR⟩=>⟨_,λa ha=>by rw[bfq,b];simp[h1 a ha,h2 a ha],hR⟩⟩
attribute [irreducible] ebj
variable {ops:Array Oper} {K:KK} {rest:List Oper} {ty:TypeId} {pos:String} {af:Array Edge}
theorem WL.defer{f:FuncId}{xs:List Operand}{at_:Array TypeId}{vs:List Value}(b:bcx s xs=some vs)(k:WL P ops K rest n (⟨.fn (.func f) #[],vs.toArray⟩::D) s w):
    WL P ops K (⟨none,.defer ⟨.value (.func f),xs.toArray,at_⟩,ty,pos,af,none⟩::rest) n D s w:=λa ha=>
  wpList_plain rfl λK' hK=>by
    have e1:a.eval (.func f) = .func (.func f) #[] #[]:=rfl
    have e2:=bnj (ρ:=a.eval) (λx u b=>ha.eval b) xs vs b
    unfold Oper.wp execOp
    simp only[resolve,e1,Deferred.ofValue]
    simp[e2]
    exact hK _ _ (k _ ⟨ha.size,by simp[Act.put,ha.defers],ha.cell⟩)
theorem exec_callV{f:FuncId}{y:Operand}{xs:List Operand}{at_:Array TypeId}{vs cap:List Value}{ρ:Operand->Value}{o:Oper}(hF:aQ P f)(d:o.op = .call ⟨.value y,xs.toArray,at_⟩)(a:k6 s y=some (.func (.func f) #[] cap.toArray))(b:bcx s xs=some vs)
    (h : ∀ x u,k6 s x=some u->ρ x=u):(execOp ρ o).run P w = .ok (.enter f (vs++cap).toArray) w:=by
  have g:ρ y = .func (.func f) #[] cap.toArray:=h _ _ a
  have e:=bnj h xs vs b
  unfold execOp
  simp[d,resolve,g,Deferred.ofValue,invoke,e,aQ.run hF]
variable {d:Nat}
theorem WL.callV{f:FuncId}{y:Operand}{xs:List Operand}{at_:Array TypeId}{vs cap:List Value}{R:Value->World->Prop}(hF:aQ P f)(g:k6 s y=some (.func (.func f) #[] cap.toArray))(b:bcx s xs=some vs)(i:Nat.blt d n=true)(h:Ret P f (vs++cap) w R)
  (k : ∀ v w',R v w'->WL P ops K rest n D ((d,v)::s) w'):WL P ops K (⟨some d,.call ⟨.value y,xs.toArray,at_⟩,ty,pos,af,none⟩::rest) n D s w:=λa ha=>
 wpList_plain rfl λK' hK=>by
  unfold Oper.wp;rw[exec_callV hF rfl g b λx u b=>ha.eval b];exact Calls.mono h λe w' ⟨v,he,hR⟩=>by subst he;exact hK _ _ (k v w' hR _ (ha.put i v))
end
end Sx
section
open Go Sx Wd
def PO(w:World)(e:TypeId)(lo:Nat)(v:Value)(cs:List Value):Prop:=
  (v = .slice none 0 0/\cs=[])\/∃ g o cap cur,v = .slice (some ⟨g,o,none⟩) cs.length cap/\lo<=g/\w.heap[g]?=some (.cells cur e (0,0))/\o+cap<=cur.size/\cs.length<=cap/\cap<=maxLen/\(cur.toList.drop o).take cs.length=cs/\∀ c∈cur.toList,xX c=false
section
variable {w w':World} {e:TypeId} {lo:Nat} {v:Value} {cs:List Value}
end
namespace Sx
section
variable {P:Program} {n:Nat} {D:List Deferred} {s:Sl} {w:World} {ops:Array Oper} {K:KK} {rest:List Oper} {ty:TypeId} {pos:String} {af:Array Edge} {d:Nat} {x y:Operand}
end
end Sx
end
end Go.Proofs.YtomlallhlakhfaaGreatDoor