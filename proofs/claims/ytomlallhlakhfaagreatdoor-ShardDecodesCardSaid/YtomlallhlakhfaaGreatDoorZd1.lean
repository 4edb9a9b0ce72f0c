/- Part 1 of what the proof rests on. No condition. -/
import Derived.WalkKit
import Derived.Deep.Quiet
import Derived.StillTail
import Derived.Maps.AppendAt
import Derived.Laws.IdiomCopy
import Derived.Laws.CopyOwn
import Derived.OrdersHeld
import Derived.Laws.CopyRow
import Derived.Laws.Tables
import Derived.ArgAppend
import Derived.KernelRfl
import Derived.Test.YtomlallhlakhfaaGreatDoorProg
import Derived.Defers
set_option linter.unusedVariables false
set_option linter.unusedSimpArgs false
set_option maxRecDepth 100000
set_option maxHeartbeats 4000000
namespace Go.Proofs.YtomlallhlakhfaaGreatDoor
theorem oO{p:Prop}(h:p:=by omega):p:=h
theorem oD{p:Prop}(h:p:=by decide):p:=h
theorem oR{p:Prop}(h:p:=by kernel_rfl):p:=h
theorem oS{p:Prop}(h:p:=by simp):p:=h
theorem oA{p:Prop}(h:p:=by assumption):p:=h
theorem oT{p:Prop}(h:p:=by simp;omega):p:=h
theorem oF{p:Prop}(h:p:=by first|omega|(simp;omega)):p:=h
theorem oL:(∀(α:Type)(i:Nat)(a:α)(l:List α),(a::l).drop (i+1)=l.drop i)/\(∀(α:Type)(l:List α),l.drop 0=l)/\(∀(α:Type)(i:Nat)(a:α)(l:List α),(a::l).take (i+1)=a::l.take i)/\(∀(α:Type)(l:List α),l.take 0=[]):=⟨λ_ _ _ _=>rfl,λ_ _=>rfl,λ_ _ _ _=>rfl,λ_ _=>rfl⟩
namespace Sx
open Go
abbrev Sl:=List (Nat×Value)
def look:Sl->Nat->Option Value
  | [],_=>none
  | (k,v)::s,t=>bif Nat.beq k t then some v else look s t
theorem b5j(k:Nat)(v:Value)(s:Sl)(t:Nat):look ((k,v)::s) t=if k=t then some v else look s t:=by
  simp only[look]
  by_cases h:k=t
  · subst h;simp
  · have:Nat.beq k t=false:=Bool.eq_false_iff.2 λe=>h (Nat.eq_of_beq_eq_true e)
    rw[this];simp[h]
structure Fr(n:Nat)(D:List Deferred)(s:Sl)(a:Act):Prop where
  size:a.tmps.size=n
  defers:a.defers=D
  cell : ∀ t v,look s t=some v->a.tmps[t]?=some v
def g8(s:Sl):Operand->Option Value
  | .tmp t=>look s t
  | .const v=>some v
  | .global g=>some (.pointer (some ⟨g,0,none⟩))
  | .func f=>some (.func (.func f) #[] #[])
theorem Fr.eval{n:Nat}{D:List Deferred}{s:Sl}{a:Act}(h:Fr n D s a){x:Operand}{v:Value}(b:g8 s x=some v):a.eval x=v:=by
  cases x with
  | tmp t=>
    have:=h.cell t v b
    simp only[Act.eval,Array.getD_eq_getD_getElem?,this];rfl
  | const c=>exact Option.some.inj b
  | global g=>exact Option.some.inj b
  | func f=>exact Option.some.inj b
theorem Fr.put{n:Nat}{D:List Deferred}{s:Sl}{a:Act}(h:Fr n D s a){d:Nat}(f:Nat.blt d n=true)(v:Value):Fr n D ((d,v)::s) (a.put (some d) v):=by
  have c:d<n:=by simpa[Nat.blt_eq] using f
  refine ⟨by simp[Act.put,h.size],by simp[Act.put,h.defers],λt u b=>?_⟩
  rw[b5j] at b
  simp only[Act.put,Array.getElem?_setIfInBounds]
  by_cases e:d=t
  · subst e
    rw[if_pos rfl] at b
    simp[h.size,c,b]
  · rw[if_neg e] at b
    simp[e,h.cell t u b]
def q9(s' s:Sl):Prop:=∀ t v,look s' t=some v->look s t=some v
theorem q9.nil{s:Sl}: q9 [] s:=λ_ _ h=>by cases h
theorem q9.cons{s s':Sl}{t:Nat}{v:Value}(h:look s t=some v)(a:q9 s' s):q9 ((t,v)::s') s:=λu x hx=>by
  rw[b5j] at hx
  by_cases e:t=u
  · subst e;rw[if_pos rfl] at hx;rw[h,hx]
  · rw[if_neg e] at hx;exact a u x hx
theorem q9.refl{s:Sl}: q9 s s:=λ_ _ h=>h
theorem Fr.sub{n:Nat}{D:List Deferred}{s s':Sl}{a:Act}(h:Fr n D s a)(b:q9 s' s):Fr n D s' a:=⟨h.size,h.defers,λt v ht=>h.cell t v (b t v ht)⟩
abbrev KK:=List Deferred->Sl->World->Prop
abbrev AQ:=Exit->List Deferred->Sl->World->Prop
def d6x(n:Nat)(A:AQ):Exit->Act->World->Prop:=λe a w=>∃ D s,Fr n D s a/\A e D s w
def CW(P:Program)(c:Code)(A:AQ)(n:Nat)(D:List Deferred)(s:Sl)(w:World):Prop:=∀ a,Fr n D s a->c.wp P (d6x n A) a w
def cjq(K:KK)(A:AQ):AQ
  | .normal=>K
  | e=>A e
def inBlk(id:Nat)(A:AQ):AQ
  | .exit id'=>if id'=id then A .normal else A (.exit id')
  | e=>A e
section
variable {P:Program} {A:AQ} {n:Nat} {D:List Deferred} {s:Sl} {w:World}
theorem dnj(K:KK)(e:Exit)(a:Act)(w:World)(h:d6x n (cjq K A) e a w):Exit.then (λa w=>∃ D s,Fr n D s a/\K D s w) (d6x n A) e a w:=by
  cases e<;>exact h
theorem CW.mono{c:Code}{b:AQ}(h:CW P c A n D s w)(d : ∀ e D s w,A e D s w->b e D s w):CW P c b n D s w:=λa ha=>
  wp_mono (h a ha) λe a w ⟨D,s,hf,hq⟩=>⟨D,s,hf,d _ _ _ _ hq⟩
theorem CW.sub{c:Code}{s':Sl}(b:q9 s' s)(h:CW P c A n D s' w):CW P c A n D s w:=λa ha=>h a (ha.sub b)
theorem CW.seq{x y:Code}(h : ∀ K:KK,(∀ D s w,CW P y A n D s w->K D s w)->CW P x (cjq K A) n D s w):CW P (.seq x y) A n D s w:=λa ha=>by
  refine wp_seq (wp_mono (h (λD s w=>CW P y A n D s w) (λ_ _ _ h=>h) a ha) λe a w hq=>?_)
  have:=dnj _ _ _ _ hq
  cases e with
  | normal=>obtain ⟨D,s,hf,hk⟩:=this;exact hk a hf
  | _=>exact this
theorem CW.anx{x y:Code}(J:KK)(b:CW P x (cjq J A) n D s w)(a : ∀ D s w,J D s w->CW P y A n D s w):CW P (.seq x y) A n D s w:=
  CW.seq λK hK=>b.mono λe D s w h=>by
    cases e with
    | normal=>exact hK _ _ _ (a _ _ _ h)
    | _=>exact h
theorem CW.skip(h:A .normal D s w):CW P .skip A n D s w:=λa ha=>wp_skip ⟨D,s,ha,h⟩
theorem CW.ret(h:A .ret D s w):CW P .ret A n D s w:=λa ha=>wp_ret ⟨D,s,ha,h⟩
theorem CW.exit{b:Nat}(h:A (.exit b) D s w):CW P (.exit b) A n D s w:=λa ha=>wp_exit ⟨D,s,ha,h⟩
theorem CW.block{b:Nat}{c:Code}(h:CW P c (inBlk b A) n D s w):CW P (.block b c) A n D s w:=λa ha=>
  wp_block (wp_mono (h a ha) λe a w hq=>by
    cases e with
    | exit id'=>
      obtain ⟨D,s,hf,hk⟩:=hq
      simp only[inBlk] at hk
      simp only[Exit.inBlock]
      split at hk
      · rename_i h;rw[if_pos h];exact ⟨D,s,hf,hk⟩
      · rename_i h;rw[if_neg h];exact ⟨D,s,hf,hk⟩
    | _=>exact hq)
theorem CW.cond{c:Operand}{x y:Code}{b:Bool}(f:g8 s c=some (.bool b))(d:b=true->CW P x A n D s w)(e:b=false->CW P y A n D s w):CW P (.cond c x y) A n D s w:=λa ha=>
  wp_cond_split (ha.eval f) (λh=>d h a ha) (λh=>e h a ha)
theorem CW.nZ{c:Operand}{x y:Code}(b:g8 s c=some (.bool true))(a:CW P x A n D s w):CW P (.cond c x y) A n D s w:=CW.cond b (λ_=>a) (λh=>by cases h)
theorem CW.oX{c:Operand}{x y:Code}(b:g8 s c=some (.bool false))(a:CW P y A n D s w):CW P (.cond c x y) A n D s w:=CW.cond b (λh=>by cases h) (λ_=>a)
theorem CW.loop{G:Type}{c:Code}(S:G->Sl)(Inv:G->World->Prop)(mu:G->Nat)(B:G)(J:Inv B w)(C:q9 (S B) s)
    (j : ∀ g w,Inv g w->CW P c (cjq (λD' s' w'=>D'=D/\∃ g',q9 (S g') s'/\Inv g' w'/\mu g'<mu g) A) n D (S g) w):CW P (.loop c) A n D s w:=λa ha=>by
  have key : ∀ m,∀ g w a,mu g=m->Inv g w->Fr n D (S g) a->(Code.loop c).wp P (d6x n A) a w:=by
    intro m g w a Q x z
    refine wp_loop (λa w=>∃ g,Inv g w/\Fr n D (S g) a) (λa w=>Classical.epsilon λk=>∃ g,Inv g w/\Fr n D (S g) a/\mu g=k/\∀ g',Inv g' w->Fr n D (S g') a->k<=mu g') ⟨g,x,z⟩ ?_
    intro a w I
    have b : ∀ (a:Act) (w:World),(∃ g,Inv g w/\Fr n D (S g) a)->∃ k,∃ g,Inv g w/\Fr n D (S g) a/\mu g=k/\∀ g',Inv g' w->Fr n D (S g') a->k<=mu g':=by
      intro a w ⟨g,hg⟩
      have : ∀ k,∀ g,mu g=k->Inv g w->Fr n D (S g) a->∃ k,∃ g,Inv g w/\Fr n D (S g) a/\mu g=k/\∀ g',Inv g' w->Fr n D (S g') a->k<=mu g':=by
        intro k
        induction k using Nat.strongRecOn with
        | _ k ih=>
          intro g H x z
          by_cases d : ∀ g',Inv g' w->Fr n D (S g') a->k<=mu g'
          · exact ⟨k,g,x,z,H,d⟩
          · have : ∃ g',Inv g' w/\Fr n D (S g') a/\mu g'<k:=by
              apply Classical.byContradiction
              intro t
              apply d
              intro g' o i
              apply Nat.le_of_not_lt
              intro f
              exact t ⟨g',o,i,f⟩
            obtain ⟨g',o,i,f⟩:=this
            exact ih _ f g' rfl o i
      exact this _ g rfl hg.1 hg.2
    obtain ⟨M,v,y,u,d⟩:=Classical.epsilon_spec (b a w I)
    refine wp_mono (j M w v a y) λe O w' F=>?_
    have r:=dnj _ _ _ _ F
    cases e with
    | normal=>
      obtain ⟨D',s',i,rfl,g',q,h,f⟩:=r
      have p:=i.sub q
      refine ⟨⟨g',h,p⟩,?_⟩
      obtain ⟨_,_,_,_,l⟩:=Classical.epsilon_spec (b O w' ⟨g',h,p⟩)
      have:=l g' h p
      rw[<- u]
      exact Nat.lt_of_le_of_lt this f
    | _=>exact r
  exact key _ B w a rfl J (ha.sub C)
def Ret(P:Program)(f:FuncId)(args:List Value)(w:World)(R:Value->World->Prop):Prop:=
  Calls P f args.toArray w λe w'=>∃ v,e = .returned v/\R v w'
theorem Ret.mono{f:FuncId}{args:List Value}{R a:Value->World->Prop}(h:Ret P f args w R)(b : ∀ v w',R v w'->a v w'):Ret P f args w a:=
  Calls.mono h λ_ _ ⟨v,he,hR⟩=>⟨v,he,b _ _ hR⟩
def ResS(P:Program)(fn:Func)(n:Nat)(D:List Deferred)(s:Sl)(w:World)(v:Value):Prop:=∀ a,Fr n D s a->(results fn a.tmps).run P w = .ok v w
def k8(P:Program)(fn:Func)(n:Nat)(R:Value->World->Prop):AQ
  | .normal,D,s,w | .ret,D,s,w=>D=[]/\∃ v,ResS P fn n D s w v/\R v w
  | _,_,_,_=>False
def b1x:Nat->List Value->Sl
  | _,[]=>[]
  | i,v::r=>(i,v)::b1x (i+1) r
theorem dnq(l:List Value): ∀ i t,look (b1x i l) t=if i<=t then l[t-i]? else none:=by
  induction l with
  | nil=>intro i t;simp[b1x,look]
  | cons v r ih=>
    intro i t
    rw[b1x,b5j,ih]
    by_cases h:i=t
    · subst h;simp
    · by_cases h2:i<=t
      · have a:i+1<=t:=by omega
        have b:t-i=(t-(i+1))+1:=by omega
        simp[h,h2,a,b]
      · have a : ¬i+1<=t:=by omega
        simp[h,h2,a]
theorem Ret.enter{f:FuncId}{g:Func}{c:Code}{args:List Value}{R:Value->World->Prop}(q:P.funcs[f]?=some g)(r:g.body=some c)(p:Nat.ble args.length g.ntmps=true)
    (h:CW P c (k8 P g g.ntmps R) g.ntmps [] (b1x 0 args) w):Ret P f args w R:=by
  have o:args.length<=g.ntmps:=by simpa[Nat.ble_eq] using p
  refine calls_of_wp q r (wp_mono (h _ ⟨by simp;omega,rfl,λt v i=>?_⟩) λe a w n=>?_)
  · rw[dnq] at i
    simp only[Nat.zero_le,if_true,Nat.sub_zero] at i
    have j:t<args.length:=by
      by_cases hl:t<args.length
      · exact hl
      · rw[List.getElem?_eq_none oO] at i;cases i
    rw[Array.getElem?_append_left (by simpa using j)]
    simpa using i
  · obtain ⟨D,s,d,k⟩:=n
    cases e with
    | normal=>obtain ⟨l,v,b,m⟩:=k;exact ⟨by rw[d.defers,l],v,b a d,v,rfl,m⟩
    | ret=>obtain ⟨l,v,b,m⟩:=k;exact ⟨by rw[d.defers,l],v,b a d,v,rfl,m⟩
    | _=>exact k.elim
theorem Fr.getD{a:Act}(h:Fr n D s a){t:Nat}{v:Value}(b:look s t=some v):a.tmps.getD t undef=v:=by
  simp only[Array.getD_eq_getD_getElem?,h.cell t v b];rfl
theorem k8.mk{a:Func}{R:Value->World->Prop}{e:Exit}(b:e = .ret\/e = .normal){v:Value}(h:ResS P a n [] s w v)(c:R v w):k8 P a n R e [] s w:=by
  rcases b with rfl|rfl<;>exact ⟨rfl,v,h,c⟩
attribute [irreducible] k8
theorem k8.czq{b:Func}{R:Value->World->Prop}(c:b.results = #[])(h:R (.tuple #[]) w):k8 P b n R .normal [] s w:=
  k8.mk (.inr rfl) (λa ha=>results_none c _ _ _) h
theorem k8.ret1{b:Func}{R:Value->World->Prop}{t:Nat}{v:Value}(d:b.results = #[.tmp t])(c:look s t=some v)(h:R v w):k8 P b n R .ret [] s w:=
  k8.mk (.inl rfl) (λa ha=>by rw[results_tmp d,ha.getD c]) h
theorem k8.ret2{b:Func}{R:Value->World->Prop}{t u:Nat}{v x:Value}(e:b.results = #[.tmp t,.tmp u])(d:look s t=some v)(c:look s u=some x)(h:R (.tuple #[v,x]) w):k8 P b n R .ret [] s w:=
  k8.mk (.inl rfl) (λa ha=>by rw[results_tmp2 e,ha.getD d,ha.getD c]) h
def post(n:Nat)(K:KK):Exit->Act->World->Prop
  | .normal,a,w=>∃ D s,Fr n D s a/\K D s w
  | _,_,_=>False
def WL(P:Program)(ops:Array Oper)(K:KK)(l:List Oper)(n:Nat)(D:List Deferred)(s:Sl)(w:World):Prop:=∀ a,Fr n D s a->wpList P ops (post n K) l a w
theorem b4q{K:KK}(d : ∀ D s w,K D s w->A .normal D s w)(e:Exit)(a:Act)(w:World)(h:post n K e a w):d6x n A e a w:=by
  cases e with
  | normal=>obtain ⟨D,s,c,b⟩:=h;exact ⟨D,s,c,d _ _ _ b⟩
  | _=>exact h.elim
theorem upon_mono{o:Oper}{a:Act}{next b:Act->World->Prop}{Q j:Exit->Act->World->Prop}(c : ∀ a w,next a w->b a w)(g : ∀ e a w,Q e a w->j e a w)(r:Result Next)(h:o.upon P a next Q r):o.upon P a b j r:=by
  have m:LetsOut Q->LetsOut j:=λ⟨a,w,h⟩=>⟨a,w,g _ _ _ h⟩
  cases r with
  | ok x w=>
    cases x with
    | value v=>exact c _ _ h
    | skip=>exact c _ _ h
    | defer d=>exact c _ _ h
    | enter f args=>exact Calls.mono h λe k i=>by cases e<;>first|exact c _ _ i|exact g _ _ _ i|exact m i
    | row r args=>exact Rows.mono h λv k l=>c _ _ l
    | _=>exact h.elim
  | halt x w=>
    cases x with
    | panic v=>exact g _ _ _ h
    | _=>exact h.elim
theorem bvj{b:Array Oper}{Q d:Exit->Act->World->Prop}(c : ∀ e a w,Q e a w->d e a w): ∀ (l:List Oper) (a:Act) (w:World),wpList P b Q l a w->wpList P b d l a w
  | [],a,w,h=>c _ _ _ h
  | o::r,a,w,h=>by
    unfold wpList at h ⊢
    split
    · rename_i hw
      rw[if_pos hw] at h
      rcases h with h|⟨h,h'⟩
      · exact .inl (upon_mono (bvj c r) c _ h)
      · exact .inr ⟨h,let ⟨a,w,hh⟩:=h';⟨a,w,c _ _ _ hh⟩⟩
    · rename_i hw
      rw[if_neg hw] at h
      exact bvj c r _ _ h
theorem CW.region{b:Nat}{l:List Oper}(h : ∀ K:KK,(∀ D s w,A .normal D s w->K D s w)->WL P l.toArray K l n D s w):CW P (.region b l.toArray false) A n D s w:=λa ha=>
  wp_mono (wp_region_lit (h (λD s w=>A .normal D s w) (λ_ _ _ h=>h) a ha)) (b4q λ_ _ _ h=>h)
variable {ops:Array Oper} {K:KK} {rest:List Oper}
theorem WL.nil(h:K D s w):WL P ops K [] n D s w:=λa ha=>wpList_nil ⟨D,s,ha,h⟩
def Ev(P:Program)(s:Sl)(op:Op)(ty:TypeId)(w:World)(v:Value)(w':World):Prop:=
  ∀ (ρ:Operand->Value) (d:Option Tmp) (pos:String) (af:Array Edge) (g:Option (Nat×Bool)),(∀ x u,g8 s x=some u->ρ x=u)->(execOp ρ ⟨d,op,ty,pos,af,g⟩).run P w = .ok (.value v) w'
def EvS(P:Program)(s:Sl)(op:Op)(ty:TypeId)(w:World)(w':World):Prop:=
  ∀ (ρ:Operand->Value) (d:Option Tmp) (pos:String) (af:Array Edge) (g:Option (Nat×Bool)),(∀ x u,g8 s x=some u->ρ x=u)->(execOp ρ ⟨d,op,ty,pos,af,g⟩).run P w = .ok .skip w'
section
variable {op:Op} {ty:TypeId} {pos:String} {af:Array Edge} {d:Nat} {v:Value} {w':World}
theorem WL.ev(b:Ev P s op ty w v w')(c:Nat.blt d n=true)(k:WL P ops K rest n D ((d,v)::s) w'):WL P ops K (⟨some d,op,ty,pos,af,none⟩::rest) n D s w:=λa ha=>
  wpList_plain rfl λK' hK=>by
    unfold Oper.wp
    rw[b a.eval (some d) pos af none λx u hx=>ha.eval hx]
    exact hK _ _ (k _ (ha.put c v))
theorem WL.evs(b:EvS P s op ty w w')(k:WL P ops K rest n D s w'):WL P ops K (⟨none,op,ty,pos,af,none⟩::rest) n D s w:=λa ha=>
  wpList_plain rfl λK' hK=>by
    unfold Oper.wp
    rw[b a.eval none pos af none λx u hx=>ha.eval hx]
    exact hK _ _ (k _ ha)
end
def baq(s:Sl):List Operand->Option (List Value)
  | []=>some []
  | x::r=>match g8 s x,baq s r with
    | some v,some vs=>some (v::vs)
    | _,_=>none
theorem bmq{ρ:Operand->Value}(h : ∀ x u,g8 s x=some u->ρ x=u): ∀ (l:List Operand) vs,baq s l=some vs->l.map ρ=vs
  | [],vs,he=>by simp only[baq] at he;cases he;rfl
  | x::r,vs,he=>by
    simp only[baq] at he
    split at he
    · rename_i v vs' h1 h2
      cases he
      simp[h x v h1,bmq h r vs' h2]
    · cases he
def k9(P:Program)(f:FuncId):Prop:=∃ fn c,P.funcs[f]?=some fn/\fn.body=some c/\(fn.name=="runtime.NumGoroutine")=false
theorem k9.run{f:FuncId}(h:k9 P f)(args:Array Value):(callFunc f args).run P w = .ok (.enter f args) w:=by
  obtain ⟨g,c,e,d,b⟩:=h
  have a : ¬g.name="runtime.NumGoroutine":=by simpa using b
  simp[callFunc,e,d,a]
section
variable {ty:TypeId} {pos:String} {af:Array Edge} {d:Nat}
theorem a6j{f:FuncId}{xs:List Operand}{at_:Array TypeId}{vs:List Value}{ρ:Operand->Value}{o:Oper}(hF:k9 P f)(b:o.op = .call ⟨.value (.func f),xs.toArray,at_⟩)(a:baq s xs=some vs)
    (h : ∀ x u,g8 s x=some u->ρ x=u):(execOp ρ o).run P w = .ok (.enter f vs.toArray) w:=by
  have d:ρ (.func f) = .func (.func f) #[] #[]:=h _ _ rfl
  have c:=bmq h xs vs a
  unfold execOp
  simp[b,resolve,d,Deferred.ofValue,invoke,c,k9.run hF]
theorem WL.call{f:FuncId}{xs:List Operand}{at_:Array TypeId}{vs:List Value}{R:Value->World->Prop}(hF:k9 P f)(b:baq s xs=some vs)(c:Nat.blt d n=true)(h:Ret P f vs w R)
    (k : ∀ v w',R v w'->WL P ops K rest n D ((d,v)::s) w'):WL P ops K (⟨some d,.call ⟨.value (.func f),xs.toArray,at_⟩,ty,pos,af,none⟩::rest) n D s w:=λa ha=>
  wpList_plain rfl λK' hK=>by
    unfold Oper.wp
    rw[a6j hF rfl b λx u b=>ha.eval b]
    exact Calls.mono h λe w' ⟨v,he,hR⟩=>by subst he;exact hK _ _ (k v w' hR _ (ha.put c v))
end
section
variable {op:Op} {ty:TypeId} {pos:String} {af:Array Edge} {dst:Option Tmp} {d j:Nat} {b:Bool}
theorem aqq{a:Act}(f:Fr n D s a){g:Oper}{x:Bool}{t:Nat}(e:ops[j]?=some g)(d:g.dst=some t)(c:look s t=some (.bool x)):Region.wanted ⟨dst,op,ty,pos,af,some (j,b)⟩ (yielded ops a.tmps)=(x==b):=by
  simp[Region.wanted,yielded,e,d,f.cell t _ c]
theorem wpList_guard{Q:Exit->Act->World->Prop}{a:Act}{b:Option (Nat×Bool)}(c:Region.wanted ⟨dst,op,ty,pos,af,b⟩ (yielded ops a.tmps)=true)(h:wpList P ops Q (⟨dst,op,ty,pos,af,none⟩::rest) a w):wpList P ops Q (⟨dst,op,ty,pos,af,b⟩::rest) a w:=by
  unfold wpList at h ⊢
  rw[if_pos c]
  rw[if_pos (by simp[Region.wanted])] at h
  exact h
theorem WL.want{g:Oper}{x:Bool}{t:Nat}(e:ops[j]?=some g)(d:g.dst=some t)(c:look s t=some (.bool x))(f:(x==b)=true)(k:WL P ops K (⟨dst,op,ty,pos,af,none⟩::rest) n D s w):
    WL P ops K (⟨dst,op,ty,pos,af,some (j,b)⟩::rest) n D s w:=λa ha=>wpList_guard (by rw[aqq ha e d c];exact f) (k a ha)
theorem WL.pass{g:Oper}{x:Bool}{t:Nat}(f:ops[j]?=some g)(e:g.dst=some t)(c:look s t=some (.bool x))(i:(x==b)=false)(h:Nat.blt d n=true)(k:WL P ops K rest n D ((d,undef)::s) w):
    WL P ops K (⟨some d,op,ty,pos,af,some (j,b)⟩::rest) n D s w:=λa ha=>by
  unfold wpList
  rw[if_neg (by rw[aqq ha f e c,i];simp)]
  exact k _ (ha.put h undef)
theorem yieldedU{a:Act}(f:Fr n D s a){g:Oper}{t:Nat}(e:ops[j]?=some g)(d:g.dst=some t)(c:look s t=some undef):Region.wanted ⟨dst,op,ty,pos,af,some (j,b)⟩ (yielded ops a.tmps)=false:=by
  simp[Region.wanted,yielded,e,d,f.cell t _ c,undef]
theorem WL.passU{g:Oper}{t:Nat}(f:ops[j]?=some g)(e:g.dst=some t)(c:look s t=some undef)(h:Nat.blt d n=true)(k:WL P ops K rest n D ((d,undef)::s) w):
    WL P ops K (⟨some d,op,ty,pos,af,some (j,b)⟩::rest) n D s w:=λa ha=>by
  unfold wpList
  rw[if_neg (by rw[yieldedU ha f e c];simp)]
  exact k _ (ha.put h undef)
end
end
end Sx
namespace Sx
open Go
structure Chg(T:List Nat)(w w':World):Prop where
  os:w'.os=w.os
  tape:w'.tape=w.tape
  output:w'.output=w.output
  size:w.heap.size<=w'.heap.size
  block : ∀ k,k<w.heap.size->k∉T->w'.heap[k]?=w.heap[k]?
theorem Chg.refl(T:List Nat)(w:World):Chg T w w:=⟨rfl,rfl,rfl,Nat.le_refl _,λ_ _ _=>rfl⟩
theorem Chg.trans{T:List Nat}{a b c:World}(h:Chg T a b)(k:Chg T b c):Chg T a c:=
  ⟨k.os.trans h.os,k.tape.trans h.tape,k.output.trans h.output,Nat.le_trans h.size k.size,λi hi hn=>(k.block i (Nat.lt_of_lt_of_le hi h.size) hn).trans (h.block i hi hn)⟩
theorem Chg.mono{T T':List Nat}{a b:World}(h:Chg T a b)(hT : ∀ x,x∈T->x∈T'):Chg T' a b:=
  ⟨h.os,h.tape,h.output,h.size,λi hi hn=>h.block i hi λhm=>hn (hT _ hm)⟩
theorem Chg.any{T:List Nat}{a b:World}(h:Chg [] a b):Chg T a b:=h.mono λx hx=>by cases hx
theorem Chg.below{a b:World}(h:Chg [] a b):RowKit.Below a.heap.size a b:=⟨h.os,h.tape,h.output,h.size,λk hk=>h.block k hk oS⟩
theorem Chg.heap{T:List Nat}{a b:World}(h:Chg T a b){k:Nat}{o:Obj}(c:a.heap[k]?=some o)(d:k∉T):b.heap[k]?=some o:=by
  rw[h.block k ?_ d];exact c
  by_cases hlt:k<a.heap.size
  · exact hlt
  · rw[Array.getElem?_eq_none oO] at c;cases c
theorem azx{w:World}{k:Nat}{o:Obj}(a:w.heap[k]?=some o):k<w.heap.size:=by
  by_cases hlt:k<w.heap.size
  · exact hlt
  · rw[Array.getElem?_eq_none oO] at a;cases a
theorem Chg.drew(T:List Nat)(w:World):Chg T w w.drew:=⟨rfl,rfl,rfl,Nat.le_refl _,λ_ _ _=>rfl⟩
structure New(w:World)(b:Nat)(o:Obj)(w':World):Prop where
  chg:Chg [] w w'
  at_:w'.heap[b]?=some o
  is:b=w.heap.size
  size:w'.heap.size=w.heap.size+1
theorem asq(w:World)(o:Obj):New w w.heap.size o (w.alloc o):=
  ⟨⟨rfl,rfl,rfl,by simp,λk hk _=>RowKit.Below.heap_alloc _ _ _ hk⟩,heap_alloc_new w o,rfl,by simp⟩
structure Upd(w:World)(b:Nat)(o:Obj)(w':World):Prop where
  chg:Chg [b] w w'
  at_:w'.heap[b]?=some o
  size:w'.heap.size=w.heap.size
class aZ (P:Program) (t:TypeId) (d:outParam TypeDesc) (sz by_:outParam Nat) (z:outParam Value):Prop where
  und:P.underlying t=some d
  all:(P.info? t).map (λi=>(i.size,i.bytes,i.zero))=some (sz,by_,some z)
theorem aZ.inf{P:Program}{t:TypeId}{d:TypeDesc}{b a:Nat}{z:Value}(h:aZ P t d b a z): ∃ i,P.info? t=some i/\i.size=b/\i.bytes=a/\i.zero=some z:=by
  have:=h.all
  cases hi:P.info? t with
  | none=>rw[hi] at this;cases this
  | some i=>rw[hi] at this;simp at this;exact ⟨i,rfl,this.1,this.2.1,this.2.2⟩
def c3x:TypeDesc->Bool
  | .struct _ | .array _ _=>true
  | _=>false
section
variable {P:Program} {t:TypeId} {d:TypeDesc} {sz by_:Nat} {z:Value} {w:World}
theorem aZ.sizeOf(h:aZ P t d sz by_ z):(sizeOf t).run P w = .ok sz w:=by
  obtain ⟨i,b,a,_,_⟩:=h.inf
  simp[Go.sizeOf,typeInfo,b,a]
theorem aZ.zero(h:aZ P t d sz by_ z):(zeroValue t).run P w = .ok z w:=by
  obtain ⟨i,b,_,_,a⟩:=h.inf
  simp[zeroValue,typeInfo,b,a]
theorem aZ.underlying(h:aZ P t d sz by_ z):(underlying t).run P w = .ok d w:=by
  simp[Go.underlying,h.und]
theorem aZ.isAgg(h:aZ P t d sz by_ z):(isAgg t).run P w = .ok (c3x d) w:=by
  have:=h.underlying (w:=w)
  simp only[Go.isAgg,Sem.run_bind,this,Result.andThen]
  cases d<;>rfl
end
section
variable {P:Program} {s:Sl} {w:World} {ty:TypeId} {x y:Operand}
theorem Ev.move{v:Value}(h:g8 s x=some v):Ev P s (.move x) ty w v w:=λρ d pos af g hρ=>by
  have:=hρ x v h
  simp[execOp,this]
theorem Ev.assign{v:Value}(h:g8 s x=some v):Ev P s (.assign x) ty w v w:=λρ d pos af g hρ=>by
  have:=hρ x v h
  simp[execOp,this]
theorem Ev.aex{c a b:Operand}{t:Bool}{v:Value}(f:g8 s c=some (.bool t))(e:t=true)(h:g8 s a=some v):Ev P s (.pick c a b) ty w v w:=λρ d pos af g hρ=>by
  have h1:=hρ c _ f
  have h2:=hρ a _ h
  simp[execOp,h1,h2,asBool,e]
theorem Ev.anq{c a b:Operand}{t:Bool}{v:Value}(f:g8 s c=some (.bool t))(e:t=false)(h:g8 s b=some v):Ev P s (.pick c a b) ty w v w:=λρ d pos af g hρ=>by
  have h1:=hρ c _ f
  have h2:=hρ b _ h
  simp[execOp,h1,h2,asBool,e]
theorem Ev.extract{l:List Value}{i:Nat}{v:Value}(h:g8 s x=some (.tuple l.toArray))(a:l[i]?=some v):Ev P s (.extract x i) ty w v w:=λρ d pos af g hρ=>by
  have h1:=hρ x _ h
  simp[execOp,h1,Instr.extract,a]
theorem Ev.nilPtr{a:Addr}(h:g8 s x=some (.pointer (some a))):Ev P s (.nilCheck x) ty w (.pointer (some a)) w:=λρ d pos af g hρ=>by
  have h1:=hρ x _ h
  simp[execOp,h1]
theorem pQ{a:BinOp}{t t':TypeId}{u v r:Value}(c:g8 s x=some u)(b:g8 s y=some v)(e : ∀ x y,(eqGuard a t x y u v).run P w = .ok () w)(h:(binOp a t u v).run P w = .ok r w):
    Ev P s (.binOp a t x y t') ty w r w:=λρ d pos af g hρ=>by
  have h1:=hρ x _ c
  have h2:=hρ y _ b
  simp[execOp,h1,h2,e,h]
theorem lX(c:BinOp)(t:TypeId)(x y:Operand)(k d:IntKind)(a b:Int):(eqGuard c t x y (.int k a) (.int d b)).run P w = .ok () w:=by
  unfold eqGuard;split<;>simp
theorem biq(c:BinOp)(t:TypeId)(x y:Operand)(k d:FloatKind)(a b:Nat):(eqGuard c t x y (.float k a) (.float d b)).run P w = .ok () w:=by
  unfold eqGuard;split<;>simp
theorem cnj(c:BinOp)(t:TypeId)(x y:Operand)(a b:Bool):(eqGuard c t x y (.bool a) (.bool b)).run P w = .ok () w:=by
  unfold eqGuard;split<;>simp
theorem c0q(c:BinOp)(t:TypeId)(x y:Operand)(a b:Option Addr):(eqGuard c t x y (.pointer a) (.pointer b)).run P w = .ok () w:=by
  unfold eqGuard;split<;>simp
section
variable {t t':TypeId} {k:IntKind} {a b:Int}
theorem Ev.add(d:g8 s x=some (.int k a))(c:g8 s y=some (.int k b)):Ev P s (.binOp .add t x y t') ty w (.int k (k.wrap (a+b))) w:=
  pQ d c (λ_ _=>lX _ _ _ _ _ _ _ _) (by simp[binOp,Op.intArith])
theorem Ev.sub(d:g8 s x=some (.int k a))(c:g8 s y=some (.int k b)):Ev P s (.binOp .sub t x y t') ty w (.int k (k.wrap (a-b))) w:=
  pQ d c (λ_ _=>lX _ _ _ _ _ _ _ _) (by simp[binOp,Op.intArith])
theorem wrap_in{k:IntKind}{n:Int}(h:k.min<=n/\n<=k.max):k.wrap n=n:=by
  obtain ⟨b,a⟩:=h
  cases k<;>simp[IntKind.min,IntKind.max,IntKind.signed,IntKind.bits] at b a<;>simp[IntKind.wrap,IntKind.signed,IntKind.bits]<;>omega
theorem wrap_i64{n:Int}(h : -9223372036854775808<=n/\n<=9223372036854775807):IntKind.i64.wrap n=n:=IntWalk.i64_in n h
theorem Ev.jZ{a b:Int}(d:g8 s x=some (.int .i64 a))(c:g8 s y=some (.int .i64 b))(h : -9223372036854775808<=a+b/\a+b<=9223372036854775807):Ev P s (.binOp .add t x y t') ty w (.int .i64 (a+b)) w:=by
  have:=Ev.add (P:=P) (w:=w) (ty:=ty) (t:=t) (t':=t') d c
  rwa [wrap_i64 h] at this
theorem Ev.dX{a b:Int}(d:g8 s x=some (.int .i64 a))(c:g8 s y=some (.int .i64 b))(h : -9223372036854775808<=a-b/\a-b<=9223372036854775807):Ev P s (.binOp .sub t x y t') ty w (.int .i64 (a-b)) w:=by
  have:=Ev.sub (P:=P) (w:=w) (ty:=ty) (t:=t) (t':=t') d c
  rwa [wrap_i64 h] at this
theorem Ev.mul(d:g8 s x=some (.int k a))(c:g8 s y=some (.int k b)):Ev P s (.binOp .mul t x y t') ty w (.int k (k.wrap (a*b))) w:=
  pQ d c (λ_ _=>lX _ _ _ _ _ _ _ _) (by simp[binOp,Op.intArith])
theorem Ev.quo(d:g8 s x=some (.int k a))(c:g8 s y=some (.int k b))(h:b≠0):Ev P s (.binOp .quo t x y t') ty w (.int k (k.wrap (a.tdiv b))) w:=
  pQ d c (λ_ _=>lX _ _ _ _ _ _ _ _) (by simp[binOp,Op.intDiv,h])
theorem Ev.rem(d:g8 s x=some (.int k a))(c:g8 s y=some (.int k b))(h:b≠0):Ev P s (.binOp .rem t x y t') ty w (.int k (a.tmod b)) w:=
  pQ d c (λ_ _=>lX _ _ _ _ _ _ _ _) (by simp[binOp,Op.intDiv,h])
theorem Ev.dfq(d:g8 s x=some (.int k a))(c:g8 s y=some (.int k b))(e:0<=a)(h:0<b):Ev P s (.binOp .rem t x y t') ty w (.int k (a%b)) w:=by
  have:=Ev.rem (P:=P) (w:=w) (ty:=ty) (t:=t) (t':=t') d c oO
  rwa [Int.tmod_eq_emod_of_nonneg e] at this
theorem Ev.cax(e:g8 s x=some (.int k a))(d:g8 s y=some (.int k b))(c:0<=a)(j:a<=k.max)(h:0<b):Ev P s (.binOp .quo t x y t') ty w (.int k (a/b)) w:=by
  have:=Ev.quo (P:=P) (w:=w) (ty:=ty) (t:=t) (t':=t') e d oO
  have i:=Int.ediv_le_self b c
  have g:=Int.ediv_nonneg c (by omega:0<=b)
  have f:k.min<=0:=by cases k<;>decide
  rwa [Int.tdiv_eq_ediv_of_nonneg c,wrap_in ⟨by omega,by omega⟩] at this
theorem Ev.lss(d:g8 s x=some (.int k a))(c:g8 s y=some (.int k b)):Ev P s (.binOp .lss t x y t') ty w (.bool (decide (a<b))) w:=
  pQ d c (λ_ _=>lX _ _ _ _ _ _ _ _) (by simp[binOp,Op.intCmp])
theorem Ev.leq(d:g8 s x=some (.int k a))(c:g8 s y=some (.int k b)):Ev P s (.binOp .leq t x y t') ty w (.bool (decide (a<=b))) w:=
  pQ d c (λ_ _=>lX _ _ _ _ _ _ _ _) (by simp[binOp,Op.intCmp])
theorem Ev.gtr(d:g8 s x=some (.int k a))(c:g8 s y=some (.int k b)):Ev P s (.binOp .gtr t x y t') ty w (.bool (decide (b<a))) w:=
  pQ d c (λ_ _=>lX _ _ _ _ _ _ _ _) (by simp[binOp,Op.intCmp])
theorem Ev.geq(d:g8 s x=some (.int k a))(c:g8 s y=some (.int k b)):Ev P s (.binOp .geq t x y t') ty w (.bool (decide (b<=a))) w:=
  pQ d c (λ_ _=>lX _ _ _ _ _ _ _ _) (by simp[binOp,Op.intCmp])
theorem Ev.eql(d:g8 s x=some (.int k a))(c:g8 s y=some (.int k b)):Ev P s (.binOp .eql t x y t') ty w (.bool (decide (a=b))) w:=
  pQ d c (λ_ _=>lX _ _ _ _ _ _ _ _) (by simp[binOp,Op.intCmp];rw[Bool.eq_iff_iff];simp)
theorem Ev.neq(d:g8 s x=some (.int k a))(c:g8 s y=some (.int k b)):Ev P s (.binOp .neq t x y t') ty w (.bool (decide (a≠b))) w:=
  pQ d c (λ_ _=>lX _ _ _ _ _ _ _ _) (by simp[binOp,Op.intCmp];rw[Bool.eq_iff_iff];simp)
def aiq(op:BinOp)(k:IntKind)(a b:Int):Int:=
  let u:=BitVec.ofInt k.bits a
  let v:=BitVec.ofInt k.bits b
  match op with
  | .and=>k.wrap (u&&& v).toNat
  | .or=>k.wrap (u||| v).toNat
  | .xor=>k.wrap (u ^^^ v).toNat
  | .andNot=>k.wrap (u&&& ~~~v).toNat
  | _=>0
theorem Ev.bits{c:BinOp}(d:(c = .and\/c = .or)\/(c = .xor\/c = .andNot))(f:g8 s x=some (.int k a))(e:g8 s y=some (.int k b)):Ev P s (.binOp c t x y t') ty w (.int k (aiq c k a b)) w:=
  pQ f e (λ_ _=>lX _ _ _ _ _ _ _ _) (by rcases d with (rfl|rfl)|(rfl|rfl)<;>simp[binOp,Op.intBits,aiq])
theorem Ev.and(d:g8 s x=some (.int k a))(c:g8 s y=some (.int k b)):Ev P s (.binOp .and t x y t') ty w (.int k (aiq .and k a b)) w:=Ev.bits (.inl (.inl rfl)) d c
theorem Ev.or(d:g8 s x=some (.int k a))(c:g8 s y=some (.int k b)):Ev P s (.binOp .or t x y t') ty w (.int k (aiq .or k a b)) w:=Ev.bits (.inl (.inr rfl)) d c
theorem Ev.xor(d:g8 s x=some (.int k a))(c:g8 s y=some (.int k b)):Ev P s (.binOp .xor t x y t') ty w (.int k (aiq .xor k a b)) w:=Ev.bits (.inr (.inl rfl)) d c
theorem Ev.andNot(d:g8 s x=some (.int k a))(c:g8 s y=some (.int k b)):Ev P s (.binOp .andNot t x y t') ty w (.int k (aiq .andNot k a b)) w:=Ev.bits (.inr (.inr rfl)) d c
theorem Ev.shl{c:IntKind}(e:g8 s x=some (.int k a))(d:g8 s y=some (.int c b))(h:0<=b):Ev P s (.binOp .shl t x y t') ty w (.int k (k.wrap (a*2^(min b.toNat k.bits)))) w:=
  pQ e d (λ_ _=>lX _ _ _ _ _ _ _ _) (by simp[binOp,Op.shift,Int.not_lt.2 h])
theorem Ev.shr{c:IntKind}(e:g8 s x=some (.int k a))(d:g8 s y=some (.int c b))(h:0<=b):Ev P s (.binOp .shr t x y t') ty w (.int k (a.fdiv (2^(min b.toNat k.bits)))) w:=
  pQ e d (λ_ _=>lX _ _ _ _ _ _ _ _) (by simp[binOp,Op.shift,Int.not_lt.2 h])
theorem Ev.conv{src dst:TypeId}{d h:TypeDesc}{j e b f:Nat}{z i:Value}{c:IntKind}[m:aZ P src d j e z][o:aZ P dst h b f i](n:h = .int c)(l:g8 s x=some (.int k a)):
    Ev P s (.convert src dst x) ty w (.int c (c.wrap a)) w:=λρ d pos af g hρ=>by
  have h1:=hρ x _ l
  subst n
  simp[execOp,h1,convert,m.underlying,o.underlying,Conv.intToInt]
theorem Ev.neg(b:g8 s x=some (.int k a)):Ev P s (.unOp .neg t x) ty w (.int k (k.wrap (0-a))) w:=λρ d pos af g hρ=>by
  have h1:=hρ x _ b
  simp[execOp,h1,Op.unary,Op.intArith]
theorem Ev.compl(b:g8 s x=some (.int k a)):Ev P s (.unOp .xor t x) ty w (.int k (aiq .xor k (if k.signed then -1 else k.max) a)) w:=λρ d pos af g hρ=>by
  have h1:=hρ x _ b
  simp[execOp,h1,Op.unary,Op.intBits,aiq]
end
theorem Ev.not{t:TypeId}{b:Bool}(a:g8 s x=some (.bool b)):Ev P s (.unOp .not t x) ty w (.bool !b) w:=λρ d pos af g hρ=>by
  have h1:=hρ x _ a
  simp[execOp,h1,Op.unary]
section
variable {t t':TypeId} {k:FloatKind} {a b:Nat}
theorem Ev.feql(d:g8 s x=some (.float k a))(c:g8 s y=some (.float k b)):Ev P s (.binOp .eql t x y t') ty w (.bool (k.format.order a b==some .eq)) w:=
  pQ d c (λ_ _=>biq _ _ _ _ _ _ _ _) (by simp[binOp,Op.floatCmp])
theorem Ev.fneq(d:g8 s x=some (.float k a))(c:g8 s y=some (.float k b)):Ev P s (.binOp .neq t x y t') ty w (.bool (k.format.order a b != some .eq)) w:=
  pQ d c (λ_ _=>biq _ _ _ _ _ _ _ _) (by simp[binOp,Op.floatCmp])
theorem Ev.fgtr(d:g8 s x=some (.float k a))(c:g8 s y=some (.float k b)):Ev P s (.binOp .gtr t x y t') ty w (.bool (k.format.order a b==some .gt)) w:=
  pQ d c (λ_ _=>biq _ _ _ _ _ _ _ _) (by simp[binOp,Op.floatCmp])
theorem Ev.fneg(b:g8 s x=some (.float k a)):Ev P s (.unOp .neg t x) ty w (.float k (Op.negFloat k a)) w:=λρ d pos af g hρ=>by
  have h1:=hρ x _ b
  simp[execOp,h1,Op.unary]
end
theorem Ev.ext{f:FuncId}{xs:List Operand}{at_:Array TypeId}{vs:List Value}{v:Value}(a:baq s xs=some vs)(h:(callFunc f vs.toArray).run P w = .ok (.value v) w):Ev P s (.call ⟨.value (.func f),xs.toArray,at_⟩) ty w v w:=λρ d pos af g hρ=>by
  have e1:ρ (.func f) = .func (.func f) #[] #[]:=hρ _ _ rfl
  have e2:=bmq hρ xs vs a
  simp[execOp,resolve,e1,Deferred.ofValue,invoke,e2,h]
section
variable {t:TypeId} {d:TypeDesc} {sz by_:Nat} {z:Value} {a:Addr}
theorem Ev.load{v:Value}[hT:aZ P t d sz by_ z](c:c3x d=false)(b:g8 s x=some (.pointer (some a)))(e:w.cell? a=some v):Ev P s (.load t x) ty w v w:=λρ d' pos af g hρ=>by
  have h1:=hρ x _ b
  simp[execOp,h1,Instr.loadAt,Instr.sureAddr,loadVar,hT.isAgg,c,e]
theorem Ev.avq{cs:List Value}[hT:aZ P t d sz by_ z](e:c3x d=true)(c:cs.length=sz)(b:g8 s x=some (.pointer (some a)))(f : ∀ j v,cs[j]?=some v->w.cell? (a.add j)=some v):Ev P s (.load t x) ty w (.agg cs.toArray) w:=λρ d' pos af g hρ=>by
  have h1:=hρ x _ b
  have h2:=run_loadCells_list (P:=P) w a cs f
  rw[c] at h2
  simp[execOp,h1,Instr.loadAt,Instr.sureAddr,loadVar,hT.isAgg,e,hT.sizeOf,h2]
class eZ (P:Program) (t:TypeId) (i:Nat) (off:outParam Nat):Prop where
  run : ∀ (a:Addr) (w:World),(Instr.fieldAt t (.pointer (some a)) i).run P w = .ok (.pointer (some (a.add off))) w
theorem awx(b o a:Nat):Addr.add ⟨b,o,none⟩ a=⟨b,o+a,none⟩:=by
  unfold Addr.add;split
  · rename_i h;subst h;rfl
  · rfl
theorem Ev.fieldAddr{i b o a:Nat}[hF:eZ P t i a](c:g8 s x=some (.pointer (some ⟨b,o,none⟩))):
    Ev P s (.fieldAddr t x i) ty w (.pointer (some ⟨b,o+a,none⟩)) w:=λρ d' pos af g hρ=>by
  have h1:=hρ x _ c
  have h2:=hF.run ⟨b,o,none⟩ w
  rw[awx] at h2
  simp[execOp,h1,h2]
end
end
end Sx
namespace Sx
open Go
theorem New.ge{w w':World}{b:Nat}{o:Obj}(h:New w b o w'):w.heap.size<=b:=by have:=h.is;omega
theorem a5j{w:World}{b i:Nat}{l:List Value}{t:TypeId}{a:Nat×Nat}(h:w.heap[b]?=some (.cells l.toArray t a)):w.cell? ⟨b,i,none⟩=l[i]?:=by
  rw[cell_of_row w b i _ t a h];simp
theorem cell_at'{w:World}{b i:Nat}{l:Array Value}{t:TypeId}{a:Nat×Nat}(h:w.heap[b]?=some (.cells l t a)):w.cell? ⟨b,i,none⟩=l[i]?:=cell_of_row w b i _ t a h
theorem Chg.cell{T:List Nat}{w w':World}(h:Chg T w w'){p:Addr}{v:Value}(a:w.cell? p=some v)(b:p.block∉T):w'.cell? p=some v:=by
  rw[World.cell?_of_block (w:=w) (h.block _ (block_lt_of_cell a) b)];exact a
theorem bcq(w:World)(b i:Nat)(l:List Value)(t:TypeId)(v:Value)(h:w.heap[b]?=some (.cells l.toArray t (0,0))):Upd w b (.cells (l.set i v).toArray t (0,0)) (w.setCell ⟨b,i,none⟩ v):=by
  refine ⟨⟨rfl,rfl,rfl,by simp,λk c a=>?_⟩,?_,by simp⟩
  · exact RowKit.Below.heap_setCell _ _ _ _ (by simpa using a)
  · rw[heap_setCell_same w b i _ t v h];simp
section
variable {P:Program} {n:Nat} {D:List Deferred} {s:Sl} {w:World} {ty:TypeId} {x y:Operand} {ops:Array Oper} {K:KK} {rest:List Oper} {pos:String} {af:Array Edge} {d:Nat}
theorem WL.box{t:TypeId}{v:Value}{l:List Value}(a:g8 s x=some v)(c:v.cells=l.toArray)(e:Nat.blt d n=true)
    (k : ∀ b w',New w b (.cells l.toArray t) w'->WL P ops K rest n D ((d,.pointer (some ⟨b,0,none⟩))::s) w'):WL P ops K (⟨some d,.box t x,ty,pos,af,none⟩::rest) n D s w:=
  WL.ev (v:=.pointer (some ⟨w.heap.size,0,none⟩)) (w':=w.alloc (.cells l.toArray t)) (λρ d' pos af g hρ=>by
    have h1:=hρ x _ a
    simp[execOp,h1,Instr.box,newVar,newRow,c]) e (k _ _ (asq _ _))
theorem WL.alloc{t:TypeId}{h:TypeDesc}{c a:Nat}{z:Value}{l:List Value}[hT:aZ P t h c a z](e:z.cells=l.toArray)(f:Nat.blt d n=true)
    (k : ∀ b w',New w b (.cells l.toArray t) w'->WL P ops K rest n D ((d,.pointer (some ⟨b,0,none⟩))::s) w'):WL P ops K (⟨some d,.alloc t,ty,pos,af,none⟩::rest) n D s w:=
  WL.ev (v:=.pointer (some ⟨w.heap.size,0,none⟩)) (w':=w.alloc (.cells l.toArray t)) (λρ d' pos af g hρ=>by
    simp[execOp,Instr.alloc,hT.zero,newVar,newRow,e]) f (k _ _ (asq _ _))
theorem b6j{w:World}{b i:Nat}{l:Array Value}{t:TypeId}(h:w.heap[b]?=some (.cells l t (0,0))):w.frozen? ⟨b,i,none⟩=false:=by
  simp[World.frozen?,h]
theorem WL.store{t:TypeId}{j:TypeDesc}{c:Nat}{z:Value}{b i:Nat}{l:List Value}{T:TypeId}{v:Value}[hT:aZ P t j 1 c z](f:g8 s x=some (.pointer (some ⟨b,i,none⟩)))(e:g8 s y=some v)(d:v.oneCell'=true)
    (a:w.heap[b]?=some (.cells l.toArray T (0,0))) (h:i<l.length) (k : ∀ w',Upd w b (.cells (l.set i v).toArray T (0,0)) w'->WL P ops K rest n D s w'):WL P ops K (⟨none,.store t x y,ty,pos,af,none⟩::rest) n D s w:=
  WL.evs (w':=w.setCell ⟨b,i,none⟩ v) (λρ d' pos af g hρ=>by
    have e1:=hρ x _ f
    have e2:=hρ y _ e
    have e3:v.cells = #[v]:=by cases v<;>first|rfl|cases d
    have e4:w.cell? ⟨b,i,none⟩=some l[i]:=by rw[a5j a];simp[h]
    have e5:w.frozen? ⟨b,i,none⟩=false:=b6j a
    simp[execOp,e1,e2,Instr.storeAt,Instr.sureAddr,storeVar,hT.sizeOf,e3,storeCells,Addr.add,run_store _ _ _ _ _ d,e4,e5]) (k _ (bcq w b i l T v a))
def splice(l:List Value)(i:Nat):List Value->List Value
  | []=>l
  | v::r=>splice (l.set i v) (i+1) r
theorem bxq(b:Nat)(T:TypeId): ∀ (vs:List Value) (l:List Value) (o j:Nat) (w:World),(∀ v∈vs,v.oneCell'=true)->w.heap[b]?=some (.cells l.toArray T (0,0))->o+j+vs.length<=l.length->
    ∃ w',(storeCells ⟨b,o,none⟩ vs j).run P w = .ok () w'/\Upd w b (.cells (splice l (o+j) vs).toArray T (0,0)) w':=by
  intro vs
  induction vs with
  | nil=>intro l o j w _ c _;exact ⟨w,by simp[storeCells],⟨Chg.refl _ _,c,rfl⟩⟩
  | cons v r ih=>
    intro l o j w e c g
    simp only[List.length_cons] at g
    have i:(Addr.add ⟨b,o,none⟩ j)=⟨b,o+j,none⟩:=by
      unfold Addr.add;split
      · rename_i h;subst h;rfl
      · rfl
    have m:w.cell? ⟨b,o+j,none⟩=some l[o+j]:=by rw[a5j c];simp
    have k:w.frozen? ⟨b,o+j,none⟩=false:=b6j c
    have d:=bcq w b (o+j) l T v c
    obtain ⟨w',f,a⟩:=ih (l.set (o+j) v) o (j+1) (w.setCell ⟨b,o+j,none⟩ v) (λx hx=>e x (by simp[hx])) d.at_ oT
    refine ⟨w',?_,⟨d.chg.trans a.chg,a.at_,by rw[a.size,d.size]⟩⟩
    simp only[storeCells,Sem.run_bind,i,run_store _ _ _ _ _ (e v oS),m,k]
    simpa using f
theorem WL.storeAgg{t:TypeId}{B:TypeDesc}{c a:Nat}{z:Value}{b i:Nat}{l vs:List Value}{T:TypeId}[hT:aZ P t B c a z](f:g8 s x=some (.pointer (some ⟨b,i,none⟩)))(e:g8 s y=some (.agg vs.toArray))(j:vs.length=c)(q : ∀ v∈vs,v.oneCell'=true)
    (p:w.heap[b]?=some (.cells l.toArray T (0,0))) (o:i+vs.length<=l.length) (k : ∀ w',Upd w b (.cells (splice l i vs).toArray T (0,0)) w'->WL P ops K rest n D s w'):WL P ops K (⟨none,.store t x y,ty,pos,af,none⟩::rest) n D s w:=by
  obtain ⟨w',m,h⟩:=bxq (P:=P) b T vs l i 0 w q p (by simpa using o)
  refine WL.evs (w':=w') (λρ C pos af g d=>?_) (k _ (by simpa using h))
  have A:=d x _ f
  have u:=d y _ e
  have r:(Value.agg vs.toArray).cells=vs.toArray:=rfl
  simp[execOp,A,u,Instr.storeAt,Instr.sureAddr,storeVar,hT.sizeOf,r,j,m]
theorem ckx{w:World}{t:TypeId}{u v:Value}{r:Bool}(h : ∀ d,(Op.equalIn (d+1) t u v).run P w = .ok r w):(Op.equal t u v).run P w = .ok r w:=h 9999
theorem run_eql_ptr{w:World}{t:TypeId}{a b:Option Addr}{r:Bool}(h : ∀ d,(Op.equalIn (d+1) t (.pointer a) (.pointer b)).run P w = .ok r w):(binOp .eql t (.pointer a) (.pointer b)).run P w = .ok (.bool r) w:=by
  have:=ckx h
  simp only[binOp]
  simp[this]
theorem run_neq_ptr{w:World}{t:TypeId}{a b:Option Addr}{r:Bool}(h : ∀ d,(Op.equalIn (d+1) t (.pointer a) (.pointer b)).run P w = .ok r w):(binOp .neq t (.pointer a) (.pointer b)).run P w = .ok (.bool (!r)) w:=by
  have:=ckx h
  simp only[binOp]
  simp[this]
theorem Ev.azj{t t' e:TypeId}{c b:Nat}{z:Value}{a:Option Addr}[hT:aZ P t (.pointer e) c b z](g:g8 s x=some (.pointer a))(f:g8 s y=some (.pointer none)):Ev P s (.binOp .eql t x y t') ty w (.bool a.isNone) w:=
  pQ g f (λ_ _=>c0q _ _ _ _ _ _) (run_eql_ptr λd=>by
    cases a<;>simp[Op.equalIn,hT.underlying])
theorem Ev.b5q{t t' e:TypeId}{c b:Nat}{z:Value}{a:Option Addr}[hT:aZ P t (.pointer e) c b z](g:g8 s x=some (.pointer a))(f:g8 s y=some (.pointer none)):Ev P s (.binOp .neq t x y t') ty w (.bool (!a.isNone)) w:=
  pQ g f (λ_ _=>c0q _ _ _ _ _ _) (run_neq_ptr λd=>by
    cases a<;>simp[Op.equalIn,hT.underlying])
def rdR(tmps:Array Value):ResultVar->Sem Value
  | .tmp t=>pure (tmps.getD t undef)
  | .cell a t=>do loadVar t (<- asAddr (tmps.getD a undef))
def aX(P:Program)(n:Nat)(D:List Deferred)(s:Sl)(w:World)(r:ResultVar)(v:Value):Prop:=∀ a,Fr n D s a->(rdR a.tmps r).run P w = .ok v w
theorem loadVar_one{t:TypeId}{c:TypeDesc}{d b:Nat}{z v:Value}{a:Addr}[hT:aZ P t c d b z](e:c3x c=false)(f:w.cell? a=some v):(loadVar t a).run P w = .ok v w:=by
  simp[loadVar,hT.isAgg,e,f]
theorem loadVar_agg{t:TypeId}{e:TypeDesc}{c b:Nat}{z:Value}{a:Addr}{cs:List Value}[hT:aZ P t e c b z](g:c3x e=true)(f:cs.length=c)(h : ∀ j v,cs[j]?=some v->w.cell? (a.add j)=some v):(loadVar t a).run P w = .ok (.agg cs.toArray) w:=by
  have d:=run_loadCells_list (P:=P) w a cs h
  rw[f] at d
  simp[loadVar,hT.isAgg,g,hT.sizeOf,d]
theorem aX.tmp{t:Nat}{v:Value}(h:look s t=some v):aX P n D s w (.tmp t) v:=λa ha=>by
  simp only[rdR,ha.getD h];rfl
theorem aX.cell{t a:Nat}{c:Addr}{v:Value}(h:look s a=some (.pointer (some c)))(d:(loadVar t c).run P w = .ok v w):aX P n D s w (.cell a t) v:=λb hb=>by
  simp[rdR,hb.getD h,asAddr,d]
theorem bdq(b:Func)(a:Array Value):results b a=(do let vs <- b.results.mapM (rdR a);pure (if h:vs.size=1 then vs[0] else .tuple vs)):=rfl
theorem k8.qJ{b:Func}{R:Value->World->Prop}{r:ResultVar}{v:Value}(c:b.results = #[r])(h:aX P n [] s w r v)(d:R v w):k8 P b n R .ret [] s w:=
  k8.mk (.inl rfl) (λa ha=>by rw[bdq,c];simp[h a ha]) d
theorem k8.gJ{b:Func}{R:Value->World->Prop}{r q:ResultVar}{v u:Value}(c:b.results = #[r,q])(h:aX P n [] s w r v)(e:aX P n [] s w q u)(d:R (.tuple [v,u].toArray) w):k8 P b n R .ret [] s w:=
  k8.mk (.inl rfl) (λa ha=>by rw[bdq,c];simp[h a ha,e a ha]) d
theorem k8.ckq{b:Func}{R:Value->World->Prop}{r q p:ResultVar}{v u x:Value}(c:b.results = #[r,q,p])(h:aX P n [] s w r v)(f:aX P n [] s w q u)(e:aX P n [] s w p x)(d:R (.tuple [v,u,x].toArray) w):k8 P b n R .ret [] s w:=
  k8.mk (.inl rfl) (λa ha=>by rw[bdq,c];simp[h a ha,f a ha,e a ha]) d
theorem acx{P:Program}{t:TypeId}{b a:Array Field}(h:P.underlying t=some (.struct b))(g:P.underlying t=some (.struct a)):a=b:=by
  rw[h] at g;injection g with g;injection g with g;exact g.symm
class b8j (P:Program) (t:TypeId) (pl:outParam (Array (Nat×Nat))):Prop where
  run : ∀ (w:World) (fs:Array Field),P.underlying t=some (.struct fs)->(fs.mapM λf:Field=>(do pure (f.offset,<- sizeOf f.type):Sem (Nat×Nat))).run P w = .ok pl w
def bnx(s:Sl):List (Nat×Operand)->Option (List (Nat×Value))
  | []=>some []
  | (i,x)::r=>match g8 s x,bnx s r with
    | some v,some vs=>some ((i,v)::vs)
    | _,_=>none
theorem bmj{s:Sl}{ρ:Operand->Value}(h : ∀ x u,g8 s x=some u->ρ x=u): ∀ (l:List (Nat×Operand)) vs,bnx s l=some vs->l.map (λp=>(p.1,ρ p.2))=vs
  | [],vs,he=>by simp only[bnx] at he;cases he;rfl
  | (i,x)::r,vs,he=>by
    simp only[bnx] at he
    split at he
    · rename_i v vs' h1 h2
      cases he
      simp[h x v h1,bmj h r vs' h2]
    · cases he
theorem Ev.build{t:TypeId}{d:Array Field}{e b:Nat}{z:Value}{a:List (Nat×Operand)}{vs:List (Nat×Value)}{c:Array (Nat×Nat)}{cs:List Value}[hT:aZ P t (.struct d) e b z][i:b8j P t c]
    (f:bnx s a=some vs) (h:Instr.fill (c[·]?) z.cells vs=some cs.toArray):Ev P s (.build t a.toArray) ty w (.agg cs.toArray) w:=λρ d' pos af g hρ=>by
  have h1:=bmj hρ a vs f
  have h2:=i.run w d hT.und
  simp only[bind_pure_comp] at h2
  simp[execOp,Instr.build,hT.zero,hT.underlying,h1,h2,h]
theorem WL.buildSlice{t e:TypeId}{A:TypeDesc}{q o a B:Nat}{z ze:Value}{l:List (Nat×Operand)}{vs:List (Nat×Value)}{cs:List Value}{m:Nat}{j:Array Oper}{K:KK}{c:List Oper}{f:String}{p:Array Edge}{d:Nat}[hT:aZ P t (.slice e) q o z][hE:aZ P e A a B ze]
    (C:m*a<=2^24) (u:0<m*a) (r:bnx s l=some vs) (x:Instr.fill (λi=>some (i*a,a)) ((Array.range (m*a)).map (ze.cells[· % ze.cells.size]!)) vs=some cs.toArray) (y:Nat.blt d n=true)
    (k : ∀ b w',New w b (.cells cs.toArray e) w'->WL P j K c n D ((d,.slice (some ⟨b,0,none⟩) m m)::s) w'):WL P j K (⟨some d,.buildSlice t m l.toArray,ty,f,p,none⟩::c) n D s w:=
  WL.ev (v:=.slice (some ⟨w.heap.size,0,none⟩) m m) (w':=w.alloc (.cells cs.toArray e)) (λρ d' f p g hρ=>by
    have h1:=bmj hρ l vs r
    have h3 : ¬(16777216<m*a):=by have:(2:Nat)^24=16777216:=rfl;omega
    have h4 : ¬(m*a=0):=by omega
    have h5 : ¬(m=0\/a=0):=by
      intro h;rcases h with h|h<;>simp[h] at u
    simp[execOp,Instr.buildSlice,hT.underlying,hE.sizeOf,hE.zero,h1,h3,h5,x,newRow]
    intro h;exact absurd h h4) y (k _ _ (asq _ _))
theorem Ev.len{t:TypeId}{a:Option Addr}{m c e:Nat}{d b:Nat}{z:Value}[hT:aZ P t (.slice e) d b z](f:g8 s x=some (.slice a m c)):Ev P s (.call ⟨.builtin .len,[x].toArray,#[t]⟩) ty w (.int .i64 (m:Int)) w:=λρ d' pos af g hρ=>by
  have e1:=hρ x _ f
  simp[execOp,resolve,invoke,builtin,e1,Builtin.len_,hT.underlying,goInt]
theorem Ev.indexAddr{t:TypeId}{b o m c e:Nat}{a r:Nat}{k:IntKind}{i:Int}{q:TypeDesc}{ze:Value}{f d:Nat}{z:Value}[hT:aZ P t (.slice e) f d z][hE:aZ P e q a r ze](l:g8 s x=some (.slice (some ⟨b,o,none⟩) m c))(j:g8 s y=some (.int k i))(p:0<=i)(n:i<m):
    Ev P s (.indexAddr t x y) ty w (.pointer (some ⟨b,o+i.toNat*a,none⟩)) w:=λρ d' pos af g hρ=>by
  have e1:=hρ x _ l
  have e2:=hρ y _ j
  have ha:(Addr.add ⟨b,o,none⟩ (i.toNat*a))=⟨b,o+i.toNat*a,none⟩:=by
    unfold Addr.add;split
    · rename_i h;rw[h];rfl
    · rfl
  simp[execOp,e1,e2,Instr.indexAt,asIntOf,hT.underlying,p,n,hE.sizeOf,ha]
theorem Ev.indexAddrArr{t:TypeId}{b o m e:Nat}{a q:Nat}{k:IntKind}{i:Int}{p:TypeDesc}{ze:Value}{d c:Nat}{z:Value}[hT:aZ P t (.array m e) d c z][hE:aZ P e p a q ze](j:g8 s x=some (.pointer (some ⟨b,o,none⟩)))(f:g8 s y=some (.int k i))(n:0<=i)(l:i<m):
    Ev P s (.indexAddr t x y) ty w (.pointer (some ⟨b,o+i.toNat*a,none⟩)) w:=λρ d' pos af g hρ=>by
  have e1:=hρ x _ j
  have e2:=hρ y _ f
  have ha:(Addr.add ⟨b,o,none⟩ (i.toNat*a))=⟨b,o+i.toNat*a,none⟩:=by
    unfold Addr.add;split
    · rename_i h;rw[h];rfl
    · rfl
  simp[execOp,e1,e2,Instr.indexAt,Instr.sureAddr,asIntOf,hT.underlying,n,l,hE.sizeOf,ha]
def cutAt(a:Option Addr)(l m es:Nat):Option Addr:=if m=l then a else a.map (·.add (l*es))
theorem Ev.sliceL{t:TypeId}{a:Option Addr}{m c e:Nat}{d o:Nat}{k:IntKind}{lo:Int}{n:TypeDesc}{ze:Value}{f b:Nat}{z:Value}{p:Operand}[hT:aZ P t (.slice e) f b z][hE:aZ P e n d o ze]
    (h:g8 s x=some (.slice a m c)) (i:g8 s p=some (.int k lo)) (l:0<=lo) (j:lo<=m) :
    Ev P s (.slice t x (some p) none none) ty w (.slice (cutAt a lo.toNat c d) (m-lo.toNat) (c-lo.toNat)) w:=λρ d' pos af g hρ=>by
  have e1:=hρ x _ h
  have e2:=hρ p _ i
  simp[execOp,e1,e2,Instr.sliceAt,Instr.slice,hT.underlying,Instr.sliceBounds,Instr.sliceBound,asIntOf,l,j,hE.sizeOf,cutAt]
theorem Ev.sliceH{t:TypeId}{a:Option Addr}{m c e:Nat}{n p:Nat}{h:IntKind}{b:Int}{o:TypeDesc}{ze:Value}{f d:Nat}{z:Value}{q:Operand}[hT:aZ P t (.slice e) f d z][hE:aZ P e o n p ze]
    (i:g8 s x=some (.slice a m c)) (j:g8 s q=some (.int h b)) (l:0<=b) (k:b<=c) :
    Ev P s (.slice t x none (some q) none) ty w (.slice a b.toNat c) w:=λρ d' pos af g hρ=>by
  have e1:=hρ x _ i
  have e3:=hρ q _ j
  simp[execOp,e1,e3,Instr.sliceAt,Instr.slice,hT.underlying,Instr.sliceBounds,Instr.sliceBound,asIntOf,l,k,hE.sizeOf]
  intro _;cases a<;>simp[Addr.add]
theorem WL.make{t:TypeId}{e o A:Nat}{q r:IntKind}{l c:Int}{Q:TypeDesc}{ze:Value}{B p:Nat}{z:Value}[hT:aZ P t (.slice e) B p z][hE:aZ P e Q o A ze](F:g8 s x=some (.int q l))(C:g8 s y=some (.int r c))
    (J:0<=l) (a:l<=c) (I:(A:Int)*c<=281474976710656) (m:c<=9223372036854775807) (H:Nat.blt d n=true)
    (k : ∀ b w',New w b (.cells (madeCells ze.cells (c.toNat*o)) e) w'->WL P ops K rest n D ((d,.slice (some ⟨b,0,none⟩) l.toNat c.toNat)::s) w'):WL P ops K (⟨some d,.makeSlice t x y,ty,pos,af,none⟩::rest) n D s w:=by
  obtain ⟨i,G,j,h,f⟩:=hE.inf
  refine WL.ev (v:=.slice (some ⟨w.heap.size,0,none⟩) l.toNat c.toNat) (w':=w.alloc (.cells (madeCells ze.cells (c.toNat*o)) e)) (λρ R pos af g u=>?_) H (k _ _ (asq _ _))
  have O:=u x _ F
  have M:=u y _ C
  have:=run_make (P:=P) w t e i ze hT.und G f q r l c J a (by rw[h];exact I) m
  rw[j] at this
  simp[execOp,O,M,this]
theorem own_keep{w w':World}{T:List Nat}{e f:Nat}{v:Value}{m:Nat}{xs:List Value}(h:w.ownsRow 0 e f v m xs)(j:Chg T w w')(i : ∀ b,v.ownBlock=some b->b∉T):w'.ownsRow 0 e f v m xs:=by
  obtain ⟨k,a⟩:=h
  refine ⟨k,?_⟩
  rcases a with a|⟨g,d,c,rfl,o,n,l⟩
  · exact .inl a
  · exact .inr ⟨g,d,c,rfl,o,j.heap n (i g rfl),l⟩
theorem own_form{w:World}{e b:Nat}{v:Value}{m:Nat}{xs:List Value}(h:w.ownsRow 0 e b v m xs): ∃ a cap,v = .slice a m cap:=by
  rcases h.2 with ⟨rfl,rfl⟩|⟨g,cap,c,rfl,_⟩
  · exact ⟨_,_,rfl⟩
  · exact ⟨_,_,rfl⟩
theorem dkj{w:World}{e i:Nat}{a:Option Addr}{m n cap:Nat}{xs:List Value}(h:w.ownsRow 0 e i (.slice a n cap) m xs)(k:0<xs.length): ∃ g,a=some ⟨g,0,none⟩/\∀ j x,xs[j]?=some x->w.cell? ⟨g,j,none⟩=some x:=by
  obtain ⟨f,t⟩:=h
  rcases t with ⟨_,rfl⟩|⟨g,v,u,p,_,r,_,_,s,q⟩
  · simp at f;rw[f] at k;simp at k
  · injection p with c o l
    refine ⟨g,c,λj x b=>?_⟩
    rw[cell_at' r]
    have d:j<m*i:=by
      rw[<- f]
      by_cases hlt:j<xs.length
      · exact hlt
      · rw[List.getElem?_eq_none oO] at b;cases b
    rw[<- q,List.getElem?_take,if_pos d] at b
    simpa using b
theorem own_lt{w:World}{e c:Nat}{v:Value}{m:Nat}{xs:List Value}(h:w.ownsRow 0 e c v m xs){b:Nat}(a:v.ownBlock=some b):b<w.heap.size:=by
  rcases h.2 with ⟨rfl,_⟩|⟨g,f,d,rfl,_,i,_⟩
  · cases a
  · cases a;exact azx i
theorem WL.append{t e f G:Nat}{de:TypeDesc}{ze:Value}{J F:Nat}{z:Value}{v:Value}{m:Nat}{xs:List Value}{H:Addr}{mm c:Nat}{news:List Value}[hT:aZ P t (.slice e) J F z][hE:aZ P e de f G ze]
    (p:ze.cells.size=f) (q:0<f) (O:g8 s x=some v) (M:g8 s y=some (.slice (some H) mm c)) (h:w.ownsRow 0 e f v m xs) (U:news.length=mm*f) (b : ∀ j u,news[j]?=some u->w.cell? (H.add j)=some u) (h1 : ∀ u∈news,u.oneCell'=true)
    (C:m+mm<=maxLen) (a:(m+mm)*G<=140737488355328) (Z:Nat.blt d n=true)
    (k : ∀ v' w',w'.ownsRow 0 e f v' (m+mm) (xs++news)->Chg v.ownBlock.toList w w'->(v'.ownBlock=v.ownBlock\/v'.ownBlock=some w.heap.size)->WL P ops K rest n D ((d,v')::s) w') :
    WL P ops K (⟨some d,.call ⟨.builtin .append,[x,y].toArray,#[t,t]⟩,ty,pos,af,none⟩::rest) n D s w:=by
  obtain ⟨i,X,B,A,r⟩:=hE.inf
  obtain ⟨v',w',Q,R,o,_,l⟩:=run_append_own_at (P:=P) w 0 t ty e i ze f G hT.und X r B A p q v m xs h H mm c news U b h1 C a (Nat.zero_le _)
  refine WL.ev (v:=v') (w':=w') (λρ d' pos af g I=>?_) Z (k _ _ R ⟨o.os,o.tape,o.output,o.size,λj V T=>o.block j V λY=>T ?_⟩ l)
  · have e1:=I x _ O
    have e2:=I y _ M
    simp[execOp,resolve,invoke,builtin,e1,e2,Q]
  · rw[<- Y];simp
theorem a5x{t:TypeId}{A:TypeDesc}{c a:Nat}{z:Value}{b i:Nat}{l vs:List Value}{T:TypeId}[hT:aZ P t A c a z](h:g8 s x=some (.pointer (some ⟨b,i,none⟩)))(f:g8 s y=some (.agg vs.toArray))(k:vs.length=c)(p : ∀ v∈vs,v.oneCell'=true)
    (o:w.heap[b]?=some (.cells l.toArray T (0,0))) (n:i+vs.length<=l.length) : ∃ w',EvS P s (.store t x y) ty w w'/\Upd w b (.cells (splice l i vs).toArray T (0,0)) w':=by
  obtain ⟨w',m,j⟩:=bxq (P:=P) b T vs l i 0 w p o (by simpa using n)
  refine ⟨w',λρ B e C g d=>?_,by simpa using j⟩
  have u:=d x _ h
  have r:=d y _ f
  have q:(Value.agg vs.toArray).cells=vs.toArray:=rfl
  simp[execOp,u,r,Instr.storeAt,Instr.sureAddr,storeVar,hT.sizeOf,q,k,m]
theorem bmx{w:World}{e i:Nat}{v:Value}{m:Nat}{xs:List Value}(h:w.ownsRow 0 e i v m xs):(v = .slice none 0 0/\m=0/\xs=[])\/∃ g cap,v = .slice (some ⟨g,0,none⟩) m cap/\m<=cap/\g<w.heap.size/\∀ j x,xs[j]?=some x->w.cell? ⟨g,j,none⟩=some x:=by
  have t:=@dkj w e i
  obtain ⟨p,o⟩:=h
  rcases o with ⟨rfl,rfl⟩|⟨g,f,d,rfl,s,l,k,r,q⟩
  · exact .inl ⟨rfl,rfl,List.length_eq_zero_iff.1 oO⟩
  · refine .inr ⟨g,f,rfl,k,azx l,λj x c=>?_⟩
    by_cases hp:0<xs.length
    · obtain ⟨u,b,n⟩:=dkj (a:=some ⟨g,0,none⟩) (cap:=f) ⟨p,.inr ⟨g,f,d,rfl,s,l,k,r,q⟩⟩ hp
      injection b with b;injection b with b;subst b
      exact n j x c
    · rw[List.getElem?_eq_none oO] at c;cases c
theorem ev_append{t e d B:Nat}{Z:TypeDesc}{ze:Value}{F A:Nat}{z:Value}{v:Value}{m:Nat}{xs:List Value}{C:Addr}{mm c:Nat}{news:List Value}[hT:aZ P t (.slice e) F A z][hE:aZ P e Z d B ze]
    (l:ze.cells.size=d) (n:0<d) (I:g8 s x=some v) (H:g8 s y=some (.slice (some C) mm c)) (f:w.ownsRow 0 e d v m xs) (Q:news.length=mm*d) (b : ∀ j u,news[j]?=some u->w.cell? (C.add j)=some u) (V : ∀ u∈news,u.oneCell'=true)
    (r:m+mm<=maxLen) (a:(m+mm)*B<=140737488355328) :
    ∃ v' w',Ev P s (.call ⟨.builtin .append,[x,y].toArray,#[t,t]⟩) ty w v' w'/\w'.ownsRow 0 e d v' (m+mm) (xs++news)/\Chg v.ownBlock.toList w w'/\(v'.ownBlock=v.ownBlock\/v'.ownBlock=some w.heap.size):=by
  obtain ⟨i,T,q,p,o⟩:=hE.inf
  obtain ⟨v',w',J,M,k,_,h⟩:=run_append_own_at (P:=P) w 0 t ty e i ze d B hT.und T o q p l n v m xs f C mm c news Q b V r a (Nat.zero_le _)
  refine ⟨v',w',λρ d' G af g D=>?_,M,⟨k.os,k.tape,k.output,k.size,λj R O=>k.block j R λU=>O ?_⟩,h⟩
  · have Y:=D x _ I
    have X:=D y _ H
    simp[execOp,resolve,invoke,builtin,Y,X,J]
  · rw[<- U];simp
theorem aox{t e:TypeId}{n:TypeDesc}{f d a o:Nat}{z ze:Value}{c:List (Nat×Operand)}{vs:List (Nat×Value)}{cs:List Value}{m:Nat}[hT:aZ P t (.slice e) f d z][hE:aZ P e n a o ze]
    (p:m*a<=2^24) (k:0<m*a) (j:bnx s c=some vs) (l:Instr.fill (λi=>some (i*a,a)) ((Array.range (m*a)).map (ze.cells[· % ze.cells.size]!)) vs=some cs.toArray) :
    ∃ b w',Ev P s (.buildSlice t m c.toArray) ty w (.slice (some ⟨b,0,none⟩) m m) w'/\New w b (.cells cs.toArray e) w':=
  ⟨w.heap.size,w.alloc (.cells cs.toArray e),λρ d' pos af g hρ=>by
    have h1:=bmj hρ c vs j
    have h3 : ¬(16777216<m*a):=by have:(2:Nat)^24=16777216:=rfl;omega
    have h4 : ¬(m*a=0):=by omega
    have h5 : ¬(m=0\/a=0):=by
      intro h;rcases h with h|h<;>simp[h] at k
    simp[execOp,Instr.buildSlice,hT.underlying,hE.sizeOf,hE.zero,h1,h3,h5,l,newRow]
    intro h;exact absurd h h4,asq _ _⟩
theorem Ev.indexAddrG{t:TypeId}{d:Addr}{m c e:Nat}{b p:Nat}{k:IntKind}{i:Int}{o:TypeDesc}{ze:Value}{f a:Nat}{z:Value}[hT:aZ P t (.slice e) f a z][hE:aZ P e o b p ze](j:g8 s x=some (.slice (some d) m c))(h:g8 s y=some (.int k i))(n:0<=i)(l:i<m):
    Ev P s (.indexAddr t x y) ty w (.pointer (some (d.add (i.toNat*b)))) w:=λρ d' pos af g hρ=>by
  have e1:=hρ x _ j
  have e2:=hρ y _ h
  simp[execOp,e1,e2,Instr.indexAt,asIntOf,hT.underlying,n,l,hE.sizeOf]
theorem Ev.bbq{t t':TypeId}{e c:Nat}{z:Value}{a b:Bool}[hT:aZ P t .bool e c z](g:g8 s x=some (.bool a))(f:g8 s y=some (.bool b)):Ev P s (.binOp .eql t x y t') ty w (.bool (a==b)) w:=
  pQ g f (λ_ _=>cnj _ _ _ _ _ _) (by
    have:=ckx (P:=P) (w:=w) (t:=t) (u:=.bool a) (v:=.bool b) (r:=a==b) λd=>by simp[Op.equalIn,hT.underlying]
    simp only[binOp]
    simp[this])
theorem d7j{t:TypeId}{j:TypeDesc}{c:Nat}{z:Value}{b i:Nat}{l:List Value}{T:TypeId}{v:Value}[hT:aZ P t j 1 c z](f:g8 s x=some (.pointer (some ⟨b,i,none⟩)))(e:g8 s y=some v)(d:v.oneCell'=true)
    (a:w.heap[b]?=some (.cells l.toArray T (0,0))) (h:i<l.length):EvS P s (.store t x y) ty w (w.setCell ⟨b,i,none⟩ v)/\Upd w b (.cells (l.set i v).toArray T (0,0)) (w.setCell ⟨b,i,none⟩ v):=
  ⟨λρ d' pos af g hρ=>by
    have e1:=hρ x _ f
    have e2:=hρ y _ e
    have e3:v.cells = #[v]:=by cases v<;>first|rfl|cases d
    have e4:w.cell? ⟨b,i,none⟩=some l[i]:=by rw[a5j a];simp[h]
    have e5:w.frozen? ⟨b,i,none⟩=false:=b6j a
    simp[execOp,e1,e2,Instr.storeAt,Instr.sureAddr,storeVar,hT.sizeOf,e3,storeCells,Addr.add,run_store _ _ _ _ _ d,e4,e5],bcq w b i l T v a⟩
end
end Sx
namespace Sx
open Go
def postS(n:Nat)(K:List Deferred->Sl->Prop):Act->Prop:=λa=>∃ D s,Fr n D s a/\K D s
def WS(P:Program)(ops:Array Oper)(K:List Deferred->Sl->Prop)(l:List Oper)(n:Nat)(D:List Deferred)(s:Sl)(w:World):Prop:=∀ a,Fr n D s a->wpStill P ops w (postS n K) l a
section
variable {P:Program} {A:AQ} {n:Nat} {D:List Deferred} {s:Sl} {w:World} {ops:Array Oper} {K:List Deferred->Sl->Prop} {rest:List Oper}
variable {op:Op} {ty:TypeId} {pos:String} {af:Array Edge} {dst:Option Tmp} {d j:Nat} {b:Bool} {v:Value}
theorem WS.nil(h:K D s):WS P ops K [] n D s w:=λa ha=>wpStill_nil ⟨D,s,ha,h⟩
theorem c9j{o:Oper}{a:Act}{Q:Act->Prop}(b:Region.wanted o (yielded ops a.tmps)=true)(h : ∀ K':Act->Prop,(∀ a,wpStill P ops w Q rest a->K' a)->o.still P a w K'):wpStill P ops w Q (o::rest) a:=
  wpStill_step λK' hK=>by rw[if_pos b];exact h K' hK
theorem WS.ev(b:Ev P s op ty w v w)(c:Nat.blt d n=true)(k:WS P ops K rest n D ((d,v)::s) w):WS P ops K (⟨some d,op,ty,pos,af,none⟩::rest) n D s w:=λa ha=>
  c9j (by simp[Region.wanted]) λK' hK=>by
    unfold Oper.still
    rw[b a.eval (some d) pos af none λx u hx=>ha.eval hx,Oper.stillUpon_value]
    exact hK _ (k _ (ha.put c v))
theorem WS.call{f:FuncId}{xs:List Operand}{at_:Array TypeId}{vs:List Value}(hF:k9 P f)(b:baq s xs=some vs)(c:Nat.blt d n=true)(h:Ret P f vs w λu w'=>u=v/\w=w')
    (k:WS P ops K rest n D ((d,v)::s) w):WS P ops K (⟨some d,.call ⟨.value (.func f),xs.toArray,at_⟩,ty,pos,af,none⟩::rest) n D s w:=λa ha=>
  c9j (by simp[Region.wanted]) λK' hK=>by
    unfold Oper.still
    rw[a6j hF rfl b λx u b=>ha.eval b]
    exact ⟨rfl,v,Calls.mono h λe w' ⟨u,he,hu,hw⟩=>⟨by rw[he,hu],hw.symm⟩,hK _ (k _ (ha.put c v))⟩
theorem WS.want{g:Oper}{x:Bool}{t:Nat}(e:ops[j]?=some g)(d:g.dst=some t)(c:look s t=some (.bool x))(f:(x==b)=true)(k:WS P ops K (⟨dst,op,ty,pos,af,none⟩::rest) n D s w):
    WS P ops K (⟨dst,op,ty,pos,af,some (j,b)⟩::rest) n D s w:=λa ha=>by
  have h:=k a ha
  unfold wpStill at h ⊢
  rw[if_pos (by rw[aqq ha e d c];exact f)]
  rw[if_pos (by simp[Region.wanted])] at h
  exact h
theorem WS.pass{g:Oper}{x:Bool}{t:Nat}(f:ops[j]?=some g)(e:g.dst=some t)(c:look s t=some (.bool x))(i:(x==b)=false)(h:Nat.blt d n=true)(k:WS P ops K rest n D ((d,undef)::s) w):
    WS P ops K (⟨some d,op,ty,pos,af,some (j,b)⟩::rest) n D s w:=λa ha=>by
  unfold wpStill
  rw[if_neg (by rw[aqq ha f e c,i];simp)]
  exact k _ (ha.put h undef)
theorem WS.passU{g:Oper}{t:Nat}(f:ops[j]?=some g)(e:g.dst=some t)(c:look s t=some undef)(h:Nat.blt d n=true)(k:WS P ops K rest n D ((d,undef)::s) w):
    WS P ops K (⟨some d,op,ty,pos,af,some (j,b)⟩::rest) n D s w:=λa ha=>by
  unfold wpStill
  rw[if_neg (by rw[yieldedU ha f e c];simp)]
  exact k _ (ha.put h undef)
theorem still_mono{Q b:Act->Prop}(h : ∀ a,Q a->b a): ∀ (l:List Oper) (a:Act),wpStill P ops w Q l a->wpStill P ops w b l a
  | [],a,hh=>h a hh
  | o::r,a,hh=>by
    unfold wpStill at hh ⊢
    split
    · rename_i hw;rw[if_pos hw] at hh;exact Oper.still_mono (still_mono h r) hh
    · rename_i hw;rw[if_neg hw] at hh;exact still_mono h r _ hh
theorem CW.regionS{b:Nat}{l:List Oper}(c:P.follows .mixedOrders=true)(d:Region.lexB .any l.toArray=true)
    (h : ∀ K:List Deferred->Sl->Prop,(∀ D s,A .normal D s w.drew->K D s)->WS P l.toArray K l n D s w.drew):CW P (.region b l.toArray true) A n D s w:=λa ha=>
  wp_region_still_lit c d (still_mono (λa ⟨D,s,hf,hk⟩=>⟨D,s,hf,hk⟩) l a (h (λD s=>A .normal D s w.drew) (λ_ _ h=>h) a ha))
theorem CW.regionT{b:Nat}{l:List Oper}(m:Nat)(c:P.follows .mixedOrders=true)(d:Region.lexTailB .any l.toArray m=true)
    (h : ∀ R:KK,(∀ D s w,A .normal D s w->R D s w)->WS P l.toArray (λD s=>WL P l.toArray R (l.drop m) n D s w.drew) (l.take m) n D s w.drew):CW P (.region b l.toArray true) A n D s w:=λa ha=>by
  refine wp_region_still_tail m c d (still_mono (λa ⟨D,s,hf,hk⟩=>?_) _ a (h (λD s w=>A .normal D s w) (λ_ _ _ h=>h) a ha))
  have:=hk a hf
  exact bvj (λe a w hq=>b4q (λ_ _ _ h=>h) e a w hq) (l.drop m) a w.drew this
end
def WH(P:Program)(ops:Array Oper)(K:KK)(S:World->Prop)(fuel:Nat)(listed:Array Bool)(n:Nat)(D:List Deferred)(s:Sl)(w:World):Prop:=∀ a,Fr n D s a->wpAnyH P .any ops (post n K) S fuel listed a w
section
variable {P:Program} {A:AQ} {n:Nat} {D:List Deferred} {s:Sl} {w:World} {ops:Array Oper} {K:KK} {S:World->Prop} {fuel:Nat} {listed:Array Bool}
variable {op:Op} {ty:TypeId} {pos:String} {af:Array Edge} {d:Nat} {v:Value}
theorem CW.regionH{b:Nat}{l:List Oper}(S:World->Prop)(m:Nat)(c:l.length=m)(d:P.follows .mixedOrders=true)
    (h : ∀ R:KK,(∀ D s w,A .normal D s w->R D s w)->WH P l.toArray R S m (Array.replicate m false) n D s w.drew):CW P (.region b l.toArray true) A n D s w:=λa ha=>by
  refine wp_mono (wp_region_held (S:=S) d ?_) (b4q (K:=λD s w=>A .normal D s w) λ_ _ _ h=>h)
  have:=h (λD s w=>A .normal D s w) (λ_ _ _ h=>h) a ha
  subst c
  simpa using this
theorem WH.take(i:Nat)(f:ops[i]?=some ⟨some d,op,ty,pos,af,none⟩)(b:Region.noSelect ops=true)(g:Region.free .any ops listed i=true)(e:(Region.ready .any ops listed).contains i=true)
    (m:S w) (j : ∀ w,S w->Ev P s op ty w v w) (l:Nat.blt d n=true) (k:WH P ops K S fuel (listed.setIfInBounds i true) n D ((d,v)::s) w):WH P ops K S (fuel+1) listed n D s w:=λa ha=>
  wpAnyH_take f b g e (λc a w h=>h.elim) (.inl ⟨by simp[Region.wanted],λw' hw'=>j w' hw' a.eval (some d) pos af none λx u hx=>ha.eval hx⟩) m (k _ (ha.put l v))
theorem WH.one(i:Nat){w':World}(c:ops[i]?=some ⟨some d,op,ty,pos,af,none⟩)(b:Region.ready .any ops listed=[i])(e:Ev P s op ty w v w')(g:S w')(f:Nat.blt d n=true)
    (k:WH P ops K S fuel (listed.setIfInBounds i true) n D ((d,v)::s) w'):WH P ops K S (fuel+1) listed n D s w:=λa ha=>
  wpAnyH_all b oS λj hj=>by
    obtain rfl:j=i:=by simpa using hj
    unfold wpOp
    simp only[c]
    rw[if_pos (by simp[Region.wanted])]
    refine .inl ?_
    unfold Oper.wp
    rw[e a.eval (some d) pos af none λx u hx=>ha.eval hx]
    exact ⟨g,k _ (ha.put f v)⟩
theorem WH.oneS(i:Nat){w':World}(c:ops[i]?=some ⟨none,op,ty,pos,af,none⟩)(b:Region.ready .any ops listed=[i])(d:EvS P s op ty w w')(e:S w')
    (k:WH P ops K S fuel (listed.setIfInBounds i true) n D s w'):WH P ops K S (fuel+1) listed n D s w:=λa ha=>
  wpAnyH_all b oS λj hj=>by
    obtain rfl:j=i:=by simpa using hj
    unfold wpOp
    simp only[c]
    rw[if_pos (by simp[Region.wanted])]
    refine .inl ?_
    unfold Oper.wp
    rw[d a.eval none pos af none λx u hx=>ha.eval hx]
    exact ⟨e,k _ ha⟩
theorem WH.k6(i:Nat){f:FuncId}{xs:List Operand}{at_:Array TypeId}{vs:List Value}{R:Value->World->Prop}(g:ops[i]?=some ⟨some d,.call ⟨.value (.func f),xs.toArray,at_⟩,ty,pos,af,none⟩)(c:Region.ready .any ops listed=[i])(hF:k9 P f)(b:baq s xs=some vs)(l:Nat.blt d n=true)(h:Ret P f vs w R)
    (k : ∀ v w',R v w'->S w'/\WH P ops K S fuel (listed.setIfInBounds i true) n D ((d,v)::s) w'):WH P ops K S (fuel+1) listed n D s w:=λa ha=>
  wpAnyH_all c oS λj hj=>by
    obtain rfl:j=i:=by simpa using hj
    unfold wpOp
    simp only[g]
    rw[if_pos (by simp[Region.wanted])]
    refine .inl ?_
    unfold Oper.wp
    rw[a6j hF rfl b λx u b=>ha.eval b]
    exact Calls.mono h λe w' ⟨v,he,hR⟩=>by subst he;exact ⟨(k v w' hR).1,(k v w' hR).2 _ (ha.put l v)⟩
theorem WH.buildSlice(i:Nat){t e:TypeId}{x:TypeDesc}{h c a y:Nat}{z ze:Value}{f:List (Nat×Operand)}{vs:List (Nat×Value)}{cs:List Value}{m:Nat}[hT:aZ P t (.slice e) h c z][hE:aZ P e x a y ze]
    (q:ops[i]?=some ⟨some d,.buildSlice t m f.toArray,ty,pos,af,none⟩) (l:Region.ready .any ops listed=[i])
    (p:m*a<=2^24) (o:0<m*a) (j:bnx s f=some vs) (r:Instr.fill (λi=>some (i*a,a)) ((Array.range (m*a)).map (ze.cells[· % ze.cells.size]!)) vs=some cs.toArray) (v:Nat.blt d n=true)
    (k : ∀ b w',New w b (.cells cs.toArray e) w'->S w'/\WH P ops K S fuel (listed.setIfInBounds i true) n D ((d,.slice (some ⟨b,0,none⟩) m m)::s) w'):WH P ops K S (fuel+1) listed n D s w:=by
  obtain ⟨b,w',u,g⟩:=aox (P:=P) (ty:=ty) (w:=w) (t:=t) (hT:=hT) (hE:=hE) p o j r
  exact WH.one i q l u (k b w' g).1 v (k b w' g).2
theorem WH.takeG(i:Nat){j:Nat}{b:Bool}{g:Oper}{x:Bool}{t:Nat}(o:ops[i]?=some ⟨some d,op,ty,pos,af,some (j,b)⟩)(l:Region.noSelect ops=true)(q:Region.free .any ops listed i=true)(m:(Region.ready .any ops listed).contains i=true)
    (p:ops[j]?=some g) (f:g.dst=some t) (e:look s t=some (.bool x)) (z:(x==b)=true)
    (A:S w) (r : ∀ w,S w->Ev P s op ty w v w) (y:Nat.blt d n=true) (k:WH P ops K S fuel (listed.setIfInBounds i true) n D ((d,v)::s) w):WH P ops K S (fuel+1) listed n D s w:=λa ha=>
  wpAnyH_take o l q m (λc a w h=>h.elim) (.inl ⟨by rw[aqq ha p f e];exact z,λw' hw'=>r w' hw' a.eval (some d) pos af _ λx u e=>ha.eval e⟩) A (k _ (ha.put y v))
theorem WH.rX(i:Nat){j:Nat}{b:Bool}{g:Oper}{x:Bool}{t:Nat}{f:FuncId}{xs:List Operand}{at_:Array TypeId}{vs:List Value}{R:Value->World->Prop}(p:ops[i]?=some ⟨some d,.call ⟨.value (.func f),xs.toArray,at_⟩,ty,pos,af,some (j,b)⟩)(o:Region.ready .any ops listed=[i])
    (q:ops[j]?=some g) (m:g.dst=some t) (c:look s t=some (.bool x)) (y:(x==b)=true) (hF:k9 P f) (l:baq s xs=some vs) (r:Nat.blt d n=true) (h:Ret P f vs w R)
    (k : ∀ v w',R v w'->S w'/\WH P ops K S fuel (listed.setIfInBounds i true) n D ((d,v)::s) w'):WH P ops K S (fuel+1) listed n D s w:=λa ha=>
  wpAnyH_all o oS λj' hj=>by
    obtain rfl:j'=i:=by simpa using hj
    unfold wpOp
    simp only[p]
    rw[if_pos (by rw[aqq ha q m c];exact y)]
    refine .inl ?_
    unfold Oper.wp
    rw[a6j hF rfl l λx u l=>ha.eval l]
    exact Calls.mono h λe w' ⟨v,he,hR⟩=>by subst he;exact ⟨(k v w' hR).1,(k v w' hR).2 _ (ha.put r v)⟩
theorem WH.done(b:Region.ready .any ops listed=[])(h:K D s w):WH P ops K S fuel listed n D s w:=λa ha=>wpAnyH_done b ⟨D,s,ha,h⟩ fuel
end
end Sx
namespace Sx
open Go
section
variable {P:Program} {n:Nat} {D:List Deferred} {s:Sl} {w:World} {ops:Array Oper} {K:KK} {rest:List Oper} {ty:TypeId} {pos:String} {af:Array Edge} {d:Nat} {x y:Operand}
end
end Sx
namespace Sx
open Go
def anyK(P:Program)(ops:Array Oper)(Q:Exit->Act->World->Prop)(S:World->Prop)(z:Nat):Nat->Array Bool->Act->World->Prop
  | 0,listed,a,w=>Region.ready .any ops listed=[]/\Q .normal a w
  | fuel+1,listed,a,w=>(Region.ready .any ops listed=[]->Q .normal a w)/\
    ∀ i∈Region.ready .any ops listed,wpOp P ops Q i (λa' w'=>((listed.setIfInBounds i true).getD z false=false->S w')/\anyK P ops Q S z fuel (listed.setIfInBounds i true) a' w') a w
section
variable {P:Program} {ops:Array Oper} {Q:Exit->Act->World->Prop} {S:World->Prop} {z:Nat}
theorem any_of_K : ∀ (fuel:Nat) (listed:Array Bool) (a:Act) (w:World),anyK P ops Q S z fuel listed a w->wpAny P .any ops Q fuel listed a w
  | 0,_,_,_,h=>h
  | fuel+1,_,_,_,h=>⟨h.1,λi hi=>wpOp_mono (λa' w' k=>any_of_K fuel _ a' w' k.2) (h.2 i hi)⟩
theorem anyK_first{i:Nat}{s:Oper}{v:Value}(U:ops[i]?=some s)(m:Region.noSelect ops=true)(hQ : ∀ c a w,Q (.panic c) (a.put s.dst v) w->Q (.panic c) a w)(hz:Region.waitsFor .any ops z i=true)(J:z≠i):
    ∀ (fuel:Nat) (listed:Array Bool) (a:Act) (w:World),(∀ j oj,ops[j]?=some oj->j≠i->listed.getD j true=false->(∀ e∈oj.after,Region.binds .any e=true->e.on≠i)->s.apart ops oj=true)->
      i∈Region.ready .any ops listed->listed.getD z false=false->YieldsIf P ops S s v a->S w->anyK P ops Q S z fuel (listed.setIfInBounds i true) (a.put s.dst v) w->anyK P ops Q S z (fuel+1) listed a w:=by
  obtain ⟨oz,M,ez,V,B,A⟩:=Region.waitsFor_spec hz
  have I : ∀ (listed:Array Bool) j,i∈Region.ready .any ops listed->j∈Region.ready .any ops listed->j≠z:=λlisted j l r e=>by
    subst e
    obtain ⟨_,o,Z,g⟩:=mem_ready.1 r
    rw[M] at Z;cases Z
    have d:=g ez V B
    rw[A] at d
    have D:=(mem_ready.1 l).1
    rcases Nat.lt_or_ge i listed.size with q|q
    · simp[q] at D d;rw[D] at d;cases d
    · simp[Array.getElem?_eq_none q] at d
  intro fuel
  induction fuel with
  | zero=>
    intro listed a w _ l R F C H
    refine ⟨λh=>(by rw[h] at l;cases l),λj r=>?_⟩
    by_cases e:j=i
    · subst e;exact F.wpOp U C ⟨λ_=>C,H⟩
    · have:=ready_mono r e
      rw[H.1] at this;cases this
  | succ fuel ih=>
    intro listed a w f l R F C H
    refine ⟨λh=>(by rw[h] at l;cases l),λj r=>?_⟩
    by_cases e:j=i
    · subst e;exact F.wpOp U C ⟨λ_=>C,H⟩
    · have d:=H.2 j (ready_mono r e)
      have y:=I listed j l r
      obtain ⟨n,oj,p,g⟩:=mem_ready.1 r
      have x : ∀ e∈oj.after,Region.binds .any e=true->e.on≠i:=λe he hb X=>by
        have d:=g e he hb
        have D:=(mem_ready.1 l).1
        rw[X] at d
        rcases Nat.lt_or_ge i listed.size with q|q
        · simp[q] at D d;rw[D] at d;cases d
        · simp[Array.getElem?_eq_none q] at d
      have h2:=wpOp_putIf p (f j oj p e n x) (λY b=>Region.noSelect_spec m i s Y b U) (λY b=>Region.noSelect_spec m j oj Y b p) hQ F d
      have lz:(listed.setIfInBounds j true).getD z false=false:=by rw[getD_set_ne false y];exact R
      have t:((listed.setIfInBounds i true).setIfInBounds j true).getD z false=false:=by rw[getD_set_ne false y,getD_set_ne false (Ne.symm J)];exact R
      refine wpOp_mono (λa' w' G=>⟨λ_=>G.2.1 t,ih (listed.setIfInBounds j true) a' w' (λk ok hk T u O=>f k ok hk T ?_ O) (ready_mono l (Ne.symm e)) lz G.1 (G.2.1 t) ?_⟩) h2
      · by_cases hjk:j=k
        · subst hjk;exact n
        · rw[getD_set_ne true hjk] at u;exact u
      · rw[Array.setIfInBounds_comm _ _ e]
        exact G.2.2
end
def WK(P:Program)(ops:Array Oper)(K:KK)(S:World->Prop)(z:Nat)(fuel:Nat)(listed:Array Bool)(n:Nat)(D:List Deferred)(s:Sl)(w:World):Prop:=∀ a,Fr n D s a->anyK P ops (post n K) S z fuel listed a w
section
variable {P:Program} {A:AQ} {n:Nat} {D:List Deferred} {s:Sl} {w:World} {ops:Array Oper} {K:KK} {S:World->Prop} {z:Nat} {fuel:Nat} {listed:Array Bool}
variable {op:Op} {ty:TypeId} {pos:String} {af:Array Edge} {d:Nat} {v:Value}
theorem CW.regionK{b:Nat}{l:List Oper}(S:World->Prop)(z m:Nat)(c:l.length=m)(d:P.follows .mixedOrders=true)
    (h : ∀ R:KK,(∀ D s w,A .normal D s w->R D s w)->WK P l.toArray R S z m (Array.replicate m false) n D s w.drew):CW P (.region b l.toArray true) A n D s w:=λa ha=>by
  refine wp_mono (wp_region_any d (any_of_K _ _ _ _ (S:=S) (z:=z) ?_)) (b4q (K:=λD s w=>A .normal D s w) λ_ _ _ h=>h)
  have:=h (λD s w=>A .normal D s w) (λ_ _ _ h=>h) a ha
  subst c
  simpa using this
theorem WK.take(i:Nat)(g:ops[i]?=some ⟨some d,op,ty,pos,af,none⟩)(l:Region.noSelect ops=true)(o:Region.free .any ops listed i=true)(m:(Region.ready .any ops listed).contains i=true)(j:Region.waitsFor .any ops z i=true)(b:Nat.beq z i=false)(f:listed.getD z false=false)
    (r:S w) (p : ∀ w,S w->Ev P s op ty w v w) (q:Nat.blt d n=true) (k:WK P ops K S z fuel (listed.setIfInBounds i true) n D ((d,v)::s) w):WK P ops K S z (fuel+1) listed n D s w:=λa ha=>
  anyK_first g l (λc a w h=>h.elim) j (λe=>by rw[e] at b;simp at b) fuel listed a w (Region.free_spec g o) (by simpa using m) f (.inl ⟨by simp[Region.wanted],λw' hw'=>p w' hw' a.eval (some d) pos af none λx u hx=>ha.eval hx⟩) r (k _ (ha.put q v))
theorem WK.one(i:Nat){w':World}(c:ops[i]?=some ⟨some d,op,ty,pos,af,none⟩)(b:Region.ready .any ops listed=[i])(e:Ev P s op ty w v w')(g:(listed.setIfInBounds i true).getD z false=false->S w')(f:Nat.blt d n=true)
    (k:WK P ops K S z fuel (listed.setIfInBounds i true) n D ((d,v)::s) w'):WK P ops K S z (fuel+1) listed n D s w:=λa ha=>by
  refine ⟨λh=>(by rw[b] at h;cases h),λj hj=>?_⟩
  rw[b] at hj
  obtain rfl:j=i:=by simpa using hj
  unfold wpOp
  simp only[c]
  rw[if_pos (by simp[Region.wanted])]
  refine .inl ?_
  unfold Oper.wp
  rw[e a.eval (some d) pos af none λx u hx=>ha.eval hx]
  exact ⟨g,k _ (ha.put f v)⟩
theorem WK.oneS(i:Nat){w':World}(c:ops[i]?=some ⟨none,op,ty,pos,af,none⟩)(b:Region.ready .any ops listed=[i])(d:EvS P s op ty w w')(e:(listed.setIfInBounds i true).getD z false=false->S w')
    (k:WK P ops K S z fuel (listed.setIfInBounds i true) n D s w'):WK P ops K S z (fuel+1) listed n D s w:=λa ha=>by
  refine ⟨λh=>(by rw[b] at h;cases h),λj hj=>?_⟩
  rw[b] at hj
  obtain rfl:j=i:=by simpa using hj
  unfold wpOp
  simp only[c]
  rw[if_pos (by simp[Region.wanted])]
  refine .inl ?_
  unfold Oper.wp
  rw[d a.eval none pos af none λx u hx=>ha.eval hx]
  exact ⟨e,k _ ha⟩
theorem WK.k6(i:Nat){f:FuncId}{xs:List Operand}{at_:Array TypeId}{vs:List Value}{R:Value->World->Prop}(g:ops[i]?=some ⟨some d,.call ⟨.value (.func f),xs.toArray,at_⟩,ty,pos,af,none⟩)(c:Region.ready .any ops listed=[i])(hF:k9 P f)(b:baq s xs=some vs)(l:Nat.blt d n=true)(h:Ret P f vs w R)
    (k : ∀ v w',R v w'->S w'/\WK P ops K S z fuel (listed.setIfInBounds i true) n D ((d,v)::s) w'):WK P ops K S z (fuel+1) listed n D s w:=λa ha=>by
  refine ⟨λh=>(by rw[c] at h;cases h),λj hj=>?_⟩
  rw[c] at hj
  obtain rfl:j=i:=by simpa using hj
  unfold wpOp
  simp only[g]
  rw[if_pos (by simp[Region.wanted])]
  refine .inl ?_
  unfold Oper.wp
  rw[a6j hF rfl b λx u b=>ha.eval b]
  exact Calls.mono h λe w' ⟨v,he,hR⟩=>by subst he;exact ⟨λ_=>(k v w' hR).1,(k v w' hR).2 _ (ha.put l v)⟩
theorem WK.buildSlice(i:Nat){t e:TypeId}{y:TypeDesc}{j c a A:Nat}{h ze:Value}{f:List (Nat×Operand)}{vs:List (Nat×Value)}{cs:List Value}{m:Nat}[hT:aZ P t (.slice e) j c h][hE:aZ P e y a A ze]
    (r:ops[i]?=some ⟨some d,.buildSlice t m f.toArray,ty,pos,af,none⟩) (o:Region.ready .any ops listed=[i])
    (q:m*a<=2^24) (p:0<m*a) (l:bnx s f=some vs) (u:Instr.fill (λi=>some (i*a,a)) ((Array.range (m*a)).map (ze.cells[· % ze.cells.size]!)) vs=some cs.toArray) (x:Nat.blt d n=true)
    (k : ∀ b w',New w b (.cells cs.toArray e) w'->S w'/\WK P ops K S z fuel (listed.setIfInBounds i true) n D ((d,.slice (some ⟨b,0,none⟩) m m)::s) w'):WK P ops K S z (fuel+1) listed n D s w:=by
  obtain ⟨b,w',v,g⟩:=aox (P:=P) (ty:=ty) (w:=w) (t:=t) (hT:=hT) (hE:=hE) q p l u
  exact WK.one i r o v (λ_=>(k b w' g).1) x (k b w' g).2
theorem WK.d2j(i:Nat){t:TypeId}{v:TypeDesc}{c:Nat}{d:Value}{b o:Nat}{l:List Value}{T:TypeId}{u:Value}{x y:Operand}[hT:aZ P t v 1 c d](p:ops[i]?=some ⟨none,.store t x y,ty,pos,af,none⟩)(j:Region.ready .any ops listed=[i])(a:(listed.setIfInBounds i true).getD z false=true)
    (g:g8 s x=some (.pointer (some ⟨b,o,none⟩))) (f:g8 s y=some u) (r:u.oneCell'=true)
    (q:w.heap[b]?=some (.cells l.toArray T (0,0))) (m:o<l.length) (k : ∀ w',Upd w b (.cells (l.set o u).toArray T (0,0)) w'->WK P ops K S z fuel (listed.setIfInBounds i true) n D s w'):WK P ops K S z (fuel+1) listed n D s w:=
  have h:=d7j (P:=P) (ty:=ty) (t:=t) (hT:=hT) g f r q m
  WK.oneS i p j h.1 (λe=>by rw[a] at e;cases e) (k _ h.2)
theorem WK.done(b:Region.ready .any ops listed=[])(h:K D s w):WK P ops K S z fuel listed n D s w:=λa ha=>by
  cases fuel with
  | zero=>exact ⟨b,D,s,ha,h⟩
  | succ f=>exact ⟨λ_=>⟨D,s,ha,h⟩,λj hj=>by rw[b] at hj;cases hj⟩
end
end Sx
namespace Sx
open Go
theorem tQ{i:Int}(h : -9223372036854775808<=i/\i<=9223372036854775807):IntKind.i64.min<=i/\i<=IntKind.i64.max:=by simp only[IntKind.min,IntKind.max,IntKind.signed,IntKind.bits];simp;omega
theorem iZ{i:Int}(h:0<=i/\i<=18446744073709551615):IntKind.u64.min<=i/\i<=IntKind.u64.max:=by simp only[IntKind.min,IntKind.max,IntKind.signed,IntKind.bits];simp;omega
theorem in_u32{i:Int}(h:0<=i/\i<=4294967295):IntKind.u32.min<=i/\i<=IntKind.u32.max:=by simp only[IntKind.min,IntKind.max,IntKind.signed,IntKind.bits];simp;omega
theorem wrap_u64(n:Nat):IntKind.u64.wrap (n:Int)=((n%18446744073709551616:Nat):Int):=by
  simp[IntKind.wrap,IntKind.signed,IntKind.bits]
theorem wrap_u32(n:Nat):IntKind.u32.wrap (n:Int)=((n%4294967296:Nat):Int):=by
  simp[IntKind.wrap,IntKind.signed,IntKind.bits]
theorem wrap_u8(n:Nat):IntKind.u8.wrap (n:Int)=((n%256:Nat):Int):=by
  simp[IntKind.wrap,IntKind.signed,IntKind.bits]
theorem vJ(n:Int):IntKind.u64.wrap n=n%18446744073709551616:=by
  simp[IntKind.wrap,IntKind.signed,IntKind.bits]
theorem d1x(n:Int):IntKind.u32.wrap n=n%4294967296:=by
  simp[IntKind.wrap,IntKind.signed,IntKind.bits]
theorem wrap_i64m(n:Int):IntKind.i64.wrap n=(n+9223372036854775808)%18446744073709551616-9223372036854775808:=by
  simp[IntKind.wrap,IntKind.signed,IntKind.bits]
  split<;>omega
section
variable {P:Program} {n:Nat} {D:List Deferred} {s:Sl} {w:World} {ty:TypeId} {x y:Operand} {ops:Array Oper} {K:KK} {rest:List Oper} {pos:String} {af:Array Edge} {d:Nat}
section
variable {t t':TypeId} {a b:Nat}
theorem Ev.aaq(d:g8 s x=some (.int .u64 (a:Int)))(c:g8 s y=some (.int .u64 (b:Int))):Ev P s (.binOp .add t x y t') ty w (.int .u64 (((a+b)%18446744073709551616:Nat):Int)) w:=by
  have:=Ev.add (P:=P) (w:=w) (ty:=ty) (t:=t) (t':=t') d c
  rwa [<- Int.natCast_add,wrap_u64] at this
theorem Ev.iX(d:g8 s x=some (.int .u64 (a:Int)))(c:g8 s y=some (.int .u64 (b:Int)))(h:a+b<18446744073709551616):Ev P s (.binOp .add t x y t') ty w (.int .u64 ((a+b:Nat):Int)) w:=by
  have:=Ev.aaq (P:=P) (w:=w) (ty:=ty) (t:=t) (t':=t') d c
  rwa [Nat.mod_eq_of_lt h] at this
theorem Ev.cyq(d:g8 s x=some (.int .u64 (a:Int)))(c:g8 s y=some (.int .u64 (b:Int)))(e:b<=18446744073709551616):Ev P s (.binOp .sub t x y t') ty w (.int .u64 (((a+(18446744073709551616-b))%18446744073709551616:Nat):Int)) w:=by
  have:=Ev.sub (P:=P) (w:=w) (ty:=ty) (t:=t) (t':=t') d c
  rw[vJ] at this
  rwa [show ((a:Int)-(b:Int))%18446744073709551616=(((a+(18446744073709551616-b))%18446744073709551616:Nat):Int) by omega] at this
theorem Ev.bdx(d:g8 s x=some (.int .u64 (a:Int)))(c:g8 s y=some (.int .u64 (b:Int)))(h:b<=a)(e:a<18446744073709551616):Ev P s (.binOp .sub t x y t') ty w (.int .u64 ((a-b:Nat):Int)) w:=by
  have:=Ev.sub (P:=P) (w:=w) (ty:=ty) (t:=t) (t':=t') d c
  rw[vJ] at this
  rwa [show ((a:Int)-(b:Int))%18446744073709551616=((a-b:Nat):Int) by omega] at this
theorem Ev.mul64(d:g8 s x=some (.int .u64 (a:Int)))(c:g8 s y=some (.int .u64 (b:Int))):Ev P s (.binOp .mul t x y t') ty w (.int .u64 (((a*b)%18446744073709551616:Nat):Int)) w:=by
  have:=Ev.mul (P:=P) (w:=w) (ty:=ty) (t:=t) (t':=t') d c
  rwa [<- Int.natCast_mul,wrap_u64] at this
theorem Ev.mul64In(d:g8 s x=some (.int .u64 (a:Int)))(c:g8 s y=some (.int .u64 (b:Int)))(h:a*b<18446744073709551616):Ev P s (.binOp .mul t x y t') ty w (.int .u64 ((a*b:Nat):Int)) w:=by
  have:=Ev.mul64 (P:=P) (w:=w) (ty:=ty) (t:=t) (t':=t') d c
  rwa [Nat.mod_eq_of_lt h] at this
theorem Ev.sub32(d:g8 s x=some (.int .u32 (a:Int)))(c:g8 s y=some (.int .u32 (b:Int)))(e:b<=4294967296):Ev P s (.binOp .sub t x y t') ty w (.int .u32 (((a+(4294967296-b))%4294967296:Nat):Int)) w:=by
  have:=Ev.sub (P:=P) (w:=w) (ty:=ty) (t:=t) (t':=t') d c
  rw[d1x] at this
  rwa [show ((a:Int)-(b:Int))%4294967296=(((a+(4294967296-b))%4294967296:Nat):Int) by omega] at this
theorem Ev.mul32(d:g8 s x=some (.int .u32 (a:Int)))(c:g8 s y=some (.int .u32 (b:Int))):Ev P s (.binOp .mul t x y t') ty w (.int .u32 (((a*b)%4294967296:Nat):Int)) w:=by
  have:=Ev.mul (P:=P) (w:=w) (ty:=ty) (t:=t) (t':=t') d c
  rwa [<- Int.natCast_mul,wrap_u32] at this
theorem Ev.djj{k:IntKind}(d:g8 s x=some (.int k (a:Int)))(c:g8 s y=some (.int k (b:Int)))(h:b≠0)(e:(a:Int)<=k.max):Ev P s (.binOp .quo t x y t') ty w (.int k ((a/b:Nat):Int)) w:=by
  have:=Ev.cax (P:=P) (w:=w) (ty:=ty) (t:=t) (t':=t') d c oO e oO
  simpa using this
theorem Ev.dfx{k:IntKind}(d:g8 s x=some (.int k (a:Int)))(c:g8 s y=some (.int k (b:Int)))(h:b≠0):Ev P s (.binOp .rem t x y t') ty w (.int k ((a%b:Nat):Int)) w:=by
  have:=Ev.dfq (P:=P) (w:=w) (ty:=ty) (t:=t) (t':=t') d c oO oO
  simpa using this
theorem a6x(k a:Nat):BitVec.ofInt k (a:Int)=BitVec.ofNat k a:=BitVec.ofInt_natCast k a
theorem dtq(k:IntKind)(b:k.signed=false)(a:Nat)(h:a<2^k.bits):k.wrap (a:Int)=(a:Int):=by
  cases k<;>first|(simp[IntKind.signed] at b;done)|(simp[IntKind.bits] at h;simp[IntKind.wrap,IntKind.signed,IntKind.bits];omega)
theorem Ev.andU{k:IntKind}(g:k.signed=false)(f:g8 s x=some (.int k (a:Int)))(d:g8 s y=some (.int k (b:Int)))(h:a<2^k.bits)(c:b<2^k.bits):Ev P s (.binOp .and t x y t') ty w (.int k ((a&&& b:Nat):Int)) w:=by
  have:=Ev.and (P:=P) (w:=w) (ty:=ty) (t:=t) (t':=t') f d
  have e:aiq .and k (a:Int) (b:Int)=((a&&& b:Nat):Int):=by
    simp only[aiq,a6x,BitVec.toNat_and,BitVec.toNat_ofNat,Nat.mod_eq_of_lt h,Nat.mod_eq_of_lt c]
    exact dtq k g _ (Nat.and_lt_two_pow _ c)
  rwa [e] at this
theorem Ev.orU{k:IntKind}(h:k.signed=false)(g:g8 s x=some (.int k (a:Int)))(f:g8 s y=some (.int k (b:Int)))(d:a<2^k.bits)(c:b<2^k.bits):Ev P s (.binOp .or t x y t') ty w (.int k ((a||| b:Nat):Int)) w:=by
  have:=Ev.or (P:=P) (w:=w) (ty:=ty) (t:=t) (t':=t') g f
  have e:aiq .or k (a:Int) (b:Int)=((a||| b:Nat):Int):=by
    simp only[aiq,a6x,BitVec.toNat_or,BitVec.toNat_ofNat,Nat.mod_eq_of_lt d,Nat.mod_eq_of_lt c]
    exact dtq k h _ (Nat.or_lt_two_pow d c)
  rwa [e] at this
theorem Ev.xorU{k:IntKind}(h:k.signed=false)(g:g8 s x=some (.int k (a:Int)))(f:g8 s y=some (.int k (b:Int)))(d:a<2^k.bits)(c:b<2^k.bits):Ev P s (.binOp .xor t x y t') ty w (.int k ((a ^^^ b:Nat):Int)) w:=by
  have:=Ev.xor (P:=P) (w:=w) (ty:=ty) (t:=t) (t':=t') g f
  have e:aiq .xor k (a:Int) (b:Int)=((a ^^^ b:Nat):Int):=by
    simp only[aiq,a6x,BitVec.toNat_xor,BitVec.toNat_ofNat,Nat.mod_eq_of_lt d,Nat.mod_eq_of_lt c]
    exact dtq k h _ (Nat.xor_lt_two_pow d c)
  rwa [e] at this
theorem Ev.andNotU{k:IntKind}(f:k.signed=false)(d:g8 s x=some (.int k (a:Int)))(c:g8 s y=some (.int k (b:Int)))(h:a<2^k.bits)(g:b<2^k.bits):Ev P s (.binOp .andNot t x y t') ty w (.int k ((a&&& (2^k.bits-1-b):Nat):Int)) w:=by
  have:=Ev.andNot (P:=P) (w:=w) (ty:=ty) (t:=t) (t':=t') d c
  have e:aiq .andNot k (a:Int) (b:Int)=((a&&& (2^k.bits-1-b):Nat):Int):=by
    simp only[aiq,a6x,BitVec.toNat_and,BitVec.toNat_not,BitVec.toNat_ofNat,Nat.mod_eq_of_lt h,Nat.mod_eq_of_lt g]
    exact dtq k f _ (Nat.and_lt_two_pow _ oO)
  rwa [e] at this
theorem Ev.complU{k:IntKind}(b:k.signed=false)(d:g8 s x=some (.int k (a:Int)))(c:a<2^k.bits):Ev P s (.unOp .xor t x) ty w (.int k ((2^k.bits-1-a:Nat):Int)) w:=by
  have:=Ev.compl (P:=P) (w:=w) (ty:=ty) (t:=t) d
  have h:=Nat.two_pow_pos k.bits
  have f:(if k.signed=true then (-1:Int) else k.max)=((2^k.bits-1:Nat):Int):=by
    rw[b];cases k<;>first|rfl|(simp[IntKind.signed] at b)
  have e:aiq .xor k (if k.signed=true then (-1:Int) else k.max) (a:Int)=((2^k.bits-1-a:Nat):Int):=by
    rw[f]
    simp only[aiq,a6x,BitVec.toNat_xor,BitVec.toNat_ofNat,Nat.mod_eq_of_lt c,Nat.mod_eq_of_lt (show 2^k.bits-1<2^k.bits by omega)]
    have g:(2^k.bits-1) ^^^ a=2^k.bits-1-a:=by
      have:=BitVec.toNat_not (x:=BitVec.ofNat k.bits a)
      rw[<- BitVec.allOnes_xor,BitVec.toNat_xor,BitVec.toNat_allOnes,BitVec.toNat_ofNat,Nat.mod_eq_of_lt c] at this
      exact this
    rw[g]
    exact dtq k b _ oO
  rwa [e] at this
theorem Ev.apx{d:IntKind}(g:g8 s x=some (.int .u64 (a:Int)))(f:g8 s y=some (.int d (b:Int))):Ev P s (.binOp .shl t x y t') ty w (.int .u64 ((a*2^b%18446744073709551616:Nat):Int)) w:=by
  have:=Ev.shl (P:=P) (w:=w) (ty:=ty) (t:=t) (t':=t') g f oO
  have e:IntKind.u64.wrap ((a:Int)*2^(min (b:Int).toNat IntKind.u64.bits))=((a*2^b%18446744073709551616:Nat):Int):=by
    have i:(b:Int).toNat=b:=by omega
    rw[i,show ((a:Int)*2^(min b IntKind.u64.bits))=((a*2^(min b IntKind.u64.bits):Nat):Int) by simp,wrap_u64]
    congr 1
    show a*2^(min b 64)%_=_
    by_cases h:b<=64
    · rw[Nat.min_eq_left h]
    · rw[Nat.min_eq_right oO]
      obtain ⟨q,rfl⟩ : ∃ q,b=64+q:=⟨b-64,by omega⟩
      rw[Nat.pow_add,<- Nat.mul_assoc]
      have c:(2:Nat)^64=18446744073709551616:=by decide
      rw[c,Nat.mul_mod_left,Nat.mul_right_comm,Nat.mul_mod_left]
  rwa [e] at this
theorem Ev.shlU32{d:IntKind}(g:g8 s x=some (.int .u32 (a:Int)))(f:g8 s y=some (.int d (b:Int))):Ev P s (.binOp .shl t x y t') ty w (.int .u32 ((a*2^b%4294967296:Nat):Int)) w:=by
  have:=Ev.shl (P:=P) (w:=w) (ty:=ty) (t:=t) (t':=t') g f oO
  have e:IntKind.u32.wrap ((a:Int)*2^(min (b:Int).toNat IntKind.u32.bits))=((a*2^b%4294967296:Nat):Int):=by
    have i:(b:Int).toNat=b:=by omega
    rw[i,show ((a:Int)*2^(min b IntKind.u32.bits))=((a*2^(min b IntKind.u32.bits):Nat):Int) by simp,wrap_u32]
    congr 1
    show a*2^(min b 32)%_=_
    by_cases h:b<=32
    · rw[Nat.min_eq_left h]
    · rw[Nat.min_eq_right oO]
      obtain ⟨q,rfl⟩ : ∃ q,b=32+q:=⟨b-32,by omega⟩
      rw[Nat.pow_add,<- Nat.mul_assoc]
      have c:(2:Nat)^32=4294967296:=by decide
      rw[c,Nat.mul_mod_left,Nat.mul_right_comm,Nat.mul_mod_left]
  rwa [e] at this
theorem div_pow_min{a b k:Nat}(h:a<2^k):a/2^(min b k)=a/2^b:=by
  by_cases hb:b<=k
  · rw[Nat.min_eq_left hb]
  · rw[Nat.min_eq_right oO,Nat.div_eq_of_lt h,Nat.div_eq_of_lt (Nat.lt_of_lt_of_le h (Nat.pow_le_pow_right oD oO))]
theorem Ev.atx{k c:IntKind}(f:g8 s x=some (.int k (a:Int)))(d:g8 s y=some (.int c (b:Int)))(h:a<2^k.bits):Ev P s (.binOp .shr t x y t') ty w (.int k ((a/2^b:Nat):Int)) w:=by
  have:=Ev.shr (P:=P) (w:=w) (ty:=ty) (t:=t) (t':=t') f d oO
  have e:(a:Int).fdiv (2^(min (b:Int).toNat k.bits))=((a/2^b:Nat):Int):=by
    have g:(b:Int).toNat=b:=by omega
    rw[g,show ((2:Int)^(min b k.bits))=((2^(min b k.bits):Nat):Int) by simp,Int.fdiv_eq_ediv_of_nonneg _ (Int.natCast_nonneg _),<- Int.natCast_ediv,div_pow_min h]
  rwa [e] at this
theorem Ev.dZ{src dst:TypeId}{m e:TypeDesc}{g c b d:Nat}{z f:Value}{k a:IntKind}{i:Int}[n:aZ P src m g c z][o:aZ P dst e b d f](l:e = .int a)(j:g8 s x=some (.int k i))(h:a.min<=i/\i<=a.max):
    Ev P s (.convert src dst x) ty w (.int a i) w:=by
  have:=Ev.conv (P:=P) (w:=w) (ty:=ty) (src:=src) (dst:=dst) l j
  rwa [wrap_in h] at this
theorem Ev.tZ{src dst:TypeId}{j e:TypeDesc}{g c b d:Nat}{z f:Value}{k:IntKind}[l:aZ P src j g c z][m:aZ P dst e b d f](i:e = .int .u32)(h:g8 s x=some (.int k (a:Int))):
    Ev P s (.convert src dst x) ty w (.int .u32 ((a%4294967296:Nat):Int)) w:=by
  have:=Ev.conv (P:=P) (w:=w) (ty:=ty) (src:=src) (dst:=dst) i h
  rwa [wrap_u32] at this
theorem Ev.d9q{src dst:TypeId}{j e:TypeDesc}{g c b d:Nat}{z f:Value}{k:IntKind}[l:aZ P src j g c z][m:aZ P dst e b d f](i:e = .int .u8)(h:g8 s x=some (.int k (a:Int))):
    Ev P s (.convert src dst x) ty w (.int .u8 ((a%256:Nat):Int)) w:=by
  have:=Ev.conv (P:=P) (w:=w) (ty:=ty) (src:=src) (dst:=dst) i h
  rwa [wrap_u8] at this
theorem Ev.czj{a b:Int}(d:g8 s x=some (.int .i64 a))(c:g8 s y=some (.int .i64 b))(h : -9223372036854775808<=a*b/\a*b<=9223372036854775807):Ev P s (.binOp .mul t x y t') ty w (.int .i64 (a*b)) w:=by
  have:=Ev.mul (P:=P) (w:=w) (ty:=ty) (t:=t) (t':=t') d c
  rwa [wrap_i64 h] at this
theorem Ev.bnq{a:Int}(b:g8 s x=some (.int .i64 a))(h : -9223372036854775807<=a/\a<=9223372036854775807):Ev P s (.unOp .neg t x) ty w (.int .i64 (-a)) w:=by
  have:=Ev.neg (P:=P) (w:=w) (ty:=ty) (t:=t) b
  rwa [Int.zero_sub,wrap_i64 oO] at this
end
def RW(w:World)(a:Option Addr)(xs:List Value):Prop:=∀ (i:Nat) (v:Value),xs[i]?=some v->∃ ad,a=some ad/\w.cell? (ad.add i)=some v
theorem addr_blk(a:Addr)(i:Nat):(a.add i).block=a.block:=by unfold Addr.add;split<;>rfl
theorem addr_add2(a:Addr)(m n:Nat):(a.add m).add n=a.add (m+n):=by
  cases a with
  | mk b o f=>simp only[Addr.add];split<;>split<;>simp_all<;>omega
def adr(a:Option Addr)(j:Nat):Addr:=(a.getD ⟨0,0,none⟩).add j
theorem RW.at_{a:Option Addr}{xs:List Value}{j:Nat}{v:Value}(h:RW w a xs)(b:xs[j]?=some v):w.cell? (adr a j)=some v:=by
  obtain ⟨d,rfl,c⟩:=h j v b
  exact c
theorem RW.some_{a:Option Addr}{xs:List Value}(h:RW w a xs)(b:0<xs.length): ∃ ad,a=some ad:=by
  obtain ⟨ad,rfl,c⟩:=h 0 _ (List.getElem?_eq_getElem b)
  exact ⟨ad,rfl⟩
theorem RW.nil{a:Option Addr}: RW w a []:=λi v h=>by simp at h
theorem RW.gZ{a:Option Addr}{xs:List Value}{T:List Nat}{w':World}(h:RW w a xs)(c:Chg T w w')(hT : ∀ b∈T,w.heap.size<=b):RW w' a xs:=λi v hv=>by
  obtain ⟨ad,rfl,h2⟩:=h i v hv
  refine ⟨ad,rfl,c.cell h2 λhm=>?_⟩
  have:=hT _ hm
  have:=block_lt_of_cell h2
  omega
theorem RW.q5{a:Option Addr}{xs:List Value}{w':World}(h:RW w a xs)(b:Chg [] w w'):RW w' a xs:=h.gZ b oS
theorem RW.keepB{a:Option Addr}{xs:List Value}{T:List Nat}{w':World}(h:RW w a xs)(b:Chg T w w')(hT : ∀ ad,a=some ad->ad.block∉T):RW w' a xs:=λi v hv=>by
  obtain ⟨ad,rfl,h2⟩:=h i v hv
  exact ⟨ad,rfl,b.cell h2 (by rw[addr_blk];exact hT ad rfl)⟩
theorem RW.take{a:Option Addr}{xs:List Value}(h:RW w a xs)(k:Nat):RW w a (xs.take k):=λi v hv=>by
  rw[List.getElem?_take] at hv
  split at hv
  · exact h i v hv
  · cases hv
theorem RW.drop{a:Option Addr}{xs:List Value}(h:RW w a xs)(k:Nat):RW w (a.map (·.add k)) (xs.drop k):=λi v hv=>by
  rw[List.getElem?_drop] at hv
  obtain ⟨ad,rfl,h2⟩:=h _ v hv
  exact ⟨ad.add k,rfl,by rw[addr_add2];exact h2⟩
theorem RW.cut{a:Option Addr}{xs:List Value}(h:RW w a xs)(k c:Nat)(b:k<=xs.length)(d:xs.length<=c):RW w (cutAt a k c 1) (xs.drop k):=by
  unfold cutAt
  split
  · rename_i e
    rw[List.drop_eq_nil_of_le oO]
    exact RW.nil
  · rw[Nat.mul_one];exact h.drop k
theorem RW.append_left{a:Option Addr}{xs b:List Value}(h:RW w a (xs++b)):RW w a xs:=by
  have:=h.take xs.length
  rwa [List.take_left] at this
theorem RW.of_heap{b:Nat}{xs:List Value}{E:TypeId}{a:Nat×Nat}(h:w.heap[b]?=some (.cells xs.toArray E a)):RW w (some ⟨b,0,none⟩) xs:=λi v hv=>⟨_,rfl,by rw[awx,Nat.zero_add,a5j h];exact hv⟩
theorem RW.dlx{e b:Nat}{a:Option Addr}{m c:Nat}{xs:List Value}(h:w.ownsRow 0 e b (.slice a m c) m xs):RW w a xs:=λi v hv=>by
  have hp:0<xs.length:=by
    cases xs with
    | nil=>simp at hv
    | cons x xs=>simp
  obtain ⟨g,rfl,d⟩:=dkj h hp
  exact ⟨_,rfl,by rw[awx,Nat.zero_add];exact d _ _ hv⟩
theorem Ev.ixR(j:Nat){t:TypeId}{a:Option Addr}{m c e o:Nat}{k:IntKind}{i:Int}{n:TypeDesc}{ze:Value}{f d:Nat}{z:Value}{xs:List Value}[hT:aZ P t (.slice e) f d z][hE:aZ P e n 1 o ze](h:g8 s x=some (.slice a m c))(g:g8 s y=some (.int k i))(l:RW w a xs)(b:i=(j:Int))(p:j<m)(q:j<xs.length):
    Ev P s (.indexAddr t x y) ty w (.pointer (some (adr a j))) w:=by
  obtain ⟨r,rfl⟩:=l.some_ oO
  subst b
  have:=Ev.indexAddrG (P:=P) (s:=s) (w:=w) (ty:=ty) (t:=t) (hT:=hT) (hE:=hE) h g oO oO
  rwa [show ((j:Int)).toNat*1=j by omega] at this
theorem Ev.ixB(j:Nat){t:TypeId}{b m c e n:Nat}{k:IntKind}{i:Int}{l:TypeDesc}{ze:Value}{f d:Nat}{z:Value}[hT:aZ P t (.slice e) f d z][hE:aZ P e l 1 n ze](h:g8 s x=some (.slice (some ⟨b,0,none⟩) m c))(g:g8 s y=some (.int k i))(a:i=(j:Int))(o:j<m):
    Ev P s (.indexAddr t x y) ty w (.pointer (some ⟨b,j,none⟩)) w:=by
  subst a
  have:=Ev.indexAddr (P:=P) (s:=s) (w:=w) (ty:=ty) (t:=t) (hT:=hT) (hE:=hE) h g oO oO
  rwa [show 0+((j:Int)).toNat*1=j by omega] at this
theorem Ev.c4j(j:Nat){t:TypeId}{a:Option Addr}{m c e:Nat}{l o:Nat}{g:IntKind}{d:Int}{n:TypeDesc}{ze:Value}{f b:Nat}{z:Value}{q:Operand}[hT:aZ P t (.slice e) f b z][hE:aZ P e n l o ze]
    (h:g8 s x=some (.slice a m c)) (i:g8 s q=some (.int g d)) (k:d=(j:Int)) (p:j<=c):Ev P s (.slice t x none (some q) none) ty w (.slice a j c) w:=by
  subst k
  exact Ev.sliceH (hT:=hT) (hE:=hE) h i oO oO
theorem Ev.bqq(j:Nat){t:TypeId}{a:Option Addr}{m c e:Nat}{d n:Nat}{g:IntKind}{lo:Int}{l:TypeDesc}{ze:Value}{f b:Nat}{z:Value}{q:Operand}[hT:aZ P t (.slice e) f b z][hE:aZ P e l d n ze]
    (h:g8 s x=some (.slice a m c)) (i:g8 s q=some (.int g lo)) (k:lo=(j:Int)) (o:j<=m):Ev P s (.slice t x (some q) none none) ty w (.slice (cutAt a j c d) (m-j) (c-j)) w:=by
  subst k
  exact Ev.sliceL (hT:=hT) (hE:=hE) h i oO oO
theorem Ev.slice3n(j i:Nat){t:TypeId}{a:Option Addr}{m c e:Nat}{B D:Nat}{k n:IntKind}{h f:Int}{C:TypeDesc}{ze:Value}{l d:Nat}{z:Value}{p q:Operand}[hT:aZ P t (.slice e) l d z][hE:aZ P e C B D ze]
    (o:g8 s x=some (.slice a m c)) (r:g8 s q=some (.int n h)) (u:g8 s p=some (.int k f)) (v:h=(j:Int)) (b:f=(i:Int)) (A:j<=i) (y:i<=c):Ev P s (.slice t x none (some q) (some p)) ty w (.slice a j i) w:=λρ d' pos af g hρ=>by
  subst b;subst v
  have e1:=hρ x _ o
  have e2:=hρ q _ r
  have e3:=hρ p _ u
  have e4:(0:Int)<=(j:Int):=by omega
  have e5:(0:Int)<=(i:Int):=by omega
  simp[execOp,e1,e2,e3,Instr.sliceAt,Instr.slice,hT.underlying,Instr.sliceBounds,Instr.sliceBound,asIntOf,A,y,hE.sizeOf]
  intro _;cases a<;>simp[Addr.add]
theorem k8.ret3{a:Func}{R:Value->World->Prop}{t u q:Nat}{v x z:Value}(d:a.results = #[.tmp t,.tmp u,.tmp q])(c:look s t=some v)(b:look s u=some x)(e:look s q=some z)(h:R (.tuple [v,x,z].toArray) w):k8 P a n R .ret [] s w:=
  k8.ckq d (aX.tmp c) (aX.tmp b) (aX.tmp e) h
theorem WL.afq{b:Bool}(a:b=true->WL P ops K rest n D ((d,.bool true)::s) w)(c:b=false->WL P ops K rest n D ((d,.bool false)::s) w):WL P ops K rest n D ((d,.bool b)::s) w:=by
  cases b
  · exact c rfl
  · exact a rfl
theorem q9.g7{s s':Sl}{t:Nat}{b b':Bool}(h:look s t=some (.bool b'))(c:b'=b)(a:q9 s' s):q9 ((t,.bool b)::s') s:=by
  subst c;exact q9.cons h a
theorem q9.consI{s s':Sl}{t:Nat}{k:IntKind}{i a:Int}(h:look s t=some (.int k a))(c:a=i)(b:q9 s' s):q9 ((t,.int k i)::s') s:=by
  subst c;exact q9.cons h b
theorem q9.nJ{s s':Sl}{k:Nat}{v:Value}(h:look s' k=none)(a:q9 s' s):q9 s' ((k,v)::s):=λt x hx=>by
  rw[b5j]
  by_cases e:k=t
  · subst e;rw[h] at hx;cases hx
  · rw[if_neg e];exact a t x hx
theorem CW.oJ{A:AQ}{x y:Code}(c:Nat)(b:Bool)(d:CW P x (cjq (λD' s' w'=>D'=D/\w'=w/\q9 ((c,.bool b)::s) s') A) n D s w)(a:CW P y A n D ((c,.bool b)::s) w):CW P (.seq x y) A n D s w:=
  CW.anx _ d λD' s' w' ⟨h1,h2,h3⟩=>by subst h1;subst h2;exact a.sub h3
section
variable {α:Type}
theorem map_at(f:α->Value){l:List α}{i:Nat}(a:α)(h:i<l.length):(l.map f)[i]?=some (f (l.getD i a)):=by
  rw[List.getElem?_map,List.getD_eq_getElem?_getD,List.getElem?_eq_getElem h];rfl
end
def kQ(n:Nat):Value:=.int .u32 (n:Int)
def u64v(n:Nat):Value:=.int .u64 (n:Int)
def u8v(n:Nat):Value:=.int .u8 (n:Int)
def bix(n:Nat):Value:=.float .f64 n
theorem u32_one(l:List Nat): ∀ v∈l.map kQ,v.oneCell'=true:=λv hv=>by obtain ⟨x,_,rfl⟩:=List.mem_map.1 hv;rfl
theorem RW.u32{a:Option Addr}{l:List Nat}{j:Nat}(h:RW w a (l.map kQ))(b:j<l.length):w.cell? (adr a j)=some (.int .u32 ((l.getD j 0:Nat):Int)):=h.at_ (map_at kQ 0 b)
theorem RW.f64{a:Option Addr}{l:List Nat}{j:Nat}(h:RW w a (l.map bix))(b:j<l.length):w.cell? (adr a j)=some (.float .f64 (l.getD j 0)):=h.at_ (map_at bix 0 b)
def OB(w:World)(b:Nat)(E:TypeId)(l:List Nat):Prop:=w.heap[b]?=some (.cells (l.map kQ).toArray E (0,0))
theorem OB.u32{b:Nat}{E:TypeId}{l:List Nat}{j:Nat}(h:OB w b E l)(a:j<l.length):w.cell? ⟨b,j,none⟩=some (.int .u32 ((l.getD j 0:Nat):Int)):=by
  rw[a5j h];exact map_at kQ 0 a
theorem OB.row{b:Nat}{E:TypeId}{l:List Nat}(h:OB w b E l):RW w (some ⟨b,0,none⟩) (l.map kQ):=RW.of_heap h
theorem OB.gZ{b:Nat}{E:TypeId}{l:List Nat}{T:List Nat}{w':World}(h:OB w b E l)(a:Chg T w w')(hT:b∉T):OB w' b E l:=a.heap h hT
theorem OB.q5{b:Nat}{E:TypeId}{l:List Nat}{w':World}(h:OB w b E l)(a:Chg [] w w'):OB w' b E l:=a.heap h oS
theorem OB.lt{b:Nat}{E:TypeId}{l:List Nat}(h:OB w b E l):b<w.heap.size:=azx h
theorem WL.sJ{t:TypeId}{g:TypeDesc}{a:Nat}{z:Value}{b i v:Nat}{l:List Nat}{E:TypeId}[hT:aZ P t g 1 a z](d:g8 s x=some (.pointer (some ⟨b,i,none⟩)))(c:g8 s y=some (.int .u32 (v:Int)))
    (f:OB w b E l) (e:i<l.length) (k : ∀ w',OB w' b E (l.set i v)->Chg [b] w w'->WL P ops K rest n D s w'):WL P ops K (⟨none,.store t x y,ty,pos,af,none⟩::rest) n D s w:=
  WL.store (l:=l.map kQ) (v:=kQ v) d c rfl f (by simpa using e) λw' hu=>k w' (by have:=hu.at_;rw[<- List.map_set] at this;exact this) hu.chg
theorem Chg.step{T T':List Nat}{a b c:World}(h:Chg T a b)(k:Chg T' b c)(hT : ∀ x,x∈T'->x∈T\/a.heap.size<=x):Chg T a c:=
  ⟨k.os.trans h.os,k.tape.trans h.tape,k.output.trans h.output,Nat.le_trans h.size k.size,λi hi hn=>(k.block i (Nat.lt_of_lt_of_le hi h.size) λhm=>by
    rcases hT i hm with q|q
    · exact hn q
    · omega).trans (h.block i hi hn)⟩
theorem madeU{z:Value}(a:z.cells = #[.int .u32 0])(n:Nat):madeCells z.cells (n*1)=((List.replicate n 0).map kQ).toArray:=by
  rw[a,Nat.mul_one]
  apply Array.ext'
  simp[madeCells,List.map_replicate,kQ,Nat.mod_one,List.map_const']
theorem WL.baj(j i:Nat){t:TypeId}{e a:Nat}{o p:IntKind}{l c:Int}{m g:Nat}{z:Value}[hT:aZ P t (.slice e) m g z][hE:aZ P e (.int .u32) 1 a (.int .u32 0)](r:g8 s x=some (.int o l))(q:g8 s y=some (.int p c))
    (v:l=(j:Int)) (B:c=(i:Int)) (u:j<=i) (F:a*i<=281474976710656) (C:i<=281474976710656) (A:Nat.blt d n=true)
    (k : ∀ b w',OB w' b e (List.replicate i 0)->Chg [] w w'->w.heap.size<=b->WL P ops K rest n D ((d,.slice (some ⟨b,0,none⟩) j i)::s) w'):WL P ops K (⟨some d,.makeSlice t x y,ty,pos,af,none⟩::rest) n D s w:=by
  subst v;subst B
  refine WL.make (hT:=hT) (hE:=hE) r q oO oO (by rw[show (a:Int)*(i:Int)=((a*i:Nat):Int) by simp];omega) oO A λb w' f=>?_
  have h:=f.at_
  rw[show (i:Int).toNat=i by omega,madeU (by rfl)] at h
  exact k b w' h f.chg f.ge
theorem WL.copyU{t t':TypeId}{e be:Nat}{b m c f c2:Nat}{a:Option Addr}{l xs:List Nat}{T H:Nat}{z ze:Value}{de:TypeDesc}[hT:aZ P t (.slice e) T H z][hE:aZ P e de 1 be ze](M:g8 s x=some (.slice (some ⟨b,0,none⟩) m c))(J:g8 s y=some (.slice a f c2))(C:OB w b e l)(O:RW w a (xs.map kQ))(hn:f<=xs.length)(hm:m<=l.length)(Q:Nat.blt d n=true)
    (k : ∀ w',OB w' b e (xs.take (min f m)++l.drop (min f m))->Chg [b] w w'->WL P ops K rest n D ((d,.int .i64 ((min f m:Nat):Int))::s) w'):WL P ops K (⟨some d,.call ⟨.builtin .copy,[x,y].toArray,#[t,t']⟩,ty,pos,af,none⟩::rest) n D s w:=by
  obtain ⟨i,Y,B,X,V⟩:=hE.inf
  have u:(P.info? e).map (·.size)=some 1:=by rw[Y];simp[B]
  by_cases h0:min f m=0
  · refine WL.ev (v:=goInt 0) (w':=w) (λρ d' pos af g r=>?_) Q ?_
    · have G:=r x _ M
      have F:=r y _ J
      have:=run_copy_none (P:=P) w t t' ty e (some ⟨b,0,none⟩) a m c f c2 hT.und u h0
      simp[execOp,resolve,invoke,builtin,G,F,this]
    · have:=k w (by rw[h0];simpa using C) (Chg.refl _ _)
      rw[h0] at this
      exact this
  · obtain ⟨R,rfl⟩:=O.some_ oT
    have h:((xs.take (min f m)).map kQ).length=Nat.min f m:=by
      show _=min f m
      simp;omega
    have o:=run_copy_row (P:=P) w t t' ty e b 0 m c R f c2 (l.map kQ).toArray e ((xs.take (min f m)).map kQ) hT.und u C h
      (λj v U=>by
        obtain ⟨a4,e0,Z⟩:=(by rw[List.map_take];exact O.take (min f m):RW w (some R) ((xs.take (min f m)).map kQ)) j v U
        cases e0;exact Z)
      oT (u32_one _)
    obtain ⟨I,p⟩ : ∃ I,I=w.setRow b ((l.map kQ).toArray.toList.take 0++(xs.take (min f m)).map kQ++(l.map kQ).toArray.toList.drop (0+((xs.take (min f m)).map kQ).length)).toArray:=⟨_,rfl⟩
    rw[<- p] at o
    refine WL.ev (v:=goInt ((xs.take (min f m)).map kQ).length) (w':=I) (λρ d' pos af g r=>?_) Q ?_
    · have G:=r x _ M
      have F:=r y _ J
      simp[execOp,resolve,invoke,builtin,G,F,o]
    · rw[h]
      refine k _ ?_ ?_
      · have:=setRow_heap w b _ ((l.map kQ).toArray.toList.take 0++(xs.take (min f m)).map kQ++(l.map kQ).toArray.toList.drop (0+((xs.take (min f m)).map kQ).length)).toArray e (0,0) C
        rw[<- p] at this
        unfold OB
        rw[this,h]
        simp[List.map_drop]
      · subst p
        exact ⟨rfl,rfl,rfl,by simp[World.setRow],λq hq A=>setRow_other w b q _ (by simpa using A)⟩
theorem Ev.dmx{t t':TypeId}{e c:Nat}{z:Value}{a b:Bool}[hT:aZ P t .bool e c z](g:g8 s x=some (.bool a))(f:g8 s y=some (.bool b)):Ev P s (.binOp .neq t x y t') ty w (.bool (a != b)) w:=
  pQ g f (λ_ _=>cnj _ _ _ _ _ _) (by
    have:=ckx (P:=P) (w:=w) (t:=t) (u:=.bool a) (v:=.bool b) (r:=a==b) λd=>by simp[Op.equalIn,hT.underlying]
    simp only[binOp]
    simp[this,bne])
theorem Ev.maxI{a b:Int}{d c:TypeId}(f:g8 s x=some (.int .i64 a))(e:g8 s y=some (.int .i64 b)):Ev P s (.call ⟨.builtin .max,[x,y].toArray,#[d,c]⟩) ty w (.int .i64 (max a b)) w:=λρ d' pos af g hρ=>by
  have e1:=hρ x _ f
  have e2:=hρ y _ e
  simp[execOp,resolve,invoke,builtin,e1,e2,Builtin.max_,Builtin.max2]
  by_cases h:a<=b
  · rw[Int.max_eq_right h];simp[h];try omega
  · rw[Int.max_eq_left oO];simp[h];try omega
theorem Ev.minI{a b:Int}{d c:TypeId}(f:g8 s x=some (.int .i64 a))(e:g8 s y=some (.int .i64 b)):Ev P s (.call ⟨.builtin .min,[x,y].toArray,#[d,c]⟩) ty w (.int .i64 (min a b)) w:=λρ d' pos af g hρ=>by
  have e1:=hρ x _ f
  have e2:=hρ y _ e
  simp[execOp,resolve,invoke,builtin,e1,e2,Builtin.min_,Builtin.min2]
  by_cases h:a<=b
  · rw[Int.min_eq_left h];simp[h];try omega
  · rw[Int.min_eq_right oO];simp[h];try omega
def BK(w:World)(b:Nat)(T:TypeId)(l:List Value):Prop:=w.heap[b]?=some (.cells l.toArray T (0,0))
theorem BK.gZ{b:Nat}{T:TypeId}{l:List Value}{U:List Nat}{w':World}(h:BK w b T l)(a:Chg U w w')(hT:b∉U):BK w' b T l:=a.heap h hT
theorem BK.q5{b:Nat}{T:TypeId}{l:List Value}{w':World}(h:BK w b T l)(a:Chg [] w w'):BK w' b T l:=a.heap h oS
theorem BK.lt{b:Nat}{T:TypeId}{l:List Value}(h:BK w b T l):b<w.heap.size:=azx h
theorem BK.at_{b:Nat}{T:TypeId}{l:List Value}{i:Nat}{v:Value}(h:BK w b T l)(a:l[i]?=some v):w.cell? ⟨b,i,none⟩=some v:=by rw[a5j h];exact a
theorem BK.sub{b:Nat}{T:TypeId}{l cs:List Value}{o m:Nat}(h:BK w b T l)(a:(l.drop o).take m=cs): ∀ j v,cs[j]?=some v->w.cell? (Addr.add ⟨b,o,none⟩ j)=some v:=λj v hj=>by
  subst a
  rw[awx]
  refine h.at_ ?_
  rw[List.getElem?_take] at hj
  split at hj
  · rwa [List.getElem?_drop] at hj
  · cases hj
theorem Ev.fQ{t:TypeId}{d:TypeDesc}{a c b o:Nat}{z:Value}{T:TypeId}{l cs:List Value}[hT:aZ P t d a c z](g:c3x d=true)(e:g8 s x=some (.pointer (some ⟨b,o,none⟩)))(i:BK w b T l)(h:(l.drop o).take a=cs)(f:cs.length=a):Ev P s (.load t x) ty w (.agg cs.toArray) w:=
  Ev.avq g f e (i.sub h)
theorem Ev.oQ{t:TypeId}{d:TypeDesc}{c a b:Nat}{z:Value}{T:TypeId}{l:List Value}[hT:aZ P t d c a z](g:c3x d=true)(e:g8 s x=some (.pointer (some ⟨b,0,none⟩)))(h:BK w b T l)(f:l.length=c):Ev P s (.load t x) ty w (.agg l.toArray) w:=
  Ev.avq g f e (h.sub (m:=l.length) oS)
theorem BK.fX{t:TypeId}{d:TypeDesc}{c a b:Nat}{z:Value}{T:TypeId}{l:List Value}[hT:aZ P t d c a z](g:BK w b T l)(f:c3x d=true)(e:l.length=c):(loadVar t ⟨b,0,none⟩).run P w = .ok (.agg l.toArray) w:=
  loadVar_agg f e (g.sub (m:=l.length) oS)
theorem BK.var1{t:TypeId}{c:TypeDesc}{d a b o:Nat}{z v:Value}{T:TypeId}{l:List Value}[hT:aZ P t c d a z](g:BK w b T l)(e:c3x c=false)(f:l[o]?=some v):(loadVar t ⟨b,o,none⟩).run P w = .ok v w:=
  loadVar_one e (g.at_ f)
theorem WL.iQ{t:TypeId}{g:TypeDesc}{c a:Nat}{z:Value}{l:List Value}[hT:aZ P t g c a z](e:z.cells=l.toArray)(f:Nat.blt d n=true)
    (k : ∀ b w',BK w' b t l->Chg [] w w'->w.heap.size<=b->WL P ops K rest n D ((d,.pointer (some ⟨b,0,none⟩))::s) w'):WL P ops K (⟨some d,.alloc t,ty,pos,af,none⟩::rest) n D s w:=
  WL.alloc e f λb w' hn=>k b w' hn.at_ hn.chg hn.ge
theorem WL.cgj{t:TypeId}{v:Value}{l:List Value}(a:g8 s x=some v)(c:v.cells=l.toArray)(e:Nat.blt d n=true)
    (k : ∀ b w',BK w' b t l->Chg [] w w'->w.heap.size<=b->WL P ops K rest n D ((d,.pointer (some ⟨b,0,none⟩))::s) w'):WL P ops K (⟨some d,.box t x,ty,pos,af,none⟩::rest) n D s w:=
  WL.box a c e λb w' hn=>k b w' hn.at_ hn.chg hn.ge
theorem WL.nQ{t:TypeId}{q:TypeDesc}{c a:Nat}{z:Value}{b i:Nat}{l d vs:List Value}{T:TypeId}[hT:aZ P t q c a z](g:g8 s x=some (.pointer (some ⟨b,i,none⟩)))(f:g8 s y=some (.agg vs.toArray))(h:vs.length=c)(p : ∀ v∈vs,v.oneCell'=true)
    (o:BK w b T l) (j:i+vs.length<=l.length) (m:splice l i vs=d) (k : ∀ w',BK w' b T d->Chg [b] w w'->WL P ops K rest n D s w'):WL P ops K (⟨none,.store t x y,ty,pos,af,none⟩::rest) n D s w:=by
  subst m
  exact WL.storeAgg g f h p o j λw' e=>k w' e.at_ e.chg
theorem WL.bJ{t:TypeId}{o:TypeDesc}{a:Nat}{z:Value}{b i:Nat}{l c:List Value}{T:TypeId}{v:Value}[hT:aZ P t o 1 a z](f:g8 s x=some (.pointer (some ⟨b,i,none⟩)))(e:g8 s y=some v)(m:v.oneCell'=true)
    (j:BK w b T l) (g:i<l.length) (h:l.set i v=c) (k : ∀ w',BK w' b T c->Chg [b] w w'->WL P ops K rest n D s w'):WL P ops K (⟨none,.store t x y,ty,pos,af,none⟩::rest) n D s w:=by
  subst h
  exact WL.store f e m j g λw' d=>k w' d.at_ d.chg
theorem CW.bZ{A:AQ}{a:Nat}{l:List Oper}(m:Nat)(b:l.length=m)(c:P.follows .mixedOrders=true)
    (h : ∀ R:KK,(∀ D s w,A .normal D s w->R D s w)->Chg [] w.drew w.drew->Chg [] w w.drew->WH P l.toArray R (Chg [] w.drew) m (Array.replicate m false) n D s w.drew):CW P (.region a l.toArray true) A n D s w:=
  CW.regionH (Chg [] w.drew) m b c λR hR=>h R hR (Chg.refl _ _) (Chg.drew _ _)
theorem CW.jQ{A:AQ}{a:Nat}{l:List Oper}(b:P.follows .mixedOrders=true)(c:Region.lexB .any l.toArray=true)
    (h : ∀ K:List Deferred->Sl->Prop,(∀ D s,A .normal D s w.drew->K D s)->Chg [] w w.drew->WS P l.toArray K l n D s w.drew):CW P (.region a l.toArray true) A n D s w:=
  CW.regionS b c λK hK=>h K hK (Chg.drew _ _)
theorem CW.gX{A:AQ}{a:Nat}{l:List Oper}(z m:Nat)(b:l.length=m)(c:P.follows .mixedOrders=true)
    (h : ∀ R:KK,(∀ D s w,A .normal D s w->R D s w)->Chg [] w.drew w.drew->Chg [] w w.drew->WK P l.toArray R (Chg [] w.drew) z m (Array.replicate m false) n D s w.drew):CW P (.region a l.toArray true) A n D s w:=
  CW.regionK (Chg [] w.drew) z m b c λR hR=>h R hR (Chg.refl _ _) (Chg.drew _ _)
theorem bxx : ∀ (r l:List Value),splice (l++r) l.length r=l++r
  | [],l=>by simp[splice]
  | x::r,l=>by
    have h:=bxx r (l++[x])
    simp only[splice]
    rw[show (l++x::r).set l.length x=l++x::r by simp]
    simpa using h
def S2(b:Nat)(T:TypeId)(l:List Value)(b2:Nat)(T2:TypeId)(l2:List Value)(w:World):Prop:=BK w b T l/\BK w b2 T2 l2
theorem CW.dgx{A:AQ}{g:Nat}{l:List Oper}(m:Nat){b d:Nat}{T e:TypeId}{c a:List Value}(k:BK w b T c)(f:BK w d e a)(i:l.length=m)(j:P.follows .mixedOrders=true)
    (h : ∀ R:KK,(∀ D s w,A .normal D s w->R D s w)->S2 b T c d e a w.drew->Chg [] w w.drew->WH P l.toArray R (S2 b T c d e a) m (Array.replicate m false) n D s w.drew):CW P (.region g l.toArray true) A n D s w:=
  CW.regionH (S2 b T c d e a) m i j λR hR=>h R hR ⟨k.q5 (Chg.drew _ _),f.q5 (Chg.drew _ _)⟩ (Chg.drew _ _)
section
variable {fuel:Nat} {listed:Array Bool} {b b2:Nat} {T T2:TypeId} {l1 l2:List Value}
theorem WH.same1(i:Nat){t:TypeId}{A:TypeDesc}{f d:Nat}{l:Value}{x y:Operand}[hT:aZ P t A f d l](r:ops[i]?=some ⟨none,.store t x y,ty,pos,af,none⟩)(q:Region.ready .any ops listed=[i])
    (o:g8 s x=some (.pointer (some ⟨b,0,none⟩))) (m:g8 s y=some (.agg l1.toArray)) (p:l1.length=f) (z : ∀ v∈l1,v.oneCell'=true) (c:b≠b2) (g:S2 b T l1 b2 T2 l2 w)
    (k : ∀ w',S2 b T l1 b2 T2 l2 w'->Chg [b] w w'->WH P ops K (S2 b T l1 b2 T2 l2) fuel (listed.setIfInBounds i true) n D s w'):WH P ops K (S2 b T l1 b2 T2 l2) (fuel+1) listed n D s w:=by
  obtain ⟨w',u,a⟩:=a5x (P:=P) (ty:=ty) (t:=t) (hT:=hT) o m p z g.1 oS
  have e:=bxx l1 []
  simp only[List.nil_append,List.length_nil] at e
  have j:=a.at_
  rw[e] at j
  have h:S2 b T l1 b2 T2 l2 w':=⟨j,g.2.gZ a.chg (by simpa using Ne.symm c)⟩
  exact WH.oneS i r q u h (k w' h a.chg)
theorem WH.same2(i:Nat){t:TypeId}{A:TypeDesc}{f d:Nat}{l:Value}{x y:Operand}[hT:aZ P t A f d l](r:ops[i]?=some ⟨none,.store t x y,ty,pos,af,none⟩)(q:Region.ready .any ops listed=[i])
    (o:g8 s x=some (.pointer (some ⟨b2,0,none⟩))) (m:g8 s y=some (.agg l2.toArray)) (p:l2.length=f) (z : ∀ v∈l2,v.oneCell'=true) (c:b≠b2) (g:S2 b T l1 b2 T2 l2 w)
    (k : ∀ w',S2 b T l1 b2 T2 l2 w'->Chg [b2] w w'->WH P ops K (S2 b T l1 b2 T2 l2) fuel (listed.setIfInBounds i true) n D s w'):WH P ops K (S2 b T l1 b2 T2 l2) (fuel+1) listed n D s w:=by
  obtain ⟨w',u,a⟩:=a5x (P:=P) (ty:=ty) (t:=t) (hT:=hT) o m p z g.2 oS
  have e:=bxx l2 []
  simp only[List.nil_append,List.length_nil] at e
  have j:=a.at_
  rw[e] at j
  have h:S2 b T l1 b2 T2 l2 w':=⟨g.1.gZ a.chg (by simpa using c),j⟩
  exact WH.oneS i r q u h (k w' h a.chg)
end
section
variable {A:AQ} {S:World->Prop} {z:Nat} {fuel:Nat} {listed:Array Bool} {op:Op}
theorem WK.nQ(i:Nat){t:TypeId}{F:TypeDesc}{f d:Nat}{j:Value}{b o:Nat}{l g vs:List Value}{T:TypeId}{x y:Operand}[hT:aZ P t F f d j](A:ops[i]?=some ⟨none,.store t x y,ty,pos,af,none⟩)(r:Region.ready .any ops listed=[i])(a:(listed.setIfInBounds i true).getD z false=true)
    (p:g8 s x=some (.pointer (some ⟨b,o,none⟩))) (m:g8 s y=some (.agg vs.toArray)) (q:vs.length=f) (C : ∀ v∈vs,v.oneCell'=true)
    (B:BK w b T l) (u:o+vs.length<=l.length) (c:splice l o vs=g) (k : ∀ w',BK w' b T g->Chg [b] w w'->WK P ops K S z fuel (listed.setIfInBounds i true) n D s w'):WK P ops K S z (fuel+1) listed n D s w:=by
  subst c
  obtain ⟨w',c,h⟩:=a5x (P:=P) (ty:=ty) (t:=t) (hT:=hT) p m q C B u
  exact WK.oneS i A r c (λe=>by rw[a] at e;cases e) (k w' h.at_ h.chg)
theorem WK.bJ(i:Nat){t:TypeId}{A:TypeDesc}{c:Nat}{f:Value}{b o:Nat}{l d:List Value}{T:TypeId}{u:Value}{x y:Operand}[hT:aZ P t A 1 c f](p:ops[i]?=some ⟨none,.store t x y,ty,pos,af,none⟩)(j:Region.ready .any ops listed=[i])(a:(listed.setIfInBounds i true).getD z false=true)
    (h:g8 s x=some (.pointer (some ⟨b,o,none⟩))) (g:g8 s y=some u) (v:u.oneCell'=true)
    (r:BK w b T l) (m:o<l.length) (q:l.set o u=d) (k : ∀ w',BK w' b T d->Chg [b] w w'->WK P ops K S z fuel (listed.setIfInBounds i true) n D s w'):WK P ops K S z (fuel+1) listed n D s w:=by
  subst q
  exact WK.d2j i p j a h g v r m λw' e=>k w' e.at_ e.chg
theorem WK.sJ(i:Nat){t:TypeId}{p:TypeDesc}{c:Nat}{d:Value}{b o v:Nat}{l:List Nat}{E:TypeId}{x y:Operand}[hT:aZ P t p 1 c d](j:ops[i]?=some ⟨none,.store t x y,ty,pos,af,none⟩)(g:Region.ready .any ops listed=[i])(a:(listed.setIfInBounds i true).getD z false=true)
    (f:g8 s x=some (.pointer (some ⟨b,o,none⟩))) (e:g8 s y=some (.int .u32 (v:Int)))
    (m:OB w b E l) (h:o<l.length) (k : ∀ w',OB w' b E (l.set o v)->Chg [b] w w'->WK P ops K S z fuel (listed.setIfInBounds i true) n D s w'):WK P ops K S z (fuel+1) listed n D s w:=
  WK.d2j (l:=l.map kQ) (u:=kQ v) i j g a f e rfl m (by simpa using h) λw' hu=>k w' (by have:=hu.at_;rw[<- List.map_set] at this;exact this) hu.chg
theorem WK.after(i:Nat){d:Nat}{v:Value}(c:ops[i]?=some ⟨some d,op,ty,pos,af,none⟩)(b:Region.ready .any ops listed=[i])(a:(listed.setIfInBounds i true).getD z false=true)(f:Ev P s op ty w v w)(g:Nat.blt d n=true)
    (k:WK P ops K S z fuel (listed.setIfInBounds i true) n D ((d,v)::s) w):WK P ops K S z (fuel+1) listed n D s w:=
  WK.one i c b f (λe=>by rw[a] at e;cases e) g k
end
theorem Ev.indexS{t:TypeId}{b:ByteArray}{k:IntKind}{i:Nat}{c:UInt8}{d a:Nat}{z:Value}[hT:aZ P t .string d a z](f:g8 s x=some (.string b))(e:g8 s y=some (.int k (i:Int)))(h:b[i]?=some c):Ev P s (.index t x y) ty w (.int .u8 (c.toNat:Int)) w:=λρ d' pos af g hρ=>by
  have e1:=hρ x _ f
  have e2:=hρ y _ e
  have e3:(0:Int)<=(i:Int):=by omega
  simp[execOp,e1,e2,Instr.index,asIntOf,hT.underlying,h]
end
end Sx
namespace Sx
open Go
theorem qs:(∀ (p:Prop) [Decidable p],(decide p=true)=p)/\(∀ (p:Prop) [Decidable p],(decide p=false) = ¬p)/\(∀ (p:Prop) [Decidable p],(¬¬p)=p)/\(∀ a b:Bool,((a&&b)=true)=(a=true/\b=true))/\(∀ a b:Bool,((a||b)=true)=(a=true\/b=true))/\(∀ b:Bool,((!b)=true)=(b=false))/\(∀ b:Bool,((!b)=false)=(b=true))/\(∀ (α:Type) (a b:α),(a≠b) = ¬a=b)/\(∀ a b:Int,(¬a<b)=(b<=a))/\(∀ a b:Int,(¬a<=b)=(b<a)):=
  ⟨λp _=>by simp,λp _=>by simp,λp _=>by simp[Decidable.not_not],λa b=>by simp,λa b=>by simp,λb=>by simp,λb=>by simp,λ_ a b=>rfl,λa b=>propext Int.not_lt,λa b=>propext Int.not_le⟩
theorem qt:(∀ (x y:Value) (l:List Value),(x::l).set 0 y=y::l)/\(∀ (x y:Value) (l:List Value) (i:Nat),(x::l).set (i+1) y=x::l.set i y)/\(∀ n:Nat,0+n=n)/\(∀ (l:List Value) (i:Nat),splice l i []=l)/\(∀ (l:List Value) (i:Nat) (v:Value) (r:List Value),splice l i (v::r)=splice (l.set i v) (i+1) r):=⟨λ_ _ _=>rfl,λ_ _ _ _=>rfl,Nat.zero_add,λ_ _=>rfl,λ_ _ _ _=>rfl⟩
theorem Chg.s1{T:List Nat}{b:Nat}{a w w':World}(h:Chg T a w)(k:Chg [b] w w')(c:b∈T\/a.heap.size<=b:=by first|exact .inr (by first|assumption|omega)|exact .inl oS):Chg T a w':=
  h.step k λy hy=>by simp only[List.mem_singleton] at hy;subst hy;exact c
section
variable {P:Program} {n:Nat} {D:List Deferred} {s:Sl} {w:World} {ops:Array Oper} {K:KK} {rest:List Oper} {ty:TypeId} {pos:String} {af:Array Edge} {d:Nat} {x:Operand} {v:Value}
theorem Mv(h:g8 s x=some v)(a:Nat.blt d n=true)(k:WL P ops K rest n D ((d,v)::s) w):WL P ops K (⟨some d,.move x,ty,pos,af,none⟩::rest) n D s w:=WL.ev (Ev.move h) a k
theorem As(h:g8 s x=some v)(a:Nat.blt d n=true)(k:WL P ops K rest n D ((d,v)::s) w):WL P ops K (⟨some d,.assign x,ty,pos,af,none⟩::rest) n D s w:=WL.ev (Ev.assign h) a k
theorem Sq{A:AQ}{a:Nat}{l:List Oper}{y:Code}(h : ∀ K:KK,(∀ D s w,CW P y A n D s w->K D s w)->∀ R:KK,(∀ D s w,cjq K A .normal D s w->R D s w)->WL P l.toArray R l n D s w):CW P (.seq (.region a l.toArray false) y) A n D s w:=
  CW.seq λK kh=>CW.region λR kr=>h K kh R kr
end
end Sx
namespace Sx
open Go
section
variable {P:Program} {n:Nat} {D:List Deferred} {s:Sl} {w:World} {ty:TypeId} {x y:Operand} {ops:Array Oper} {K:KK} {rest:List Oper} {pos:String} {af:Array Edge} {d:Nat}
theorem Ev.shlI{t t':TypeId}{a b c:Int}{d:IntKind}(f:g8 s x=some (.int .i64 a))(e:g8 s y=some (.int d b))(h:0<=b)(g:IntKind.i64.wrap (a*2^(min b.toNat 64))=c):Ev P s (.binOp .shl t x y t') ty w (.int .i64 c) w:=by
  subst g
  exact Ev.shl (P:=P) (w:=w) (ty:=ty) (t:=t) (t':=t') f e h
theorem Ev.andI{t t':TypeId}{a b:Nat}(g:g8 s x=some (.int .i64 (a:Int)))(f:g8 s y=some (.int .i64 (b:Int)))(i:a<9223372036854775808)(h:b<9223372036854775808):Ev P s (.binOp .and t x y t') ty w (.int .i64 ((a&&& b:Nat):Int)) w:=by
  have:=Ev.and (P:=P) (w:=w) (ty:=ty) (t:=t) (t':=t') g f
  have d:a<2^IntKind.i64.bits:=by show a<2^64;omega
  have c:b<2^IntKind.i64.bits:=by show b<2^64;omega
  have e:aiq .and .i64 (a:Int) (b:Int)=((a&&& b:Nat):Int):=by
    simp only[aiq,a6x,BitVec.toNat_and,BitVec.toNat_ofNat,Nat.mod_eq_of_lt d,Nat.mod_eq_of_lt c]
    have:a&&& b<2^63:=Nat.and_lt_two_pow _ h
    exact wrap_i64 oO
  rwa [e] at this
theorem Ev.indexAr{t e m o:Nat}{l:List Value}{k:IntKind}{i:Nat}{v:Value}{b:TypeDesc}{ze:Value}{c a:Nat}{z:Value}[hT:aZ P t (.array m e) c a z][hE:aZ P e b 1 o ze](f:g8 s x=some (.agg l.toArray))(d:g8 s y=some (.int k (i:Int)))(j:i<m)(n:c3x b=false)(h:l[i]?=some v):Ev P s (.index t x y) ty w v w:=λρ d' pos af g hρ=>by
  have e1:=hρ x _ f
  have e2:=hρ y _ d
  have e3:(0:Int)<=(i:Int):=by omega
  have e4:(i:Int)<(m:Int):=by omega
  simp[execOp,e1,e2,Instr.index,asIntOf,hT.underlying,e3,e4,hE.sizeOf,part,hE.isAgg,n,h,j]
theorem Ev.buildA{t e m:Nat}{j:TypeDesc}{b k:Nat}{ze:Value}{d c:Nat}{z:Value}{a:List (Nat×Operand)}{vs:List (Nat×Value)}{cs:List Value}[hT:aZ P t (.array m e) d c z][hE:aZ P e j b k ze]
    (f:bnx s a=some vs) (h:Instr.fill (λi=>some (i*b,b)) z.cells vs=some cs.toArray):Ev P s (.build t a.toArray) ty w (.agg cs.toArray) w:=λρ d' pos af g hρ=>by
  have h1:=bmj hρ a vs f
  simp[execOp,Instr.build,hT.zero,hT.underlying,hE.sizeOf,h1,h]
def FB(w:World)(b:Nat)(E:TypeId)(l:List Nat):Prop:=w.heap[b]?=some (.cells (l.map bix).toArray E (0,0))
theorem FB.row{b:Nat}{E:TypeId}{l:List Nat}(h:FB w b E l):RW w (some ⟨b,0,none⟩) (l.map bix):=RW.of_heap h
theorem FB.gZ{b:Nat}{E:TypeId}{l:List Nat}{T:List Nat}{w':World}(h:FB w b E l)(a:Chg T w w')(hT:b∉T):FB w' b E l:=a.heap h hT
theorem FB.q5{b:Nat}{E:TypeId}{l:List Nat}{w':World}(h:FB w b E l)(a:Chg [] w w'):FB w' b E l:=a.heap h oS
theorem FB.lt{b:Nat}{E:TypeId}{l:List Nat}(h:FB w b E l):b<w.heap.size:=azx h
theorem madeF{z:Value}(a:z.cells = #[.float .f64 0])(n:Nat):madeCells z.cells (n*1)=((List.replicate n 0).map bix).toArray:=by
  rw[a,Nat.mul_one]
  apply Array.ext'
  simp[madeCells,List.map_replicate,bix,Nat.mod_one,List.map_const']
theorem WL.makeF(j i:Nat){t:TypeId}{e a:Nat}{o p:IntKind}{l c:Int}{m g:Nat}{z:Value}[hT:aZ P t (.slice e) m g z][hE:aZ P e (.float .f64) 1 a (.float .f64 0)](r:g8 s x=some (.int o l))(q:g8 s y=some (.int p c))
    (v:l=(j:Int)) (B:c=(i:Int)) (u:j<=i) (F:a*i<=281474976710656) (C:i<=281474976710656) (A:Nat.blt d n=true)
    (k : ∀ b w',FB w' b e (List.replicate i 0)->Chg [] w w'->w.heap.size<=b->WL P ops K rest n D ((d,.slice (some ⟨b,0,none⟩) j i)::s) w'):WL P ops K (⟨some d,.makeSlice t x y,ty,pos,af,none⟩::rest) n D s w:=by
  subst v;subst B
  refine WL.make (hT:=hT) (hE:=hE) r q oO oO (by rw[show (a:Int)*(i:Int)=((a*i:Nat):Int) by simp];omega) oO A λb w' f=>?_
  have h:=f.at_
  rw[show (i:Int).toNat=i by omega,madeF (by rfl)] at h
  exact k b w' h f.chg f.ge
theorem WL.appendF{t e U:Nat}{ze:Value}{C p:Nat}{z:Value}{b m cap c2:Nat}{l:List Nat}{v:Nat}{q:Addr}[hT:aZ P t (.slice e) C p z][hE:aZ P e (.float .f64) 1 U ze]
    (G:g8 s x=some (.slice (some ⟨b,0,none⟩) m cap)) (F:g8 s y=some (.slice (some q) 1 c2)) (o:FB w b e l) (Q:w.cell? q=some (.float .f64 v)) (c:m+1<=cap) (B:m<l.length) (O:Nat.blt d n=true)
    (k : ∀ w',FB w' b e (l.set m v)->Chg [b] w w'->WL P ops K rest n D ((d,.slice (some ⟨b,0,none⟩) (m+1) cap)::s) w'):WL P ops K (⟨some d,.call ⟨.builtin .append,[x,y].toArray,#[t,t]⟩,ty,pos,af,none⟩::rest) n D s w:=by
  obtain ⟨i,M,f,J,I⟩:=hE.inf
  have h:=bcq w b m (l.map bix) e (bix v) o
  have a:=run_append_room_cells (P:=P) w t ty e i hT.und M b 0 m cap q 1 c2 [bix v] (by simp[f]) (λj u h=>by
      cases j with
      | zero=>simp at h;subst h;simpa[Addr.add,bix] using Q
      | succ j=>simp at h) (by simp;rfl) c (λj A=>by
      have:j=0:=by simpa using A
      subst this
      rw[f,a5j o];simp;omega) (λj A=>b6j o)
  have H:w.setCells b (0+m*i.size) [bix v]=w.setCell ⟨b,m,none⟩ (bix v):=by
    rw[f];simp[World.setCells]
  rw[H] at a
  refine WL.ev (v:=.slice (some ⟨b,0,none⟩) (m+1) cap) (w':=w.setCell ⟨b,m,none⟩ (bix v)) (λρ V pos af g r=>?_) O (k _ ?_ h.chg)
  · have T:=r x _ G
    have R:=r y _ F
    simp[execOp,resolve,invoke,builtin,T,R,a]
  · have:=h.at_;rw[<- List.map_set] at this;exact this
section
variable {P:Program} {ops:Array Oper} {Q:Exit->Act->World->Prop} {S:World->Prop} {z:Nat}
theorem anyK_firstT{i:Nat}{p:Oper}{v:Value}(F:ops[i]?=some p)(g:Region.noSelect ops=true)(V : ∀ c a w,Q (.panic c) (a.put p.dst v) w->Q (.panic c) a w)(B:z≠i):
    ∀ (fuel:Nat) (listed:Array Bool) (a:Act) (w:World),(∀ j oj,ops[j]?=some oj->j≠i->listed.getD j true=false->(∀ e∈oj.after,Region.binds .any e=true->e.on≠i)->p.apart ops oj=true)->
      i∈Region.ready .any ops listed->YieldsIf P ops (λ_=>True) p v a->(listed.getD z false=false->S w)->anyK P ops Q S z fuel (listed.setIfInBounds i true) (a.put p.dst v) w->anyK P ops Q S z (fuel+1) listed a w:=by
  have d : ∀ (listed:Array Bool),(listed.setIfInBounds i true).getD z false=listed.getD z false:=λlisted=>getD_set_ne false (Ne.symm B)
  intro fuel
  induction fuel with
  | zero=>
    intro listed a w _ m x I H
    refine ⟨λh=>(by rw[h] at m;cases m),λj y=>?_⟩
    by_cases e:j=i
    · subst e;exact x.wpOp F trivial ⟨λq=>I (by rw[<- d];exact q),H⟩
    · have:=ready_mono y e
      rw[H.1] at this;cases this
  | succ fuel ih=>
    intro listed a w f m x I H
    refine ⟨λh=>(by rw[h] at m;cases m),λj y=>?_⟩
    by_cases e:j=i
    · subst e;exact x.wpOp F trivial ⟨λq=>I (by rw[<- d];exact q),H⟩
    · have o:=H.2 j (ready_mono y e)
      obtain ⟨l,oj,n,u⟩:=mem_ready.1 y
      have s : ∀ e∈oj.after,Region.binds .any e=true->e.on≠i:=λe T U G=>by
        have o:=u e T U
        have M:=(mem_ready.1 m).1
        rw[G] at o
        rcases Nat.lt_or_ge i listed.size with q|q
        · simp[q] at M o;rw[M] at o;cases o
        · simp[Array.getElem?_eq_none q] at o
      have X:=wpOp_putIf n (f j oj n e l s) (λJ b=>Region.noSelect_spec g i p J b F) (λJ b=>Region.noSelect_spec g j oj J b n) V x o
      have t:((listed.setIfInBounds i true).setIfInBounds j true).getD z false=(listed.setIfInBounds j true).getD z false:=by
        rw[Array.setIfInBounds_comm _ _ (Ne.symm e)];exact d _
      refine wpOp_mono (λY O A=>⟨λq=>A.2.1 (by rw[t];exact q),ih (listed.setIfInBounds j true) Y O (λk ok R D r C=>f k ok R D ?_ C) (ready_mono m (Ne.symm e)) A.1 (λq=>A.2.1 (by rw[t];exact q)) ?_⟩) X
      · by_cases hjk:j=k
        · subst hjk;exact l
        · rw[getD_set_ne true hjk] at r;exact r
      · rw[Array.setIfInBounds_comm _ _ e]
        exact A.2.2
end
theorem WK.takeT{S:World->Prop}{z fuel:Nat}{b:Array Bool}{g:Op}{v:Value}(i:Nat)(j:ops[i]?=some ⟨some d,g,ty,pos,af,none⟩)(l:Region.noSelect ops=true)(o:Region.free .any ops b i=true)(m:(Region.ready .any ops b).contains i=true)(f:Nat.beq z i=false)
    (r:b.getD z false=false->S w) (p : ∀ w,Ev P s g ty w v w) (q:Nat.blt d n=true) (k:WK P ops K S z fuel (b.setIfInBounds i true) n D ((d,v)::s) w):WK P ops K S z (fuel+1) b n D s w:=λa ha=>
  anyK_firstT j l (λc a w h=>h.elim) (λe=>by rw[e] at f;simp at f) fuel b a w (Region.free_spec j o) (by simpa using m) (.inl ⟨by simp[Region.wanted],λw' hw'=>p w' a.eval (some d) pos af none λx u hx=>ha.eval hx⟩) r (k _ (ha.put q v))
def TB(w:World)(b:Nat)(T:TypeId)(L:List Nat)(R:List Value):Prop:=BK w b T (L.map u64v++R)
section
variable {b:Nat} {T:TypeId} {L:List Nat} {R:List Value}
theorem TB.gZ{U:List Nat}{w':World}(h:TB w b T L R)(a:Chg U w w')(hT:b∉U):TB w' b T L R:=a.heap h hT
theorem TB.q5{w':World}(h:TB w b T L R)(a:Chg [] w w'):TB w' b T L R:=a.heap h oS
end
theorem CW.dfj{A:AQ}{a:Nat}{l:List Oper}(m:Nat)(b:P.follows .mixedOrders=true)(c:Region.lexTailB .any l.toArray m=true)
    (h : ∀ R:KK,(∀ D s w,A .normal D s w->R D s w)->Chg [] w w.drew->WS P l.toArray (λD s=>WL P l.toArray R (l.drop m) n D s w.drew) (l.take m) n D s w.drew):CW P (.region a l.toArray true) A n D s w:=
  CW.regionT m b c λR hR=>h R hR (Chg.drew _ _)
theorem WS.afq{a:List Deferred->Sl->Prop}{b:Bool}(c:b=true->WS P ops a rest n D ((d,.bool true)::s) w)(e:b=false->WS P ops a rest n D ((d,.bool false)::s) w):WS P ops a rest n D ((d,.bool b)::s) w:=by
  cases b
  · exact e rfl
  · exact c rfl
end
end Sx
namespace Sx
open Go
section
variable {P:Program} {n:Nat} {D:List Deferred} {s:Sl} {w:World}
theorem CW.axj{A:AQ}{x y:Code}(c:Nat)(b:Bool)(d:Chg [] w w->CW P x (cjq (λD' s' w'=>D'=D/\Chg [] w w'/\q9 ((c,.bool b)::s) s') A) n D s w)(a : ∀ w',Chg [] w w'->CW P y A n D ((c,.bool b)::s) w'):CW P (.seq x y) A n D s w:=
  CW.anx _ (d (Chg.refl _ _)) λD' s' w' ⟨h1,h2,h3⟩=>by subst h1;exact (a w' h2).sub h3
end
section
variable {P:Program} {n:Nat} {D:List Deferred} {s:Sl} {w:World} {ops:Array Oper} {K:KK} {S:World->Prop} {fuel:Nat} {listed:Array Bool}
variable {op:Op} {ty:TypeId} {pos:String} {af:Array Edge} {d:Nat}
theorem WH.passG(i:Nat){j:Nat}{b:Bool}{g:Oper}{x:Bool}{t:Nat}(o:ops[i]?=some ⟨some d,op,ty,pos,af,some (j,b)⟩)(l:Region.noSelect ops=true)(q:Region.free .any ops listed i=true)(m:(Region.ready .any ops listed).contains i=true)
    (p:ops[j]?=some g) (f:g.dst=some t) (e:look s t=some (.bool x)) (u:(x==b)=false)
    (v:S w) (r:Nat.blt d n=true) (k:WH P ops K S fuel (listed.setIfInBounds i true) n D ((d,undef)::s) w):WH P ops K S (fuel+1) listed n D s w:=λa ha=>
  wpAnyH_take o l q m (λc a w h=>h.elim) (.inr ⟨by rw[aqq ha p f e];exact u,rfl⟩) v (k _ (ha.put r undef))
theorem WH.ayj(i:Nat){j:Nat}{b:Bool}{g:Oper}{x:Bool}{t:Nat}(h:ops[i]?=some ⟨some d,op,ty,pos,af,some (j,b)⟩)(f:Region.ready .any ops listed=[i])
    (l:ops[j]?=some g) (e:g.dst=some t) (c:look s t=some (.bool x)) (o:(x==b)=false)
    (p:S w) (m:Nat.blt d n=true) (k:WH P ops K S fuel (listed.setIfInBounds i true) n D ((d,undef)::s) w):WH P ops K S (fuel+1) listed n D s w:=λa ha=>
  wpAnyH_all f oS λj' hj=>by
    obtain rfl:j'=i:=by simpa using hj
    unfold wpOp
    simp only[h]
    rw[if_neg (by rw[aqq ha l e c,o];simp)]
    exact ⟨p,k _ (ha.put m undef)⟩
end
end Sx
namespace Sx
open Go
section
variable {P:Program} {A:AQ} {n:Nat} {D:List Deferred} {s:Sl} {w:World} {ops:Array Oper} {K:KK} {rest:List Oper} {ty t t':TypeId} {pos:String} {af:Array Edge} {dst:Option Tmp} {d j i:Nat} {b:Bool} {v:Value} {x y c:Operand} {op:Op}
theorem zm(h:g8 s x=some v)(k:WL P ops K rest n D ((d,v)::s) w)(a:Nat.blt d n=true:=by rfl):WL P ops K (⟨some d,.move x,ty,pos,af,none⟩::rest) n D s w:=WL.ev (Ev.move h) a k
theorem za(h:g8 s x=some v)(k:WL P ops K rest n D ((d,v)::s) w)(a:Nat.blt d n=true:=by rfl):WL P ops K (⟨some d,.assign x,ty,pos,af,none⟩::rest) n D s w:=WL.ev (Ev.assign h) a k
theorem zx{l:List Value}(h:g8 s x=some (.tuple l.toArray))(a:l[i]?=some v)(k:WL P ops K rest n D ((d,v)::s) w)(b:Nat.blt d n=true:=by rfl):WL P ops K (⟨some d,.extract x i,ty,pos,af,none⟩::rest) n D s w:=WL.ev (Ev.extract h a) b k
theorem zf{b o a:Nat}[hF:eZ P t i a](c:g8 s x=some (.pointer (some ⟨b,o,none⟩)))(k:WL P ops K rest n D ((d,.pointer (some ⟨b,o+a,none⟩))::s) w)(e:Nat.blt d n=true:=by rfl):WL P ops K (⟨some d,.fieldAddr t x i,ty,pos,af,none⟩::rest) n D s w:=WL.ev (Ev.fieldAddr c) e k
theorem zl{c:TypeDesc}{e a b:Nat}{z:Value}{T:TypeId}{l:List Value}{o:Nat}[hT:aZ P t c e a z](j:BK w b T l)(f:g8 s x=some (.pointer (some ⟨b,o,none⟩)))(g:l[o]?=some v)(k:WL P ops K rest n D ((d,v)::s) w)(h:c3x c=false:=by rfl)(i:Nat.blt d n=true:=by rfl):WL P ops K (⟨some d,.load t x,ty,pos,af,none⟩::rest) n D s w:=WL.ev (Ev.load h f (j.at_ g)) i k
theorem zg{e:TypeDesc}{c a b:Nat}{z:Value}{T:TypeId}{l:List Value}[hT:aZ P t e c a z](j:BK w b T l)(f:g8 s x=some (.pointer (some ⟨b,0,none⟩)))(k:WL P ops K rest n D ((d,.agg l.toArray)::s) w)(h:c3x e=true:=by rfl)(g:l.length=c:=by rfl)(i:Nat.blt d n=true:=by rfl):WL P ops K (⟨some d,.load t x,ty,pos,af,none⟩::rest) n D s w:=WL.ev (Ev.oQ h f j g) i k
theorem zt{p q:Operand}(b:g8 s c=some (.bool true))(e:g8 s p=some v)(k:WL P ops K rest n D ((d,v)::s) w)(a:Nat.blt d n=true:=by rfl):WL P ops K (⟨some d,.pick c p q,ty,pos,af,none⟩::rest) n D s w:=WL.ev (Ev.aex b rfl e) a k
theorem ze{p q:Operand}(b:g8 s c=some (.bool false))(e:g8 s q=some v)(k:WL P ops K rest n D ((d,v)::s) w)(a:Nat.blt d n=true:=by rfl):WL P ops K (⟨some d,.pick c p q,ty,pos,af,none⟩::rest) n D s w:=WL.ev (Ev.anq b rfl e) a k
theorem zn{a:Option Addr}{m c e:Nat}{f b:Nat}{z:Value}[hT:aZ P t (.slice e) f b z](g:g8 s x=some (.slice a m c))(k:WL P ops K rest n D ((d,.int .i64 (m:Int))::s) w)(h:Nat.blt d n=true:=by rfl):WL P ops K (⟨some d,.call ⟨.builtin .len,[x].toArray,#[t]⟩,ty,pos,af,none⟩::rest) n D s w:=WL.ev (Ev.len g) h k
theorem zq{q:IntKind}{a b:Int}(e:g8 s x=some (.int q a))(c:g8 s y=some (.int q b))(k:WL P ops K rest n D ((d,.bool (decide (a=b)))::s) w)(f:Nat.blt d n=true:=by rfl):WL P ops K (⟨some d,.binOp .eql t x y t',ty,pos,af,none⟩::rest) n D s w:=WL.ev (Ev.eql e c) f k
theorem zL{q:IntKind}{a b:Int}(e:g8 s x=some (.int q a))(c:g8 s y=some (.int q b))(k:WL P ops K rest n D ((d,.bool (decide (a<b)))::s) w)(f:Nat.blt d n=true:=by rfl):WL P ops K (⟨some d,.binOp .lss t x y t',ty,pos,af,none⟩::rest) n D s w:=WL.ev (Ev.lss e c) f k
theorem zG{q:IntKind}{a b:Int}(e:g8 s x=some (.int q a))(c:g8 s y=some (.int q b))(k:WL P ops K rest n D ((d,.bool (decide (b<a)))::s) w)(f:Nat.blt d n=true:=by rfl):WL P ops K (⟨some d,.binOp .gtr t x y t',ty,pos,af,none⟩::rest) n D s w:=WL.ev (Ev.gtr e c) f k
theorem zN{q:IntKind}{a b:Int}(e:g8 s x=some (.int q a))(c:g8 s y=some (.int q b))(k:WL P ops K rest n D ((d,.bool (decide (a≠b)))::s) w)(f:Nat.blt d n=true:=by rfl):WL P ops K (⟨some d,.binOp .neq t x y t',ty,pos,af,none⟩::rest) n D s w:=WL.ev (Ev.neq e c) f k
theorem zQ{q:IntKind}{a b:Int}(e:g8 s x=some (.int q a))(c:g8 s y=some (.int q b))(k:WL P ops K rest n D ((d,.bool (decide (a<=b)))::s) w)(f:Nat.blt d n=true:=by rfl):WL P ops K (⟨some d,.binOp .leq t x y t',ty,pos,af,none⟩::rest) n D s w:=WL.ev (Ev.leq e c) f k
theorem zP{a:Addr}(h:g8 s x=some (.pointer (some a)))(k:WL P ops K rest n D ((d,.pointer (some a))::s) w)(b:Nat.blt d n=true:=by rfl):WL P ops K (⟨some d,.nilCheck x,ty,pos,af,none⟩::rest) n D s w:=WL.ev (Ev.nilPtr h) b k
theorem zT{b:Bool}(h:g8 s x=some (.bool b))(k:WL P ops K rest n D ((d,.bool !b)::s) w)(a:Nat.blt d n=true:=by rfl):WL P ops K (⟨some d,.unOp .not t x,ty,pos,af,none⟩::rest) n D s w:=WL.ev (Ev.not h) a k
def gdOf(ops:Array Oper)(j:Nat)(s:Sl):Option Value:=
  match ops[j]? with
  | some g=>match g.dst with
    | some t=>look s t
    | none=>none
  | none=>none
theorem a6q(h:gdOf ops j s=some v): ∃ g t,ops[j]?=some g/\g.dst=some t/\look s t=some v:=by
  unfold gdOf at h
  split at h
  · rename_i g hg
    split at h
    · rename_i t ht;exact ⟨g,t,hg,ht,h⟩
    · cases h
  · cases h
theorem zw{q:Bool}(h:gdOf ops j s=some (.bool q))(k:WL P ops K (⟨dst,op,ty,pos,af,none⟩::rest) n D s w)(a:(q==b)=true:=by rfl):WL P ops K (⟨dst,op,ty,pos,af,some (j,b)⟩::rest) n D s w:=by
  obtain ⟨g,t,e,d,c⟩:=a6q h
  exact WL.want e d c a k
theorem zv{q:Bool}(h:gdOf ops j s=some (.bool q))(k:WL P ops K rest n D ((d,undef)::s) w)(c:(q==b)=false:=by rfl)(a:Nat.blt d n=true:=by rfl):WL P ops K (⟨some d,op,ty,pos,af,some (j,b)⟩::rest) n D s w:=by
  obtain ⟨g,t,i,f,e⟩:=a6q h
  exact WL.pass i f e c a k
theorem zu(h:gdOf ops j s=some undef)(k:WL P ops K rest n D ((d,undef)::s) w)(a:Nat.blt d n=true:=by rfl):WL P ops K (⟨some d,op,ty,pos,af,some (j,b)⟩::rest) n D s w:=by
  obtain ⟨g,t,f,e,c⟩:=a6q h
  exact WL.passU f e c a k
theorem zz(h:K D s w):WL P ops K [] n D s w:=WL.nil h
theorem Sr{a:Nat}{l:List Oper}{y:Code}(h : ∀ R:KK,(∀ {D s w},CW P y A n D s w->R D s w)->WL P l.toArray R l n D s w):CW P (.seq (.region a l.toArray false) y) A n D s w:=
  CW.seq λK kh=>CW.region λR kr=>h R λhc=>kr _ _ _ (kh _ _ _ hc)
theorem zc{x y:Code}(h : ∀ K:KK,(∀ {D s w},CW P y A n D s w->K D s w)->CW P x (cjq K A) n D s w):CW P (.seq x y) A n D s w:=CW.seq λK kh=>h K λhc=>kh _ _ _ hc
theorem BK.kq{b:Nat}{T:TypeId}{l:List Value}{U:List Nat}{w':World}(h:BK w b T l)(a:Chg U w w')(hT:b∉U:=by simp;omega):BK w' b T l:=h.gZ a hT
theorem OB.kq{b:Nat}{E:TypeId}{l:List Nat}{U:List Nat}{w':World}(h:OB w b E l)(a:Chg U w w')(hT:b∉U:=by simp;omega):OB w' b E l:=h.gZ a hT
theorem FB.kq{b:Nat}{E:TypeId}{l:List Nat}{U:List Nat}{w':World}(h:FB w b E l)(a:Chg U w w')(hT:b∉U:=by simp;omega):FB w' b E l:=h.gZ a hT
theorem TB.kq{b:Nat}{T:TypeId}{L:List Nat}{R:List Value}{U:List Nat}{w':World}(h:TB w b T L R)(a:Chg U w w')(hT:b∉U:=by simp;omega):TB w' b T L R:=h.gZ a hT
theorem Chg.s2{T:List Nat}{b:Nat}{a w w':World}(h:Chg T a w)(k:Chg [b] w w')(c:a.heap.size<=b:=by first|assumption|omega):Chg T a w':=h.s1 k (.inr c)
theorem AqE{α:Type}{a b:α}(h:a=b:=by first|(simp_all;done)|(refine decide_eq_decide.2 ?_;omega)|(refine (decide_eq_true ?_).symm;omega)|(refine (decide_eq_false ?_).symm;omega)):a=b:=h
theorem crf(w:World):Chg [] w w:=Chg.refl _ _
theorem Chg.ta{T:List Nat}{w' a:World}(h:Chg T w w')(b:Chg [] w' a):Chg T w a:=h.trans (Chg.any b)
theorem zdd{a b q:Nat}(d:a<q)(c:q<=b):a≠b:=by omega
theorem zi{a b:Int}(e:g8 s x=some (.int .i64 a))(c:g8 s y=some (.int .i64 b))(k:WL P ops K rest n D ((d,.int .i64 (a+b))::s) w)(h : -9223372036854775808<=a+b/\a+b<=9223372036854775807:=by omega)(f:Nat.blt d n=true:=by rfl):WL P ops K (⟨some d,.binOp .add t x y t',ty,pos,af,none⟩::rest) n D s w:=WL.ev (Ev.jZ e c h) f k
theorem zo{q:IntKind}{a b:Int}(e:g8 s x=some (.int q a))(c:g8 s y=some (.int q b))(k:WL P ops K rest n D ((d,.int q (q.wrap (a+b)))::s) w)(f:Nat.blt d n=true:=by rfl):WL P ops K (⟨some d,.binOp .add t x y t',ty,pos,af,none⟩::rest) n D s w:=WL.ev (Ev.add e c) f k
theorem zy{x y:Code}{b:Bool}(e:g8 s c=some (.bool b))(a:b=true->CW P x A n D s w)(d:b=false->CW P y A n D s w):CW P (.cond c x y) A n D s w:=CW.cond e a d
theorem zr(h:A .ret D s w):CW P .ret A n D s w:=CW.ret h
theorem zr1{a:Func}{R:Value->World->Prop}{t:Nat}{v:Value}(c:a.results = #[.tmp t])(b:look s t=some v)(h:R v w):k8 P a n R .ret [] s w:=k8.ret1 c b h
theorem zr2{a:Func}{R:Value->World->Prop}{t u:Nat}{v x:Value}(d:a.results = #[.tmp t,.tmp u])(c:look s t=some v)(b:look s u=some x)(h:R (.tuple #[v,x]) w):k8 P a n R .ret [] s w:=k8.ret2 d c b h
theorem BK.k0{b:Nat}{T:TypeId}{l:List Value}{w':World}(h:BK w b T l)(a:Chg [] w w'):BK w' b T l:=h.q5 a
theorem OB.k0{b:Nat}{E:TypeId}{l:List Nat}{w':World}(h:OB w b E l)(a:Chg [] w w'):OB w' b E l:=h.q5 a
theorem FB.k0{b:Nat}{E:TypeId}{l:List Nat}{w':World}(h:FB w b E l)(a:Chg [] w w'):FB w' b E l:=h.q5 a
theorem TB.k0{b:Nat}{T:TypeId}{L:List Nat}{R:List Value}{w':World}(h:TB w b T L R)(a:Chg [] w w'):TB w' b T L R:=h.q5 a
theorem zss{p:TypeDesc}{c a:Nat}{z:Value}{b i:Nat}{l d vs:List Value}{T:TypeId}[hT:aZ P t p c a z](f:g8 s x=some (.pointer (some ⟨b,i,none⟩)))(e:g8 s y=some (.agg vs.toArray))(o : ∀ v∈vs,v.oneCell'=true)(m:BK w b T l)(j:splice l i vs=d)(k : ∀ w',BK w' b T d->Chg [b] w w'->WL P ops K rest n D s w')(g:vs.length=c:=by rfl)(h:i+vs.length<=l.length:=by simp):WL P ops K (⟨none,.store t x y,ty,pos,af,none⟩::rest) n D s w:=WL.nQ f e g o m h j k
theorem zS{a:Nat}{l:List Oper}(h : ∀ R:KK,(∀ {D s w},A .normal D s w->R D s w)->WL P l.toArray R l n D s w):CW P (.region a l.toArray false) A n D s w:=CW.region λR kr=>h R λhc=>kr _ _ _ hc
theorem zkk(h:A .normal D s w):CW P .skip A n D s w:=CW.skip h
theorem zb{b:Bool}(a:b=true->WL P ops K rest n D ((d,.bool true)::s) w)(c:b=false->WL P ops K rest n D ((d,.bool false)::s) w):WL P ops K rest n D ((d,.bool b)::s) w:=WL.afq a c
theorem zR{a:Nat}{l:List Oper}(h : ∀ R:KK,(∀ D s w,A .normal D s w->R D s w)->WL P l.toArray R l n D s w):CW P (.region a l.toArray false) A n D s w:=CW.region h
variable {S:World->Prop} {z:Nat} {fuel:Nat} {listed:Array Bool} {R:KK}
theorem wk(i:Nat)(g:ops[i]?=some ⟨some d,op,ty,pos,af,none⟩)(m:S w)(j : ∀ w,S w->Ev P s op ty w v w)(k:WK P ops R S z fuel (listed.setIfInBounds i true) n D ((d,v)::s) w)(e:Region.noSelect ops=true:=by kernel_rfl)(h:Region.free .any ops listed i=true:=by kernel_rfl)(f:(Region.ready .any ops listed).contains i=true:=by kernel_rfl)(c:Region.waitsFor .any ops z i=true:=by kernel_rfl)(a:Nat.beq z i=false:=by kernel_rfl)(b:listed.getD z false=false:=by kernel_rfl)(l:Nat.blt d n=true:=by rfl):WK P ops R S z (fuel+1) listed n D s w:=
  WK.take i g e h f c a b m j l k
theorem wh(i:Nat)(c:ops[i]?=some ⟨some d,op,ty,pos,af,none⟩)(h:S w)(f : ∀ w,S w->Ev P s op ty w v w)(k:WH P ops R S fuel (listed.setIfInBounds i true) n D ((d,v)::s) w)(a:Region.noSelect ops=true:=by kernel_rfl)(e:Region.free .any ops listed i=true:=by kernel_rfl)(b:(Region.ready .any ops listed).contains i=true:=by kernel_rfl)(g:Nat.blt d n=true:=by rfl):WH P ops R S (fuel+1) listed n D s w:=
  WH.take i c a e b h f g k
theorem wt(i:Nat)(e:ops[i]?=some ⟨some d,op,ty,pos,af,none⟩)(j:listed.getD z false=false->S w)(g : ∀ w,Ev P s op ty w v w)(k:WK P ops R S z fuel (listed.setIfInBounds i true) n D ((d,v)::s) w)(b:Region.noSelect ops=true:=by kernel_rfl)(f:Region.free .any ops listed i=true:=by kernel_rfl)(c:(Region.ready .any ops listed).contains i=true:=by kernel_rfl)(a:Nat.beq z i=false:=by kernel_rfl)(h:Nat.blt d n=true:=by rfl):WK P ops R S z (fuel+1) listed n D s w:=
  WK.takeT i e b f c a j g h k
theorem wg(i:Nat){j:Nat}{b:Bool}{g:Oper}{x:Bool}{t:Nat}(h:ops[i]?=some ⟨some d,op,ty,pos,af,some (j,b)⟩)(l:ops[j]?=some g)(c:g.dst=some t)(a:look s t=some (.bool x))(q:(x==b)=true)(r:S w)(o : ∀ w,S w->Ev P s op ty w v w)(k:WH P ops R S fuel (listed.setIfInBounds i true) n D ((d,v)::s) w)(e:Region.noSelect ops=true:=by kernel_rfl)(m:Region.free .any ops listed i=true:=by kernel_rfl)(f:(Region.ready .any ops listed).contains i=true:=by kernel_rfl)(p:Nat.blt d n=true:=by rfl):WH P ops R S (fuel+1) listed n D s w:=
  WH.takeG i h e m f l c a q r o p k
theorem wp(i:Nat){j:Nat}{b:Bool}{g:Oper}{x:Bool}{t:Nat}(h:ops[i]?=some ⟨some d,op,ty,pos,af,some (j,b)⟩)(l:ops[j]?=some g)(c:g.dst=some t)(a:look s t=some (.bool x))(p:(x==b)=false)(q:S w)(k:WH P ops R S fuel (listed.setIfInBounds i true) n D ((d,undef)::s) w)(e:Region.noSelect ops=true:=by kernel_rfl)(m:Region.free .any ops listed i=true:=by kernel_rfl)(f:(Region.ready .any ops listed).contains i=true:=by kernel_rfl)(o:Nat.blt d n=true:=by rfl):WH P ops R S (fuel+1) listed n D s w:=
  WH.passG i h e m f l c a p q o k
variable {K':List Deferred->Sl->Prop}
theorem yf{b o a:Nat}[hF:eZ P t i a](c:g8 s x=some (.pointer (some ⟨b,o,none⟩)))(k:WS P ops K' rest n D ((d,.pointer (some ⟨b,o+a,none⟩))::s) w)(e:Nat.blt d n=true:=by rfl):WS P ops K' (⟨some d,.fieldAddr t x i,ty,pos,af,none⟩::rest) n D s w:=WS.ev (Ev.fieldAddr c) e k
theorem yP{a:Addr}(h:g8 s x=some (.pointer (some a)))(k:WS P ops K' rest n D ((d,.pointer (some a))::s) w)(b:Nat.blt d n=true:=by rfl):WS P ops K' (⟨some d,.nilCheck x,ty,pos,af,none⟩::rest) n D s w:=WS.ev (Ev.nilPtr h) b k
theorem eM(h:g8 s x=some v): ∀ w,S w->Ev P s (.move x) ty w v w:=λ_ _=>Ev.move h
theorem eA(h:g8 s x=some v): ∀ w,S w->Ev P s (.assign x) ty w v w:=λ_ _=>Ev.assign h
theorem eP{a:Addr}(h:g8 s x=some (.pointer (some a))): ∀ w,S w->Ev P s (.nilCheck x) ty w (.pointer (some a)) w:=λ_ _=>Ev.nilPtr h
theorem eF{b o a:Nat}[hF:eZ P t i a](c:g8 s x=some (.pointer (some ⟨b,o,none⟩))): ∀ w,S w->Ev P s (.fieldAddr t x i) ty w (.pointer (some ⟨b,o+a,none⟩)) w:=λ_ _=>Ev.fieldAddr c
theorem eX{l:List Value}(h:g8 s x=some (.tuple l.toArray))(a:l[i]?=some v): ∀ w,S w->Ev P s (.extract x i) ty w v w:=λ_ _=>Ev.extract h a
theorem ym(h:g8 s x=some v)(k:WS P ops K' rest n D ((d,v)::s) w)(a:Nat.blt d n=true:=by rfl):WS P ops K' (⟨some d,.move x,ty,pos,af,none⟩::rest) n D s w:=WS.ev (Ev.move h) a k
theorem ya(h:g8 s x=some v)(k:WS P ops K' rest n D ((d,v)::s) w)(a:Nat.blt d n=true:=by rfl):WS P ops K' (⟨some d,.assign x,ty,pos,af,none⟩::rest) n D s w:=WS.ev (Ev.assign h) a k
theorem yt{p q:Operand}(b:g8 s c=some (.bool true))(e:g8 s p=some v)(k:WS P ops K' rest n D ((d,v)::s) w)(a:Nat.blt d n=true:=by rfl):WS P ops K' (⟨some d,.pick c p q,ty,pos,af,none⟩::rest) n D s w:=WS.ev (Ev.aex b rfl e) a k
theorem ye{p q:Operand}(b:g8 s c=some (.bool false))(e:g8 s q=some v)(k:WS P ops K' rest n D ((d,v)::s) w)(a:Nat.blt d n=true:=by rfl):WS P ops K' (⟨some d,.pick c p q,ty,pos,af,none⟩::rest) n D s w:=WS.ev (Ev.anq b rfl e) a k
theorem yn{a:Option Addr}{m c e:Nat}{f b:Nat}{z:Value}[hT:aZ P t (.slice e) f b z](g:g8 s x=some (.slice a m c))(k:WS P ops K' rest n D ((d,.int .i64 (m:Int))::s) w)(h:Nat.blt d n=true:=by rfl):WS P ops K' (⟨some d,.call ⟨.builtin .len,[x].toArray,#[t]⟩,ty,pos,af,none⟩::rest) n D s w:=WS.ev (Ev.len g) h k
theorem yw{q:Bool}(h:gdOf ops j s=some (.bool q))(k:WS P ops K' (⟨dst,op,ty,pos,af,none⟩::rest) n D s w)(a:(q==b)=true:=by rfl):WS P ops K' (⟨dst,op,ty,pos,af,some (j,b)⟩::rest) n D s w:=by
  obtain ⟨g,t,e,d,c⟩:=a6q h
  exact WS.want e d c a k
theorem yv{q:Bool}(h:gdOf ops j s=some (.bool q))(k:WS P ops K' rest n D ((d,undef)::s) w)(c:(q==b)=false:=by rfl)(a:Nat.blt d n=true:=by rfl):WS P ops K' (⟨some d,op,ty,pos,af,some (j,b)⟩::rest) n D s w:=by
  obtain ⟨g,t,i,f,e⟩:=a6q h
  exact WS.pass i f e c a k
theorem yu(h:gdOf ops j s=some undef)(k:WS P ops K' rest n D ((d,undef)::s) w)(a:Nat.blt d n=true:=by rfl):WS P ops K' (⟨some d,op,ty,pos,af,some (j,b)⟩::rest) n D s w:=by
  obtain ⟨g,t,f,e,c⟩:=a6q h
  exact WS.passU f e c a k
end
section
variable {P:Program} {n:Nat} {D:List Deferred} {s:Sl} {w w0:World} {ops:Array Oper} {K:KK} {rest:List Oper} {ty:TypeId} {pos:String} {af:Array Edge} {d:Nat} {x:Operand} {fn:Func} {R:Value->World->Prop} {f:FuncId} {c:Code} {T:List Nat}
theorem zE0(b:P.funcs[f]?=some fn)(d:fn.body=some c)(h:CW P c (k8 P fn fn.ntmps R) fn.ntmps [] [] w)(a:Nat.ble 0 fn.ntmps=true:=by rfl):Ret P f [] w R:=Ret.enter b d a h
theorem zE1{a:Value}(d:P.funcs[f]?=some fn)(e:fn.body=some c)(h:CW P c (k8 P fn fn.ntmps R) fn.ntmps [] [(0,a)] w)(b:Nat.ble 1 fn.ntmps=true:=by rfl):Ret P f [a] w R:=Ret.enter d e b h
theorem zE2{a b:Value}(e:P.funcs[f]?=some fn)(g:fn.body=some c)(h:CW P c (k8 P fn fn.ntmps R) fn.ntmps [] [(0,a),(1,b)] w)(d:Nat.ble 2 fn.ntmps=true:=by rfl):Ret P f [a,b] w R:=Ret.enter e g d h
theorem zE3{a b e:Value}(g:P.funcs[f]?=some fn)(i:fn.body=some c)(h:CW P c (k8 P fn fn.ntmps R) fn.ntmps [] [(0,a),(1,b),(2,e)] w)(d:Nat.ble 3 fn.ntmps=true:=by rfl):Ret P f [a,b,e] w R:=Ret.enter g i d h
theorem zE4{a b e g:Value}(i:P.funcs[f]?=some fn)(j:fn.body=some c)(h:CW P c (k8 P fn fn.ntmps R) fn.ntmps [] [(0,a),(1,b),(2,e),(3,g)] w)(d:Nat.ble 4 fn.ntmps=true:=by rfl):Ret P f [a,b,e,g] w R:=Ret.enter i j d h
theorem zE5{a b e g p:Value}(i:P.funcs[f]?=some fn)(j:fn.body=some c)(h:CW P c (k8 P fn fn.ntmps R) fn.ntmps [] [(0,a),(1,b),(2,e),(3,g),(4,p)] w)(d:Nat.ble 5 fn.ntmps=true:=by rfl):Ret P f [a,b,e,g,p] w R:=Ret.enter i j d h
theorem zAh{t:TypeId}{g:TypeDesc}{c a:Nat}{z:Value}[hT:aZ P t g c a z](e:z.cells=[Value.bool false,.slice none 0 0,.int .i64 0].toArray)(f:Nat.blt d n=true)(h:Chg T w0 w)
    (k : ∀ b w',BK w' b t [.bool false,.slice none 0 0,.int .i64 0]->Chg [] w w'->w.heap.size<=b->w0.heap.size<=b->Chg T w0 w'->WL P ops K rest n D ((d,.pointer (some ⟨b,0,none⟩))::s) w'):WL P ops K (⟨some d,.alloc t,ty,pos,af,none⟩::rest) n D s w:=
  WL.iQ e f λb w' h1 h2 h3=>k b w' h1 h2 h3 (Nat.le_trans h.size h3) (h.ta h2)
theorem zBh{t:TypeId}{v:Value}{l:List Value}(a:g8 s x=some v)(c:v.cells=l.toArray)(e:Nat.blt d n=true)(h:Chg T w0 w)
    (k : ∀ b w',BK w' b t l->Chg [] w w'->w.heap.size<=b->w0.heap.size<=b->Chg T w0 w'->WL P ops K rest n D ((d,.pointer (some ⟨b,0,none⟩))::s) w'):WL P ops K (⟨some d,.box t x,ty,pos,af,none⟩::rest) n D s w:=
  WL.cgj a c e λb w' h1 h2 h3=>k b w' h1 h2 h3 (Nat.le_trans h.size h3) (h.ta h2)
end
end Sx
section
open Go Sx
set_option maxRecDepth 100000
instance ti2:aZ Tryz.prog 2 (.int .i64) 1 8 (.int .i64 0):=⟨Tryz.underlying2,by kernel_rfl⟩
instance ti3:aZ Tryz.prog 3 (.int .i64) 1 8 (.int .i64 0):=⟨Tryz.underlying3,by kernel_rfl⟩
instance ti4:aZ Tryz.prog 4 (.bool) 1 1 (.bool false):=⟨Tryz.underlying4,by kernel_rfl⟩
instance ti5:aZ Tryz.prog 5 (.int .u8) 1 1 (.int .u8 0):=⟨Tryz.underlying5,by kernel_rfl⟩
instance ti9:aZ Tryz.prog 9 (.string) 1 16 (.string ⟨#[]⟩):=⟨Tryz.underlying9,by kernel_rfl⟩
instance ti25:aZ Tryz.prog 25 (.slice 42) 1 24 (.slice none 0 0):=⟨Tryz.underlying25,by kernel_rfl⟩
instance ti26:aZ Tryz.prog 26 (.slice 35) 1 24 (.slice none 0 0):=⟨Tryz.underlying26,by kernel_rfl⟩
instance ti27:aZ Tryz.prog 27 (.slice 9) 1 24 (.slice none 0 0):=⟨Tryz.underlying27,by kernel_rfl⟩
instance ti29:aZ Tryz.prog 29 (.struct #[⟨"l",25,0,false,"","steelyard/steelyardlaw21",0⟩,⟨"came",26,1,false,"","steelyard/steelyardlaw21",24⟩,⟨"want",27,2,false,"","steelyard/steelyardlaw21",48⟩]) 3 72 (.agg #[.slice none 0 0,.slice none 0 0,.slice none 0 0]):=⟨Tryz.underlying29,by kernel_rfl⟩
instance ti31:aZ Tryz.prog 31 (.float .f64) 1 8 (.float .f64 0):=⟨Tryz.underlying31,by kernel_rfl⟩
instance ti32:aZ Tryz.prog 32 (.slice 31) 1 24 (.slice none 0 0):=⟨Tryz.underlying32,by kernel_rfl⟩
instance ti34:aZ Tryz.prog 34 (.struct #[⟨"NaN",3,0,false,"","",0⟩,⟨"Inf",3,1,false,"","",8⟩]) 2 16 (.agg #[.int .i64 0,.int .i64 0]):=⟨Tryz.underlying34,by kernel_rfl⟩
instance ti35:aZ Tryz.prog 35 (.slice 5) 1 24 (.slice none 0 0):=⟨Tryz.underlying35,by kernel_rfl⟩
instance ti37:aZ Tryz.prog 37 (.struct #[⟨"Kind",3,0,false,"","",0⟩,⟨"On",3,1,false,"","",8⟩,⟨"With",3,2,false,"","",16⟩,⟨"X",31,3,false,"","",24⟩,⟨"L",32,4,false,"","",32⟩,⟨"Mode",3,5,false,"","",56⟩,⟨"Less",3,6,false,"","",64⟩,⟨"N",3,7,false,"","",72⟩,⟨"P",34,8,false,"","",80⟩,⟨"B",35,10,false,"","",96⟩]) 11 120 (.agg #[.int .i64 0,.int .i64 0,.int .i64 0,.float .f64 0,.slice none 0 0,.int .i64 0,.int .i64 0,.int .i64 0,.int .i64 0,.int .i64 0,.slice none 0 0]):=⟨Tryz.underlying37,by kernel_rfl⟩
instance ti39:aZ Tryz.prog 39 (.pointer 91) 1 8 (.pointer none):=⟨Tryz.underlying39,by kernel_rfl⟩
instance ti40:aZ Tryz.prog 40 (.pointer 148) 1 8 (.pointer none):=⟨Tryz.underlying40,by kernel_rfl⟩
instance ti42:aZ Tryz.prog 42 (.struct #[⟨"s",39,0,false,"","steelyard/steelyardlaw21",0⟩,⟨"r",40,1,false,"","steelyard/steelyardlaw21",8⟩]) 2 16 (.agg #[.pointer none,.pointer none]):=⟨Tryz.underlying42,by kernel_rfl⟩
instance ti47:aZ Tryz.prog 47 (.int .i64) 1 8 (.int .i64 0):=⟨Tryz.underlying47,by kernel_rfl⟩
instance ti85:aZ Tryz.prog 85 (.struct #[⟨"NaN",3,0,false,"","",0⟩,⟨"Up",3,1,false,"","",8⟩,⟨"Down",3,2,false,"","",16⟩,⟨"Minus",3,3,false,"","",24⟩,⟨"Plus",3,4,false,"","",32⟩,⟨"All",3,5,false,"","",40⟩]) 6 48 (.agg #[.int .i64 0,.int .i64 0,.int .i64 0,.int .i64 0,.int .i64 0,.int .i64 0]):=⟨Tryz.underlying85,by kernel_rfl⟩
instance ti86:aZ Tryz.prog 86 (.slice 162) 1 24 (.slice none 0 0):=⟨Tryz.underlying86,by kernel_rfl⟩
instance ti87:aZ Tryz.prog 87 (.slice 162) 1 24 (.slice none 0 0):=⟨Tryz.underlying87,by kernel_rfl⟩
instance ti89:aZ Tryz.prog 89 (.struct #[⟨"Neg",4,0,false,"","",0⟩,⟨"Mag",87,1,false,"","",8⟩,⟨"Exp",3,2,false,"","",32⟩]) 3 40 (.agg #[.bool false,.slice none 0 0,.int .i64 0]):=⟨Tryz.underlying89,by kernel_rfl⟩
instance ti91:aZ Tryz.prog 91 (.struct #[⟨"has",85,0,false,"","steelyard/shard",0⟩,⟨"sum",89,6,false,"","steelyard/shard",48⟩,⟨"squares",89,9,false,"","steelyard/shard",88⟩,⟨"least",31,12,false,"","steelyard/shard",128⟩,⟨"most",31,13,false,"","steelyard/shard",136⟩]) 14 144 (.agg #[.int .i64 0,.int .i64 0,.int .i64 0,.int .i64 0,.int .i64 0,.int .i64 0,.bool false,.slice none 0 0,.int .i64 0,.bool false,.slice none 0 0,.int .i64 0,.float .f64 0,.float .f64 0]):=⟨Tryz.underlying91,by kernel_rfl⟩
instance ti92:aZ Tryz.prog 92 (.array 6 3) 6 48 (.agg #[.int .i64 0,.int .i64 0,.int .i64 0,.int .i64 0,.int .i64 0,.int .i64 0]):=⟨Tryz.underlying92,by kernel_rfl⟩
instance ti94:aZ Tryz.prog 94 (.int .u64) 1 8 (.int .u64 0):=⟨Tryz.underlying94,by kernel_rfl⟩
instance ti141:aZ Tryz.prog 141 (.struct #[⟨"rest",35,0,false,"","steelyard/shard",0⟩,⟨"bad",4,1,false,"","steelyard/shard",24⟩]) 2 32 (.agg #[.slice none 0 0,.bool false]):=⟨Tryz.underlying141,by kernel_rfl⟩
instance ti142:aZ Tryz.prog 142 (.pointer 3) 1 8 (.pointer none):=⟨Tryz.underlying142,by kernel_rfl⟩
instance ti143:aZ Tryz.prog 143 (.slice 142) 1 24 (.slice none 0 0):=⟨Tryz.underlying143,by kernel_rfl⟩
instance ti148:aZ Tryz.prog 148 (.struct #[⟨"S",85,0,false,"","",0⟩,⟨"V",89,6,false,"","",48⟩,⟨"Q",89,9,false,"","",88⟩,⟨"Least",31,12,false,"","",128⟩,⟨"Most",31,13,false,"","",136⟩]) 14 144 (.agg #[.int .i64 0,.int .i64 0,.int .i64 0,.int .i64 0,.int .i64 0,.int .i64 0,.bool false,.slice none 0 0,.int .i64 0,.bool false,.slice none 0 0,.int .i64 0,.float .f64 0,.float .f64 0]):=⟨Tryz.underlying148,by kernel_rfl⟩
instance ti151:aZ Tryz.prog 151 (.struct #[⟨"b",35,0,false,"","steelyard/steelyardref21",0⟩,⟨"at",3,1,false,"","steelyard/steelyardref21",24⟩,⟨"bad",4,2,false,"","steelyard/steelyardref21",32⟩]) 3 40 (.agg #[.slice none 0 0,.int .i64 0,.bool false]):=⟨Tryz.underlying151,by kernel_rfl⟩
instance ti161:aZ Tryz.prog 161 (.struct #[⟨"Num",89,0,false,"","",0⟩,⟨"Den",89,3,false,"","",40⟩]) 6 80 (.agg #[.bool false,.slice none 0 0,.int .i64 0,.bool false,.slice none 0 0,.int .i64 0]):=⟨Tryz.underlying161,by kernel_rfl⟩
instance ti162:aZ Tryz.prog 162 (.int .u32) 1 4 (.int .u32 0):=⟨Tryz.underlying162,by kernel_rfl⟩
instance ti192:aZ Tryz.prog 192 (.struct #[⟨"Neg",4,0,false,"","",0⟩,⟨"Class",3,1,false,"","",8⟩,⟨"Exp",3,2,false,"","",16⟩,⟨"Frac",94,3,false,"","",24⟩]) 4 32 (.agg #[.bool false,.int .i64 0,.int .i64 0,.int .u64 0]):=⟨Tryz.underlying192,by kernel_rfl⟩
instance ti205:aZ Tryz.prog 205 (.struct #[⟨"digits",3,0,false,"","steelyard/dyad",0⟩,⟨"least",3,1,false,"","steelyard/dyad",8⟩,⟨"endless",94,2,false,"","steelyard/dyad",16⟩]) 3 24 (.agg #[.int .i64 0,.int .i64 0,.int .u64 0]):=⟨Tryz.underlying205,by kernel_rfl⟩
instance ti217:aZ Tryz.prog 217 (.int .u64) 1 8 (.int .u64 0):=⟨Tryz.underlying217,by kernel_rfl⟩
instance ti219:aZ Tryz.prog 219 (.struct #[⟨"Digits",3,0,false,"","",0⟩,⟨"Least",3,1,false,"","",8⟩,⟨"Endless",94,2,false,"","",16⟩]) 3 24 (.agg #[.int .i64 0,.int .i64 0,.int .u64 0]):=⟨Tryz.underlying219,by kernel_rfl⟩
instance ti239:aZ Tryz.prog 239 (.slice 3) 1 24 (.slice none 0 0):=⟨Tryz.underlying239,by kernel_rfl⟩
instance ti263:aZ Tryz.prog 263 (.struct #[⟨"wide",3,0,false,"","steelyard/bits",0⟩,⟨"low",3,1,false,"","steelyard/bits",8⟩,⟨"least",3,2,false,"","steelyard/bits",16⟩]) 3 24 (.agg #[.int .i64 0,.int .i64 0,.int .i64 0]):=⟨Tryz.underlying263,by kernel_rfl⟩
instance ti270:aZ Tryz.prog 270 (.array 5 3) 5 40 (.agg #[.int .i64 0,.int .i64 0,.int .i64 0,.int .i64 0,.int .i64 0]):=⟨Tryz.underlying270,by kernel_rfl⟩
instance ti290:aZ Tryz.prog 290 (.slice 161) 1 24 (.slice none 0 0):=⟨Tryz.underlying290,by kernel_rfl⟩
instance ti309:aZ Tryz.prog 309 (.slice 89) 1 24 (.slice none 0 0):=⟨Tryz.underlying309,by kernel_rfl⟩
instance ti320:aZ Tryz.prog 320 (.array 32 5) 32 32 (.agg #[.int .u8 0,.int .u8 0,.int .u8 0,.int .u8 0,.int .u8 0,.int .u8 0,.int .u8 0,.int .u8 0,.int .u8 0,.int .u8 0,.int .u8 0,.int .u8 0,.int .u8 0,.int .u8 0,.int .u8 0,.int .u8 0,.int .u8 0,.int .u8 0,.int .u8 0,.int .u8 0,.int .u8 0,.int .u8 0,.int .u8 0,.int .u8 0,.int .u8 0,.int .u8 0,.int .u8 0,.int .u8 0,.int .u8 0,.int .u8 0,.int .u8 0,.int .u8 0]):=⟨Tryz.underlying320,by kernel_rfl⟩
instance tf29_0:eZ Tryz.prog 29 0 0:=⟨λa w=>by kernel_rfl⟩
instance tf29_1:eZ Tryz.prog 29 1 1:=⟨λa w=>by kernel_rfl⟩
instance tf29_2:eZ Tryz.prog 29 2 2:=⟨λa w=>by kernel_rfl⟩
instance tb29:b8j Tryz.prog 29 #[(0,1),(1,1),(2,1)]:=⟨λw fs h=>by rw[acx Tryz.underlying29 h];kernel_rfl⟩
instance tf34_0:eZ Tryz.prog 34 0 0:=⟨λa w=>by kernel_rfl⟩
instance tf34_1:eZ Tryz.prog 34 1 1:=⟨λa w=>by kernel_rfl⟩
instance tb34:b8j Tryz.prog 34 #[(0,1),(1,1)]:=⟨λw fs h=>by rw[acx Tryz.underlying34 h];kernel_rfl⟩
instance tf37_0:eZ Tryz.prog 37 0 0:=⟨λa w=>by kernel_rfl⟩
instance tf37_1:eZ Tryz.prog 37 1 1:=⟨λa w=>by kernel_rfl⟩
instance tf37_2:eZ Tryz.prog 37 2 2:=⟨λa w=>by kernel_rfl⟩
instance tf37_3:eZ Tryz.prog 37 3 3:=⟨λa w=>by kernel_rfl⟩
instance tf37_5:eZ Tryz.prog 37 5 5:=⟨λa w=>by kernel_rfl⟩
instance tf37_6:eZ Tryz.prog 37 6 6:=⟨λa w=>by kernel_rfl⟩
instance tf37_8:eZ Tryz.prog 37 8 8:=⟨λa w=>by kernel_rfl⟩
instance tf37_9:eZ Tryz.prog 37 9 10:=⟨λa w=>by kernel_rfl⟩
instance tb37:b8j Tryz.prog 37 #[(0,1),(1,1),(2,1),(3,1),(4,1),(5,1),(6,1),(7,1),(8,2),(10,1)]:=⟨λw fs h=>by rw[acx Tryz.underlying37 h];kernel_rfl⟩
instance tf42_0:eZ Tryz.prog 42 0 0:=⟨λa w=>by kernel_rfl⟩
instance tf42_1:eZ Tryz.prog 42 1 1:=⟨λa w=>by kernel_rfl⟩
instance tb42:b8j Tryz.prog 42 #[(0,1),(1,1)]:=⟨λw fs h=>by rw[acx Tryz.underlying42 h];kernel_rfl⟩
instance tf85_0:eZ Tryz.prog 85 0 0:=⟨λa w=>by kernel_rfl⟩
instance tf85_1:eZ Tryz.prog 85 1 1:=⟨λa w=>by kernel_rfl⟩
instance tf85_2:eZ Tryz.prog 85 2 2:=⟨λa w=>by kernel_rfl⟩
instance tf85_3:eZ Tryz.prog 85 3 3:=⟨λa w=>by kernel_rfl⟩
instance tf85_4:eZ Tryz.prog 85 4 4:=⟨λa w=>by kernel_rfl⟩
instance tf85_5:eZ Tryz.prog 85 5 5:=⟨λa w=>by kernel_rfl⟩
instance tb85:b8j Tryz.prog 85 #[(0,1),(1,1),(2,1),(3,1),(4,1),(5,1)]:=⟨λw fs h=>by rw[acx Tryz.underlying85 h];kernel_rfl⟩
instance tf89_0:eZ Tryz.prog 89 0 0:=⟨λa w=>by kernel_rfl⟩
instance tf89_1:eZ Tryz.prog 89 1 1:=⟨λa w=>by kernel_rfl⟩
instance tf89_2:eZ Tryz.prog 89 2 2:=⟨λa w=>by kernel_rfl⟩
instance tb89:b8j Tryz.prog 89 #[(0,1),(1,1),(2,1)]:=⟨λw fs h=>by rw[acx Tryz.underlying89 h];kernel_rfl⟩
instance tf91_0:eZ Tryz.prog 91 0 0:=⟨λa w=>by kernel_rfl⟩
instance tf91_1:eZ Tryz.prog 91 1 6:=⟨λa w=>by kernel_rfl⟩
instance tf91_2:eZ Tryz.prog 91 2 9:=⟨λa w=>by kernel_rfl⟩
instance tf91_3:eZ Tryz.prog 91 3 12:=⟨λa w=>by kernel_rfl⟩
instance tf91_4:eZ Tryz.prog 91 4 13:=⟨λa w=>by kernel_rfl⟩
instance tb91:b8j Tryz.prog 91 #[(0,6),(6,3),(9,3),(12,1),(13,1)]:=⟨λw fs h=>by rw[acx Tryz.underlying91 h];kernel_rfl⟩
instance tf141_0:eZ Tryz.prog 141 0 0:=⟨λa w=>by kernel_rfl⟩
instance tf141_1:eZ Tryz.prog 141 1 1:=⟨λa w=>by kernel_rfl⟩
instance tb141:b8j Tryz.prog 141 #[(0,1),(1,1)]:=⟨λw fs h=>by rw[acx Tryz.underlying141 h];kernel_rfl⟩
instance tf148_0:eZ Tryz.prog 148 0 0:=⟨λa w=>by kernel_rfl⟩
instance tf148_1:eZ Tryz.prog 148 1 6:=⟨λa w=>by kernel_rfl⟩
instance tf148_2:eZ Tryz.prog 148 2 9:=⟨λa w=>by kernel_rfl⟩
instance tf148_3:eZ Tryz.prog 148 3 12:=⟨λa w=>by kernel_rfl⟩
instance tf148_4:eZ Tryz.prog 148 4 13:=⟨λa w=>by kernel_rfl⟩
instance tb148:b8j Tryz.prog 148 #[(0,6),(6,3),(9,3),(12,1),(13,1)]:=⟨λw fs h=>by rw[acx Tryz.underlying148 h];kernel_rfl⟩
instance tf151_0:eZ Tryz.prog 151 0 0:=⟨λa w=>by kernel_rfl⟩
instance tf151_1:eZ Tryz.prog 151 1 1:=⟨λa w=>by kernel_rfl⟩
instance tf151_2:eZ Tryz.prog 151 2 2:=⟨λa w=>by kernel_rfl⟩
instance tb151:b8j Tryz.prog 151 #[(0,1),(1,1),(2,1)]:=⟨λw fs h=>by rw[acx Tryz.underlying151 h];kernel_rfl⟩
instance tf161_0:eZ Tryz.prog 161 0 0:=⟨λa w=>by kernel_rfl⟩
instance tf161_1:eZ Tryz.prog 161 1 3:=⟨λa w=>by kernel_rfl⟩
instance tb161:b8j Tryz.prog 161 #[(0,3),(3,3)]:=⟨λw fs h=>by rw[acx Tryz.underlying161 h];kernel_rfl⟩
instance tf192_0:eZ Tryz.prog 192 0 0:=⟨λa w=>by kernel_rfl⟩
instance tf192_1:eZ Tryz.prog 192 1 1:=⟨λa w=>by kernel_rfl⟩
instance tf192_2:eZ Tryz.prog 192 2 2:=⟨λa w=>by kernel_rfl⟩
instance tf192_3:eZ Tryz.prog 192 3 3:=⟨λa w=>by kernel_rfl⟩
instance tb192:b8j Tryz.prog 192 #[(0,1),(1,1),(2,1),(3,1)]:=⟨λw fs h=>by rw[acx Tryz.underlying192 h];kernel_rfl⟩
instance tf205_0:eZ Tryz.prog 205 0 0:=⟨λa w=>by kernel_rfl⟩
instance tf205_1:eZ Tryz.prog 205 1 1:=⟨λa w=>by kernel_rfl⟩
instance tf205_2:eZ Tryz.prog 205 2 2:=⟨λa w=>by kernel_rfl⟩
instance tb205:b8j Tryz.prog 205 #[(0,1),(1,1),(2,1)]:=⟨λw fs h=>by rw[acx Tryz.underlying205 h];kernel_rfl⟩
instance tf219_0:eZ Tryz.prog 219 0 0:=⟨λa w=>by kernel_rfl⟩
instance tf219_1:eZ Tryz.prog 219 1 1:=⟨λa w=>by kernel_rfl⟩
instance tf219_2:eZ Tryz.prog 219 2 2:=⟨λa w=>by kernel_rfl⟩
instance tb219:b8j Tryz.prog 219 #[(0,1),(1,1),(2,1)]:=⟨λw fs h=>by rw[acx Tryz.underlying219 h];kernel_rfl⟩
instance tf263_0:eZ Tryz.prog 263 0 0:=⟨λa w=>by kernel_rfl⟩
instance tf263_1:eZ Tryz.prog 263 1 1:=⟨λa w=>by kernel_rfl⟩
instance tf263_2:eZ Tryz.prog 263 2 2:=⟨λa w=>by kernel_rfl⟩
instance tb263:b8j Tryz.prog 263 #[(0,1),(1,1),(2,1)]:=⟨λw fs h=>by rw[acx Tryz.underlying263 h];kernel_rfl⟩
theorem cJ:Tryz.prog.follows .mixedOrders=true:=by kernel_rfl
theorem ext48(b:Nat)(w:World):(callFunc 48 [(.float .f64 b:Value)].toArray).run Tryz.prog w = .ok (.value (.int .u64 (b:Int))) w:=by kernel_rfl
theorem ext82(b:Int)(w:World):(callFunc 82 [(.int .u64 b:Value)].toArray).run Tryz.prog w = .ok (.value (.float .f64 b.toNat)) w:=by kernel_rfl
theorem hF{P:Program}{f:FuncId}{a:Func}(h:P.funcs[f]?=some a)(c:a.body.isSome=true:=by rfl)(b:(a.name=="runtime.NumGoroutine")=false:=by decide):k9 P f:=⟨a,_,h,(Option.some_get c).symm,b⟩
theorem hasF7:k9 Tryz.prog 7:=hF Tryz.func7
theorem hasF8:k9 Tryz.prog 8:=hF Tryz.func8
theorem hasF9:k9 Tryz.prog 9:=hF Tryz.func9
theorem hasF11:k9 Tryz.prog 11:=hF Tryz.func11
theorem hasF21:k9 Tryz.prog 21:=hF Tryz.func21
theorem hasF22:k9 Tryz.prog 22:=hF Tryz.func22
theorem hasF23:k9 Tryz.prog 23:=hF Tryz.func23
theorem hasF24:k9 Tryz.prog 24:=hF Tryz.func24
theorem hasF25:k9 Tryz.prog 25:=hF Tryz.func25
theorem hasF26:k9 Tryz.prog 26:=hF Tryz.func26
theorem hasF27:k9 Tryz.prog 27:=hF Tryz.func27
theorem hasF28:k9 Tryz.prog 28:=hF Tryz.func28
theorem hasF29:k9 Tryz.prog 29:=hF Tryz.func29
theorem hasF30:k9 Tryz.prog 30:=hF Tryz.func30
theorem hasF31:k9 Tryz.prog 31:=hF Tryz.func31
theorem hasF32:k9 Tryz.prog 32:=hF Tryz.func32
theorem hasF33:k9 Tryz.prog 33:=hF Tryz.func33
theorem hasF34:k9 Tryz.prog 34:=hF Tryz.func34
theorem hasF35:k9 Tryz.prog 35:=hF Tryz.func35
theorem hasF36:k9 Tryz.prog 36:=hF Tryz.func36
theorem hasF37:k9 Tryz.prog 37:=hF Tryz.func37
theorem hasF38:k9 Tryz.prog 38:=hF Tryz.func38
theorem hasF39:k9 Tryz.prog 39:=hF Tryz.func39
theorem hasF40:k9 Tryz.prog 40:=hF Tryz.func40
theorem hasF41:k9 Tryz.prog 41:=hF Tryz.func41
theorem hasF42:k9 Tryz.prog 42:=hF Tryz.func42
theorem hasF43:k9 Tryz.prog 43:=hF Tryz.func43
theorem hasF44:k9 Tryz.prog 44:=hF Tryz.func44
theorem hasF45:k9 Tryz.prog 45:=hF Tryz.func45
theorem hasF46:k9 Tryz.prog 46:=hF Tryz.func46
theorem hasF47:k9 Tryz.prog 47:=hF Tryz.func47
theorem hasF68:k9 Tryz.prog 68:=hF Tryz.func68
theorem hasF69:k9 Tryz.prog 69:=hF Tryz.func69
theorem hasF70:k9 Tryz.prog 70:=hF Tryz.func70
theorem hasF71:k9 Tryz.prog 71:=hF Tryz.func71
theorem hasF72:k9 Tryz.prog 72:=hF Tryz.func72
theorem hasF73:k9 Tryz.prog 73:=hF Tryz.func73
theorem hasF74:k9 Tryz.prog 74:=hF Tryz.func74
theorem hasF75:k9 Tryz.prog 75:=hF Tryz.func75
theorem hasF76:k9 Tryz.prog 76:=hF Tryz.func76
theorem hasF77:k9 Tryz.prog 77:=hF Tryz.func77
theorem hasF78:k9 Tryz.prog 78:=hF Tryz.func78
theorem hasF79:k9 Tryz.prog 79:=hF Tryz.func79
theorem hasF80:k9 Tryz.prog 80:=hF Tryz.func80
theorem hasF81:k9 Tryz.prog 81:=hF Tryz.func81
theorem hasF83:k9 Tryz.prog 83:=hF Tryz.func83
theorem hasF84:k9 Tryz.prog 84:=hF Tryz.func84
theorem hasF85:k9 Tryz.prog 85:=hF Tryz.func85
theorem hasF86:k9 Tryz.prog 86:=hF Tryz.func86
theorem hasF87:k9 Tryz.prog 87:=hF Tryz.func87
theorem hasF88:k9 Tryz.prog 88:=hF Tryz.func88
theorem hasF89:k9 Tryz.prog 89:=hF Tryz.func89
theorem hasF90:k9 Tryz.prog 90:=hF Tryz.func90
theorem hasF91:k9 Tryz.prog 91:=hF Tryz.func91
theorem hasF92:k9 Tryz.prog 92:=hF Tryz.func92
theorem hasF93:k9 Tryz.prog 93:=hF Tryz.func93
theorem hasF94:k9 Tryz.prog 94:=hF Tryz.func94
theorem hasF95:k9 Tryz.prog 95:=hF Tryz.func95
theorem hasF96:k9 Tryz.prog 96:=hF Tryz.func96
theorem hasF97:k9 Tryz.prog 97:=hF Tryz.func97
theorem hasF98:k9 Tryz.prog 98:=hF Tryz.func98
theorem hasF99:k9 Tryz.prog 99:=hF Tryz.func99
theorem hasF100:k9 Tryz.prog 100:=hF Tryz.func100
theorem hasF101:k9 Tryz.prog 101:=hF Tryz.func101
theorem hasF102:k9 Tryz.prog 102:=hF Tryz.func102
theorem hasF103:k9 Tryz.prog 103:=hF Tryz.func103
theorem hasF104:k9 Tryz.prog 104:=hF Tryz.func104
theorem hasF105:k9 Tryz.prog 105:=hF Tryz.func105
theorem hasF106:k9 Tryz.prog 106:=hF Tryz.func106
theorem hasF107:k9 Tryz.prog 107:=hF Tryz.func107
theorem hasF108:k9 Tryz.prog 108:=hF Tryz.func108
theorem hasF109:k9 Tryz.prog 109:=hF Tryz.func109
theorem hasF110:k9 Tryz.prog 110:=hF Tryz.func110
theorem hasF111:k9 Tryz.prog 111:=hF Tryz.func111
theorem hasF112:k9 Tryz.prog 112:=hF Tryz.func112
theorem hasF113:k9 Tryz.prog 113:=hF Tryz.func113
theorem hasF129:k9 Tryz.prog 129:=hF Tryz.func129
theorem hasF130:k9 Tryz.prog 130:=hF Tryz.func130
theorem hasF131:k9 Tryz.prog 131:=hF Tryz.func131
theorem hasF132:k9 Tryz.prog 132:=hF Tryz.func132
theorem hasF133:k9 Tryz.prog 133:=hF Tryz.func133
theorem hasF134:k9 Tryz.prog 134:=hF Tryz.func134
theorem hasF135:k9 Tryz.prog 135:=hF Tryz.func135
theorem hasF136:k9 Tryz.prog 136:=hF Tryz.func136
theorem hasF137:k9 Tryz.prog 137:=hF Tryz.func137
theorem hasF138:k9 Tryz.prog 138:=hF Tryz.func138
theorem hasF139:k9 Tryz.prog 139:=hF Tryz.func139
theorem hasF140:k9 Tryz.prog 140:=hF Tryz.func140
theorem hasF141:k9 Tryz.prog 141:=hF Tryz.func141
theorem hasF142:k9 Tryz.prog 142:=hF Tryz.func142
theorem hasF143:k9 Tryz.prog 143:=hF Tryz.func143
theorem hasF144:k9 Tryz.prog 144:=hF Tryz.func144
theorem hasF145:k9 Tryz.prog 145:=hF Tryz.func145
theorem hasF146:k9 Tryz.prog 146:=hF Tryz.func146
theorem hasF147:k9 Tryz.prog 147:=hF Tryz.func147
theorem hasF148:k9 Tryz.prog 148:=hF Tryz.func148
theorem hasF149:k9 Tryz.prog 149:=hF Tryz.func149
theorem hasF150:k9 Tryz.prog 150:=hF Tryz.func150
theorem hasF151:k9 Tryz.prog 151:=hF Tryz.func151
theorem hasF152:k9 Tryz.prog 152:=hF Tryz.func152
theorem hasF153:k9 Tryz.prog 153:=hF Tryz.func153
theorem hasF154:k9 Tryz.prog 154:=hF Tryz.func154
theorem hasF155:k9 Tryz.prog 155:=hF Tryz.func155
theorem hasF156:k9 Tryz.prog 156:=hF Tryz.func156
theorem hasF157:k9 Tryz.prog 157:=hF Tryz.func157
theorem hasF158:k9 Tryz.prog 158:=hF Tryz.func158
theorem hasF159:k9 Tryz.prog 159:=hF Tryz.func159
theorem hasF160:k9 Tryz.prog 160:=hF Tryz.func160
theorem hasF161:k9 Tryz.prog 161:=hF Tryz.func161
theorem hasF162:k9 Tryz.prog 162:=hF Tryz.func162
theorem hasF163:k9 Tryz.prog 163:=hF Tryz.func163
theorem hasF164:k9 Tryz.prog 164:=hF Tryz.func164
theorem hasF165:k9 Tryz.prog 165:=hF Tryz.func165
theorem hasF166:k9 Tryz.prog 166:=hF Tryz.func166
theorem hasF167:k9 Tryz.prog 167:=hF Tryz.func167
theorem hasF168:k9 Tryz.prog 168:=hF Tryz.func168
theorem hasF169:k9 Tryz.prog 169:=hF Tryz.func169
theorem hasF170:k9 Tryz.prog 170:=hF Tryz.func170
theorem hasF171:k9 Tryz.prog 171:=hF Tryz.func171
theorem hasF172:k9 Tryz.prog 172:=hF Tryz.func172
theorem hasF173:k9 Tryz.prog 173:=hF Tryz.func173
theorem hasF174:k9 Tryz.prog 174:=hF Tryz.func174
theorem hasF175:k9 Tryz.prog 175:=hF Tryz.func175
theorem hasF176:k9 Tryz.prog 176:=hF Tryz.func176
theorem hasF177:k9 Tryz.prog 177:=hF Tryz.func177
theorem hasF178:k9 Tryz.prog 178:=hF Tryz.func178
theorem hasF179:k9 Tryz.prog 179:=hF Tryz.func179
theorem hasF180:k9 Tryz.prog 180:=hF Tryz.func180
theorem hasF181:k9 Tryz.prog 181:=hF Tryz.func181
theorem hasF182:k9 Tryz.prog 182:=hF Tryz.func182
theorem hasF183:k9 Tryz.prog 183:=hF Tryz.func183
theorem hasF184:k9 Tryz.prog 184:=hF Tryz.func184
theorem hasF185:k9 Tryz.prog 185:=hF Tryz.func185
theorem hasF186:k9 Tryz.prog 186:=hF Tryz.func186
theorem hasF187:k9 Tryz.prog 187:=hF Tryz.func187
theorem hasF188:k9 Tryz.prog 188:=hF Tryz.func188
theorem hasF189:k9 Tryz.prog 189:=hF Tryz.func189
theorem hasF190:k9 Tryz.prog 190:=hF Tryz.func190
theorem hasF191:k9 Tryz.prog 191:=hF Tryz.func191
theorem hasF203:k9 Tryz.prog 203:=hF Tryz.func203
theorem hasF204:k9 Tryz.prog 204:=hF Tryz.func204
theorem hasF205:k9 Tryz.prog 205:=hF Tryz.func205
theorem hasF206:k9 Tryz.prog 206:=hF Tryz.func206
theorem hasF207:k9 Tryz.prog 207:=hF Tryz.func207
theorem hasF208:k9 Tryz.prog 208:=hF Tryz.func208
theorem hasF209:k9 Tryz.prog 209:=hF Tryz.func209
theorem hasF210:k9 Tryz.prog 210:=hF Tryz.func210
theorem hasF211:k9 Tryz.prog 211:=hF Tryz.func211
theorem hasF212:k9 Tryz.prog 212:=hF Tryz.func212
theorem hasF213:k9 Tryz.prog 213:=hF Tryz.func213
theorem hasF214:k9 Tryz.prog 214:=hF Tryz.func214
theorem hasF215:k9 Tryz.prog 215:=hF Tryz.func215
theorem hasF216:k9 Tryz.prog 216:=hF Tryz.func216
theorem hasF217:k9 Tryz.prog 217:=hF Tryz.func217
theorem hasF218:k9 Tryz.prog 218:=hF Tryz.func218
theorem hasF219:k9 Tryz.prog 219:=hF Tryz.func219
theorem hasF220:k9 Tryz.prog 220:=hF Tryz.func220
theorem hasF221:k9 Tryz.prog 221:=hF Tryz.func221
theorem hasF222:k9 Tryz.prog 222:=hF Tryz.func222
theorem hasF223:k9 Tryz.prog 223:=hF Tryz.func223
theorem hasF224:k9 Tryz.prog 224:=hF Tryz.func224
theorem hasF225:k9 Tryz.prog 225:=hF Tryz.func225
theorem hasF226:k9 Tryz.prog 226:=hF Tryz.func226
theorem hasF227:k9 Tryz.prog 227:=hF Tryz.func227
theorem hasF228:k9 Tryz.prog 228:=hF Tryz.func228
theorem hasF229:k9 Tryz.prog 229:=hF Tryz.func229
theorem hasF230:k9 Tryz.prog 230:=hF Tryz.func230
theorem hasF231:k9 Tryz.prog 231:=hF Tryz.func231
theorem hasF232:k9 Tryz.prog 232:=hF Tryz.func232
theorem hasF233:k9 Tryz.prog 233:=hF Tryz.func233
theorem hasF234:k9 Tryz.prog 234:=hF Tryz.func234
theorem hasF235:k9 Tryz.prog 235:=hF Tryz.func235
theorem hasF236:k9 Tryz.prog 236:=hF Tryz.func236
theorem hasF237:k9 Tryz.prog 237:=hF Tryz.func237
theorem hasF238:k9 Tryz.prog 238:=hF Tryz.func238
theorem hasF249:k9 Tryz.prog 249:=hF Tryz.func249
theorem hasF250:k9 Tryz.prog 250:=hF Tryz.func250
theorem hasF252:k9 Tryz.prog 252:=hF Tryz.func252
theorem hasF253:k9 Tryz.prog 253:=hF Tryz.func253
theorem hasF254:k9 Tryz.prog 254:=hF Tryz.func254
theorem hasF255:k9 Tryz.prog 255:=hF Tryz.func255
theorem hasF256:k9 Tryz.prog 256:=hF Tryz.func256
theorem hasF257:k9 Tryz.prog 257:=hF Tryz.func257
theorem hasF258:k9 Tryz.prog 258:=hF Tryz.func258
theorem hasF259:k9 Tryz.prog 259:=hF Tryz.func259
theorem hasF266:k9 Tryz.prog 266:=hF Tryz.func266
theorem hasF267:k9 Tryz.prog 267:=hF Tryz.func267
theorem hasF269:k9 Tryz.prog 269:=hF Tryz.func269
theorem hasF271:k9 Tryz.prog 271:=hF Tryz.func271
theorem hasF272:k9 Tryz.prog 272:=hF Tryz.func272
theorem hasF273:k9 Tryz.prog 273:=hF Tryz.func273
theorem hasF274:k9 Tryz.prog 274:=hF Tryz.func274
theorem hasF278:k9 Tryz.prog 278:=hF Tryz.func278
end
namespace Wd
def val:List Nat->Nat
  | []=>0
  | x::l=>x+4294967296*val l
def W(l:List Nat):Prop:=∀ x∈l,x<4294967296
def wd(n:Nat):List Nat:=if h:n=0 then [] else n%4294967296::wd (n/4294967296)
termination_by n
decreasing_by omega
theorem eJ:wd 0=[]:=by rw[wd];simp
theorem cqq{n:Nat}(h:n≠0):wd n=n%4294967296::wd (n/4294967296):=by rw[wd];simp[h]
theorem g6(n:Nat):val (wd n)=n:=by
  induction n using Nat.strongRecOn with
  | _ n ih=>
    by_cases h:n=0
    · subst h;rw[eJ];rfl
    · rw[cqq h,val,ih _ oO];omega
theorem awj:W []:=λx hx=>by cases hx
theorem yX{x:Nat}{l:List Nat}: W (x::l)↔x<4294967296/\W l:=by simp[W]
theorem aoq{a b:List Nat}: W (a++b)↔W a/\W b:=by
  simp only[W,List.mem_append]
  exact ⟨λh=>⟨λx c=>h x (.inl c),λx c=>h x (.inr c)⟩,λh x c=>c.elim (h.1 x) (h.2 x)⟩
theorem W.take{l:List Nat}(h:W l)(k:Nat):W (l.take k):=λx hx=>h x (List.mem_of_mem_take hx)
theorem W.drop{l:List Nat}(h:W l)(k:Nat):W (l.drop k):=λx hx=>h x (List.mem_of_mem_drop hx)
theorem W.set{l:List Nat}(h:W l)(k:Nat){x:Nat}(a:x<4294967296):W (l.set k x):=λy hy=>by
  rcases List.mem_or_eq_of_mem_set hy with hy|rfl
  · exact h y hy
  · exact a
theorem oZ(k:Nat):W (List.replicate k 0):=λx hx=>by
  have:=List.eq_of_mem_replicate hx;omega
theorem W.getD{l:List Nat}(h:W l)(i:Nat):l.getD i 0<4294967296:=by
  rw[List.getD_eq_getElem?_getD]
  by_cases hi:i<l.length
  · rw[List.getElem?_eq_getElem hi];exact h _ (List.getElem_mem hi)
  · rw[List.getElem?_eq_none oO];decide
theorem W_wd(n:Nat):W (wd n):=by
  induction n using Nat.strongRecOn with
  | _ n ih=>
    by_cases h:n=0
    · subst h;rw[eJ];exact awj
    · rw[cqq h];exact yX.2 ⟨by omega,ih _ oO⟩
theorem ayx(a b:List Nat):val (a++b)=val a+2^(32*a.length)*val b:=by
  induction a with
  | nil=>simp[val]
  | cons x a ih=>
    simp only[List.cons_append,val,ih,List.length_cons]
    rw[show 32*(a.length+1)=32+32*a.length by omega,Nat.pow_add,Nat.mul_assoc,Nat.mul_add]
    have:(2:Nat)^32=4294967296:=by decide
    rw[this];omega
theorem bwx(a:List Nat)(x:Nat):val (a++[x])=val a+2^(32*a.length)*x:=by rw[ayx];simp[val]
theorem vX{l:List Nat}(h:W l):val l<2^(32*l.length):=by
  induction l with
  | nil=>simp[val]
  | cons x l ih=>
    obtain ⟨b,a⟩:=yX.1 h
    have:=ih a
    simp only[val,List.length_cons]
    rw[show 32*(l.length+1)=32+32*l.length by omega,Nat.pow_add]
    have e:(2:Nat)^32=4294967296:=by decide
    rw[e];omega
theorem agx(k:Nat):val (List.replicate k 0)=0:=by
  induction k with
  | zero=>rfl
  | succ k ih=>simp[List.replicate_succ,val,ih]
theorem amj(l:List Nat)(k:Nat)(h:k<=l.length):val l=val (l.take k)+2^(32*k)*val (l.drop k):=by
  conv=>lhs;rw[<- List.take_append_drop k l]
  rw[ayx,List.length_take,Nat.min_eq_left h]
theorem cjx{l:List Nat}(b:W l)(k:Nat)(h:k<=l.length):val (l.drop k)=val l/2^(32*k):=by
  have c:=amj l k h
  have a:=vX (b.take k)
  rw[List.length_take,Nat.min_eq_left h] at a
  rw[c,Nat.add_mul_div_left _ _ (Nat.two_pow_pos _),Nat.div_eq_of_lt a,Nat.zero_add]
theorem cij{l:List Nat}(b:W l)(k:Nat)(h:k<=l.length):val (l.take k)=val l%2^(32*k):=by
  have c:=amj l k h
  have a:=vX (b.take k)
  rw[List.length_take,Nat.min_eq_left h] at a
  rw[c,Nat.add_mul_mod_self_left,Nat.mod_eq_of_lt a]
theorem c9x{l:List Nat}{i:Nat}(h:i<l.length):l.take (i+1)=l.take i++[l.getD i 0]:=by
  rw[List.take_add_one,List.getD_eq_getElem?_getD,List.getElem?_eq_getElem h];rfl
theorem amq{l:List Nat}{i:Nat}(h:i<l.length):val (l.take (i+1))=val (l.take i)+2^(32*i)*l.getD i 0:=by
  rw[c9x h,bwx,List.length_take,Nat.min_eq_left oO]
theorem cwx{l:List Nat}{i:Nat}(h:i<l.length):l.drop i=l.getD i 0::l.drop (i+1):=by
  rw[List.drop_eq_getElem_cons h,List.getD_eq_getElem?_getD,List.getElem?_eq_getElem h];rfl
theorem tJ{l:List Nat}{i:Nat}(h:i<l.length):val (l.drop i)=l.getD i 0+4294967296*val (l.drop (i+1)):=by
  rw[cwx h];rfl
theorem zJ{l:List Nat}{i:Nat}(h:l.length<=i):l.getD i 0=0:=by
  rw[List.getD_eq_getElem?_getD,List.getElem?_eq_none h];rfl
theorem bpj{l:List Nat}(d:W l)(h:l=[]\/l.getD (l.length-1) 0≠0):wd (val l)=l:=by
  induction l with
  | nil=>exact eJ
  | cons x l ih=>
    obtain ⟨j,f⟩:=yX.1 d
    rcases h with h|h
    · cases h
    · cases l with
      | nil=>
        have g:x≠0:=by simpa using h
        rw[val,val,cqq oO]
        have c:(x+4294967296*0)%4294967296=x:=by omega
        have b:(x+4294967296*0)/4294967296=0:=by omega
        rw[c,b,eJ]
      | cons y l=>
        have a:=ih f (.inr (by simpa using h))
        have i:val (y::l)≠0:=λe=>by rw[e,eJ] at a;cases a
        rw[val,cqq oO]
        have c:(x+4294967296*val (y::l))%4294967296=x:=by omega
        have b:(x+4294967296*val (y::l))/4294967296=val (y::l):=by omega
        rw[c,b,a]
theorem rZ{n:Nat}: wd n=[]↔n=0:=by
  constructor
  · intro h;have:=g6 n;rw[h] at this;exact this.symm
  · intro h;subst h;exact eJ
theorem aQ{n k:Nat}: (wd n).length<=k↔n<2^(32*k):=by
  induction k generalizing n with
  | zero=>simp[rZ]
  | succ k ih=>
    by_cases h:n=0
    · subst h;simp[eJ,Nat.two_pow_pos]
    · rw[cqq h,List.length_cons,Nat.succ_le_succ_iff,ih]
      rw[show 32*(k+1)=32+32*k by omega,Nat.pow_add]
      have e:(2:Nat)^32=4294967296:=by decide
      rw[e,Nat.div_lt_iff_lt_mul oD,Nat.mul_comm]
theorem bX{l:List Nat}(h:W l):(wd (val l)).length<=l.length:=aQ.2 (vX h)
theorem a0x{n:Nat}: 0<(wd n).length↔n≠0:=by
  rw[<- Nat.not_le,Nat.le_zero,List.length_eq_zero_iff,rZ]
theorem uX{a b:Nat}(h:a<=b):(wd a).length<=(wd b).length:=
  aQ.2 (Nat.lt_of_le_of_lt h (aQ.1 (Nat.le_refl _)))
theorem ciq{n:Nat}(h:n≠0):(wd n).getD ((wd n).length-1) 0≠0:=by
  intro a
  have e:=a0x.2 h
  have d:=amq (l:=wd n) (i:=(wd n).length-1) oO
  rw[a,show (wd n).length-1+1=(wd n).length by omega,List.take_length,g6] at d
  have c:=vX ((W_wd n).take ((wd n).length-1))
  rw[List.length_take,Nat.min_eq_left oO] at c
  have b:n<2^(32*((wd n).length-1)):=by omega
  have:=aQ.2 b
  omega
def bl(n:Nat):Nat:=if n=0 then 0 else n.log2+1
theorem uJ{n k:Nat}: bl n<=k↔n<2^k:=by
  unfold bl
  by_cases h:n=0
  · subst h;simp[Nat.two_pow_pos]
  · rw[if_neg h,Nat.succ_le_iff,Nat.log2_lt h]
theorem caj{n k:Nat}: k<bl n↔2^k<=n:=by
  rw[<- Nat.not_le,uJ,Nat.not_lt]
theorem cbq(n:Nat):n<2^bl n:=uJ.1 (Nat.le_refl _)
theorem bl_zero:bl 0=0:=by simp[bl]
theorem adj{n:Nat}: bl n=0↔n=0:=by
  constructor
  · intro h;have:=cbq n;rw[h] at this;omega
  · intro h;subst h;exact bl_zero
theorem bjq{n:Nat}(h:n≠0):0<bl n:=by
  have:=mt adj.1 h;omega
theorem cxx{n:Nat}(h:n≠0):2^(bl n-1)<=n:=caj.1 (by have:=bjq h;omega)
theorem cwj{n k:Nat}(c:n<2^k)(b:k=0\/2^(k-1)<=n):bl n=k:=by
  have a:=uJ.2 c
  rcases b with rfl|b
  · omega
  · have:=caj.2 b;omega
theorem adq{n:Nat}(h:n≠0)(k:Nat):bl (n*2^k)=bl n+k:=by
  have a:=bjq h
  refine cwj ?_ (.inr ?_)
  · rw[Nat.pow_add];exact Nat.mul_lt_mul_of_pos_right (cbq n) (Nat.two_pow_pos k)
  · rw[show bl n+k-1=(bl n-1)+k by omega,Nat.pow_add];exact Nat.mul_le_mul_right _ (cxx h)
theorem bl_val{l:List Nat}(e:W l)(h:l≠[])(c:l.getD (l.length-1) 0≠0):bl (val l)=32*(l.length-1)+bl (l.getD (l.length-1) 0):=by
  have g:0<l.length:=List.length_pos_iff.2 h
  have d:=amq (l:=l) (i:=l.length-1) oO
  rw[show l.length-1+1=l.length by omega,List.take_length] at d
  have f:=vX (e.take (l.length-1))
  rw[List.length_take,Nat.min_eq_left oO] at f
  have j:=bjq c
  have b:=cbq (l.getD (l.length-1) 0)
  have a:=cxx c
  rw[d]
  generalize l.getD (l.length-1) 0=x at *
  generalize val (l.take (l.length-1))=y at *
  refine cwj ?_ (.inr ?_)
  · rw[Nat.pow_add]
    calc y+2^(32*(l.length-1))*x<2^(32*(l.length-1))+2^(32*(l.length-1))*x:=by omega
      _=2^(32*(l.length-1))*(x+1):=by rw[Nat.mul_add,Nat.mul_one,Nat.add_comm]
      _<=2^(32*(l.length-1))*2^bl x:=Nat.mul_le_mul_left _ b
  · rw[show 32*(l.length-1)+bl x-1=32*(l.length-1)+(bl x-1) by omega,Nat.pow_add]
    have:=Nat.mul_le_mul_left (2^(32*(l.length-1))) a
    omega
def tz(n:Nat):Nat:=if h:n=0 then 0 else if n%2=1 then 0 else tz (n/2)+1
termination_by n
decreasing_by omega
theorem tz_zero:tz 0=0:=by rw[tz];simp
theorem cdj{n:Nat}(h:n%2=1):tz n=0:=by rw[tz];split<;>simp[h]
theorem tz_even{n:Nat}(a:n≠0)(h:n%2=0):tz n=tz (n/2)+1:=by
  conv=>lhs;rw[tz]
  rw[dif_neg a,if_neg oO]
theorem tz_mul(n k:Nat)(h:n%2=1):tz (n*2^k)=k:=by
  induction k with
  | zero=>simpa using cdj h
  | succ k ih=>
    have a:=Nat.two_pow_pos k
    have b:n*2^k≠0:=by
      intro e;rcases Nat.mul_eq_zero.1 e with e|e<;>omega
    have e:n*2^(k+1)=2*(n*2^k):=by rw[Nat.pow_succ,<- Nat.mul_assoc,Nat.mul_comm]
    rw[e,tz_even oO oO,Nat.mul_div_cancel_left _ oD,ih]
theorem akx{n:Nat}(h:n≠0):n/2^tz n%2=1/\n=n/2^tz n*2^tz n:=by
  induction n using Nat.strongRecOn with
  | _ n ih=>
    by_cases h2:n%2=1
    · rw[cdj h2];simp[h2]
    · rw[tz_even h oO]
      obtain ⟨a,b⟩:=ih (n/2) oO oO
      have e:n/2^(tz (n/2)+1)=n/2/2^tz (n/2):=by rw[Nat.pow_succ,Nat.mul_comm,<- Nat.div_div_eq_div_mul]
      rw[e]
      refine ⟨a,?_⟩
      rw[Nat.pow_succ,<- Nat.mul_assoc]
      generalize n/2/2^tz (n/2)=q at *
      generalize q*2^tz (n/2)=r at *
      omega
theorem yJ{n:Nat}(h:n≠0):tz n<bl n:=by
  obtain ⟨a,b⟩:=akx h
  rw[caj]
  have:1<=n/2^tz n:=by revert a;generalize n/2^tz n=q;omega
  calc 2^tz n=1*2^tz n:=by rw[Nat.one_mul]
    _<=n/2^tz n*2^tz n:=Nat.mul_le_mul_right _ this
    _=n:=b.symm
theorem d1q{n m k:Nat}(h:n=m*2^k)(a:m%2=1):tz n=k:=by rw[h];exact tz_mul m k a
end Wd
section
open Go Sx Wd
structure NU(w:World)(v:Value)(l:List Nat):Prop where
  ex : ∃ a c,v = .slice a l.length c/\l.length<=c/\RW w a (l.map kQ)
  hw:W l
  len:l.length<=70368744177664
theorem NU.q5{w w':World}{v:Value}{l:List Nat}(h:NU w v l)(b:Chg [] w w'):NU w' v l:=by
  obtain ⟨⟨a,c,i,g,f⟩,e,d⟩:=h
  exact ⟨⟨a,c,i,g,f.q5 b⟩,e,d⟩
theorem NU.one{w:World}{v:Value}{l:List Nat}(h:NU w v l):v.oneCell'=true:=by
  obtain ⟨⟨a,c,rfl,_⟩,_⟩:=h;rfl
def abq:Value->Bool
  | .int .u32 _=>true
  | _=>false
theorem NU.notU{w:World}{v:Value}{l:List Nat}(h:NU w v l):abq v=false:=by
  obtain ⟨⟨a,c,rfl,_⟩,_⟩:=h;rfl
theorem NU.q8{w w':World}{v:Value}{l:List Nat}{b:Nat}{T:TypeId}{cs:List Value}(h:NU w v l)(k:BK w b T cs)(p:Chg [b] w w')(o : ∀ c∈cs,abq c=false):NU w' v l:=by
  obtain ⟨⟨a,c,z,x,t⟩,s,r⟩:=h
  refine ⟨⟨a,c,z,x,λi u g=>?_⟩,s,r⟩
  obtain ⟨m,e,f⟩:=t i u g
  refine ⟨m,e,p.cell f λj=>?_⟩
  simp only[List.mem_singleton] at j
  have n:abq u=true:=by
    rw[List.getElem?_map] at g
    cases hq:l[i]? with
    | none=>rw[hq] at g;cases g
    | some y=>rw[hq] at g;cases g;rfl
  have d:=f
  cases had:m.add i with
  | mk b' o' sp=>
    rw[had] at d j
    simp only at j
    subst j
    cases sp with
    | none=>
      rw[a5j k] at d
      have:=o u (List.mem_of_getElem? d)
      rw[n] at this;cases this
    | some q=>
      have:w.cell? ⟨b',o',some q⟩=none:=by simp[World.cell?,show w.heap[b']?=_ from k]
      rw[this] at d;cases d
theorem NU.part{w:World}{a:Option Addr}{l:List Nat}{k c:Nat}(h:RW w a (l.map kQ))(b:W l)(d:l.length<=70368744177664)(f:k<=l.length)(g:k<=c):NU w (.slice a k c) (l.take k):=by
  have e:(l.take k).length=k:=by rw[List.length_take];omega
  refine ⟨⟨a,c,by rw[e],by omega,?_⟩,b.take k,by omega⟩
  rw[List.map_take]
  exact h.take k
theorem NU.acq{w:World}{a:Option Addr}{l:List Nat}{k c:Nat}(h:RW w a (l.map kQ))(b:W l)(d:l.length<=70368744177664)(e:k=l.length)(f:k<=c):NU w (.slice a k c) l:=by
  subst e
  exact ⟨⟨a,c,rfl,f,h⟩,b,d⟩
theorem NU.nil{w:World}{c:Nat}{a:Option Addr}: NU w (.slice a 0 c) []:=⟨⟨a,c,rfl,by simp,by simpa using RW.nil⟩,awj,by simp⟩
theorem NU.mJ{w:World}{b c:Nat}{E:TypeId}{l:List Nat}{k:Nat}(h:OB w b E l)(a:W l)(d:l.length<=70368744177664)(e:k=l.length)(f:k<=c):NU w (.slice (some ⟨b,0,none⟩) k c) l:=NU.acq h.row a d e f
theorem cut_wd{l:List Nat}{k:Nat}(c:W l)(b:k<=l.length)(a:val (l.take k)=val l)(h:k=0\/l.getD (k-1) 0≠0):wd (val l)=l.take k:=by
  rw[<- a]
  refine bpj (c.take k) ?_
  rcases h with rfl|h
  · left;simp
  · by_cases hk0:k=0
    · subst hk0;left;simp
    · right
      rw[List.length_take,Nat.min_eq_left b]
      have:(l.take k).getD (k-1) 0=l.getD (k-1) 0:=by
        rw[List.getD_eq_getElem?_getD,List.getD_eq_getElem?_getD,List.getElem?_take,if_pos oO]
      rw[this];exact h
theorem b3x{l:List Nat}{k:Nat}(b:k<=l.length)(c:0<k)(a:l.getD (k-1) 0=0):val (l.take (k-1))=val (l.take k):=by
  have:=amq (l:=l) (i:=k-1) oO
  rw[show k-1+1=k by omega,a] at this
  omega
theorem d4q{w:World}{b k:Nat}{e:TypeId}{l:List Nat}(h:OB w b e l)(a:k<=l.length)(c:l.length<=281474976710656):w.ownsRow 0 e 1 (.slice (some ⟨b,0,none⟩) k l.length) k ((l.take k).map kQ):=
  ⟨by simp;omega,.inr ⟨b,l.length,_,rfl,Nat.zero_le _,h,a,by unfold maxLen;omega,by simp,by simp[List.map_take]⟩⟩
theorem NU.dlx{w:World}{e:TypeId}{v:Value}{m:Nat}{l:List Nat}(h:w.ownsRow 0 e 1 v m (l.map kQ))(c:W l)(a:l.length<=70368744177664):NU w v l:=by
  have d:m=l.length:=by have:=h.1;simp at this;omega
  subst d
  rcases bmx h with ⟨rfl,f,_⟩|⟨g,i,rfl,b,_,_⟩
  · have:l=[]:=List.length_eq_zero_iff.1 f
    subst this
    exact NU.nil
  · exact NU.acq (RW.dlx h) c a rfl b
end
section
open Go Sx
def allO:List Value->Prop
  | []=>True
  | v::l=>v.oneCell'=true/\allO l
theorem ao{l:List Value}(h:allO l:=by repeat (first|exact trivial|exact rfl|assumption|exact NU.one oA|apply And.intro)): ∀ v∈l,v.oneCell'=true:=by
  induction l with
  | nil=>intro v b;cases b
  | cons a l ih=>
    intro v b
    rcases List.mem_cons.1 b with rfl|b
    · exact h.1
    · exact ih h.2 v b
def allN(p:Value->Bool):List Value->Prop
  | []=>True
  | v::l=>p v=false/\allN p l
theorem an{p:Value->Bool}{l:List Value}(h:allN p l:=by repeat (first|exact trivial|exact rfl|exact NU.notU oA|apply And.intro)): ∀ v∈l,p v=false:=by
  induction l with
  | nil=>intro v b;cases b
  | cons a l ih=>
    intro v b
    rcases List.mem_cons.1 b with rfl|b
    · exact h.1
    · exact ih h.2 v b
theorem SMg{a b:Sl}(h:q9 a b:=by first|((repeat (first|exact q9.refl|refine q9.nJ (by rfl) ?_));done)|((repeat (first|exact q9.nil|refine q9.cons rfl ?_));done)):q9 a b:=h
theorem SLp{a b:Sl}(h:q9 a b:=by (repeat (first|exact q9.nil|refine q9.cons rfl ?_|refine q9.consI rfl oO ?_))):q9 a b:=h
theorem o1{v:Value}(h:v.oneCell'=true:=by first|rfl|assumption|exact NU.one oA):v.oneCell'=true:=h
end
namespace Sx
open Go
def d0j(P:Program)(f:FuncId)(args:List Value)(w:World)(R:Value->World->Prop):Prop:=
  ∀ u,CallsD P f args.toArray u w λe u' w'=>u'=u/\∃ v,e = .returned v/\R v w'
theorem d0j.mono{P:Program}{f:FuncId}{args:List Value}{w:World}{R a:Value->World->Prop}(h:d0j P f args w R)(b : ∀ v w',R v w'->a v w'):d0j P f args w a:=λu=>
  CallsD.mono (h u) λ_ _ _ ⟨hu,v,he,hR⟩=>⟨hu,v,he,b _ _ hR⟩
def d9j(P:Program)(fn:Func)(n:Nat)(g:FuncId)(R:Value->World->Prop):AQ
  | .normal,D,s,w | .ret,D,s,w=>∃ vs:List Value,D=[⟨.fn (.func g) #[],vs.toArray⟩]/\d0j P g vs w λ_ w'=>∃ v,ResS P fn n D s w' v/\R v w'
  | _,_,_,_=>False
section
variable {P:Program} {n:Nat} {D:List Deferred} {s:Sl} {w:World}
theorem frame0{b:Func}{args:List Value}(e:Nat.ble args.length b.ntmps=true):Fr b.ntmps [] (b1x 0 args) { tmps:=args.toArray++Array.replicate (b.ntmps-args.toArray.size) undef,defers:=[] }:=by
  have d:args.length<=b.ntmps:=by simpa[Nat.ble_eq] using e
  refine ⟨by simp;omega,rfl,λt v a=>?_⟩
  rw[dnq] at a
  simp only[Nat.zero_le,if_true,Nat.sub_zero] at a
  have c:t<args.length:=by
    by_cases hl:t<args.length
    · exact hl
    · rw[List.getElem?_eq_none oO] at a;cases a
  rw[Array.getElem?_append_left (by simpa using c)]
  simpa using a
theorem Ret.enterD{f:FuncId}{fn:Func}{c:Code}{args:List Value}{R:Value->World->Prop}(g:FuncId)(r:k9 P g)(t:P.funcs[f]?=some fn)(y:fn.body=some c)(p:Nat.ble args.length fn.ntmps=true)
    (h:CW P c (d9j P fn fn.ntmps g R) fn.ntmps [] (b1x 0 args) w):Ret P f args w R:=by
  refine calls_of_wp_defers t y (wp_mono (h _ (frame0 p)) λe a w o=>?_)
  obtain ⟨D,s,d,j⟩:=o
  have k:(∃ i:List Value,D=[⟨.fn (.func g) #[],i.toArray⟩]/\d0j P g i w λ_ b=>∃ v,ResS P fn fn.ntmps D s b v/\R v b)->Leaves P fn a.tmps (λe b=>∃ v,e = .returned v/\R v b) a.defers .returning w:=by
    rintro ⟨i,u,n⟩
    rw[d.defers,u]
    refine leaves_cons (args:=i.toArray) oS (by simp only[invoke,Array.append_empty];exact r.run _) (CallsD.mono (n _) λe A b q=>?_)
    obtain ⟨m,v,rfl,x,l,z⟩:=q
    subst m
    exact ⟨x,l a d,x,rfl,z⟩
  cases e with
  | normal=>exact k j
  | ret=>exact k j
  | _=>exact j.elim
theorem d0j.enter{f:FuncId}{b:Func}{c:Code}{args:List Value}{R:Value->World->Prop}(g:P.funcs[f]?=some b)(i:b.body=some c)(d:Nat.ble args.length b.ntmps=true)
    (h:CW P c (k8 P b b.ntmps R) b.ntmps [] (b1x 0 args) w):d0j P f args w R:=λu=>by
  refine callsD_of_wp g i (wp_mono (h _ (frame0 d)) λe a w hq=>?_)
  obtain ⟨D,s,hfr,hk⟩:=hq
  unfold k8 at hk
  cases e with
  | normal=>obtain ⟨hd,v,hres,hR⟩:=hk;exact ⟨by rw[hfr.defers,hd],v,hres a hfr,v,rfl,hR⟩
  | ret=>obtain ⟨hd,v,hres,hR⟩:=hk;exact ⟨by rw[hfr.defers,hd],v,hres a hfr,v,rfl,hR⟩
  | _=>exact hk.elim
theorem d9j.gJ{fn:Func}{g:FuncId}{vs:List Value}{R:Value->World->Prop}{r q:ResultVar}(b:fn.results = #[r,q])(c:D=[⟨.fn (.func g) #[],vs.toArray⟩])
    (h:d0j P g vs w λ_ w'=>∃ v u,aX P n D s w' r v/\aX P n D s w' q u/\R (.tuple [v,u].toArray) w'):d9j P fn n g R .ret D s w:=
  ⟨vs,c,h.mono λ_ w' ⟨v,u,h1,h2,hR⟩=>⟨_,λa ha=>by rw[bdq,b];simp[h1 a ha,h2 a ha],hR⟩⟩
attribute [irreducible] d9j
variable {ops:Array Oper} {K:KK} {rest:List Oper} {ty:TypeId} {pos:String} {af:Array Edge}
theorem WL.defer{f:FuncId}{xs:List Operand}{at_:Array TypeId}{vs:List Value}(b:baq s xs=some vs)(k:WL P ops K rest n (⟨.fn (.func f) #[],vs.toArray⟩::D) s w):
    WL P ops K (⟨none,.defer ⟨.value (.func f),xs.toArray,at_⟩,ty,pos,af,none⟩::rest) n D s w:=λa ha=>
  wpList_plain rfl λK' hK=>by
    have e1:a.eval (.func f) = .func (.func f) #[] #[]:=rfl
    have e2:=bmq (ρ:=a.eval) (λx u b=>ha.eval b) xs vs b
    unfold Oper.wp execOp
    simp only[resolve,e1,Deferred.ofValue]
    simp[e2]
    exact hK _ _ (k _ ⟨ha.size,by simp[Act.put,ha.defers],ha.cell⟩)
theorem exec_callV{f:FuncId}{y:Operand}{xs:List Operand}{at_:Array TypeId}{vs cap:List Value}{ρ:Operand->Value}{o:Oper}(hF:k9 P f)(c:o.op = .call ⟨.value y,xs.toArray,at_⟩)(a:g8 s y=some (.func (.func f) #[] cap.toArray))(b:baq s xs=some vs)
    (h : ∀ x u,g8 s x=some u->ρ x=u):(execOp ρ o).run P w = .ok (.enter f (vs++cap).toArray) w:=by
  have e:ρ y = .func (.func f) #[] cap.toArray:=h _ _ a
  have d:=bmq h xs vs b
  unfold execOp
  simp[c,resolve,e,Deferred.ofValue,invoke,d,k9.run hF]
variable {d:Nat}
theorem WL.callV{f:FuncId}{y:Operand}{xs:List Operand}{at_:Array TypeId}{vs cap:List Value}{R:Value->World->Prop}(hF:k9 P f)(c:g8 s y=some (.func (.func f) #[] cap.toArray))(b:baq s xs=some vs)(g:Nat.blt d n=true)(h:Ret P f (vs++cap) w R)
  (k : ∀ v w',R v w'->WL P ops K rest n D ((d,v)::s) w'):WL P ops K (⟨some d,.call ⟨.value y,xs.toArray,at_⟩,ty,pos,af,none⟩::rest) n D s w:=λa ha=>
 wpList_plain rfl λK' hK=>by
  unfold Oper.wp;rw[exec_callV hF rfl c b λx u b=>ha.eval b];exact Calls.mono h λe w' ⟨v,he,hR⟩=>by subst he;exact hK _ _ (k v w' hR _ (ha.put g v))
end
end Sx
section
open Go Sx Wd
def PO(w:World)(e:TypeId)(lo:Nat)(v:Value)(cs:List Value):Prop:=
  (v = .slice none 0 0/\cs=[])\/∃ g o cap cur,v = .slice (some ⟨g,o,none⟩) cs.length cap/\lo<=g/\w.heap[g]?=some (.cells cur e (0,0))/\o+cap<=cur.size/\cs.length<=cap/\cap<=maxLen/\(cur.toList.drop o).take cs.length=cs/\∀ c∈cur.toList,abq c=false
section
variable {w w':World} {e:TypeId} {lo:Nat} {v:Value} {cs:List Value}
end
namespace Sx
section
variable {P:Program} {n:Nat} {D:List Deferred} {s:Sl} {w:World} {ops:Array Oper} {K:KK} {rest:List Oper} {ty:TypeId} {pos:String} {af:Array Edge} {d:Nat} {x y:Operand}
end
end Sx
end
end Go.Proofs.YtomlallhlakhfaaGreatDoor