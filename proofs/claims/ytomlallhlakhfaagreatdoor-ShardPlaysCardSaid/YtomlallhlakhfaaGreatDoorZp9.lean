/- Part 9 of what the proof rests on. No condition. -/
import Derived.Test.YtomlallhlakhfaaGreatDoorZp8
import Derived.WalkKit
import Derived.ProofKit
import Derived.OpenShut
import Derived.ChangeOld
import Derived.Below
import Derived.Deep.Slices
import Derived.Laws.Cover2
import Derived.LaidMore
import Derived.LaidHandle
import Derived.ChangeMaps5
import Derived.SizedLaws
import Derived.SevenTiedAt
import Derived.Stop.Joined
import Derived.Stop.ErrReads
import Derived.Test.YtomlallhlakhfaaGreatDoorRows
set_option linter.unusedVariables false
set_option linter.unusedSimpArgs false
set_option maxRecDepth 100000
set_option maxHeartbeats 4000000
namespace Go.Proofs.YtomlallhlakhfaaGreatDoor
section
open Go Sx Wd
open Go.ChangeShapes Go.WideShapes Go.ChangeAt Go.WideMaps Go.WideElems Go.RowKit
theorem a4q{H:Type}{enc:TypeId×Value->H}{P:Program}{w:World}{d:Nat}{a:Nat->Bool}{b:Bool}{n:Nat}{e:TypeId}{v:Value}{x:DataW H×List MemPlace}(f:P.underlying e=some (.int .i64))(h:DataW.trod enc P w d a b n e [v]=some x): ∃ z,v = .int .i64 z/\(-9223372036854775808<=z/\z<=9223372036854775807):=by
  obtain ⟨z,i,_,g⟩:=DataW.trod_int f h
  exact ⟨z,by simpa using i,bounds_i64 g⟩
open Go.ChangeShapes Go.WideShapes Go.ChangeAt Go.WideMaps Go.WideElems Go.RowKit
def BY(w:World)(v:Value)(l:List Nat):Prop:=∃ a c,v = .slice a l.length c/\RW w a (l.map u8v)/\l.length<=c/\(∀ ad,a=some ad->l≠[]->ad.block<w.heap.size)/\B8 l/\l.length<=140737488351232
theorem cell_u8{H:Type}{enc:TypeId×Value->H}{P:Program}{w:World}{d:Nat}{a:Nat->Bool}{b:Bool}{n:Nat}{e:TypeId}{v:Value}{x:DataW H×List MemPlace}(g:P.underlying e=some (.int .u8))(h:DataW.trod enc P w d a b n e [v]=some x): ∃ z:Nat,v=u8v z/\z<256:=by
  obtain ⟨z,j,_,i⟩:=DataW.trod_int g h
  have f:0<=z/\z<=255:=by simpa[Lit.wf,IntKind.has,IntKind.min,IntKind.max,IntKind.bits,IntKind.signed] using i
  refine ⟨z.toNat,?_,by omega⟩
  have:v = .int .u8 z:=by simpa using j
  rw[this]
  show _=Value.int .u8 ((z.toNat:Nat):Int)
  rw[Int.toNat_of_nonneg f.1]
end
section
open Go Sx Wd Fl
def AddP(S U:Sh)(e:Int)(S':Sh):Prop:=(1099511627776<S.s.al+U.s.al/\e=2/\S'=S)\/(S.s.al+U.s.al<=1099511627776/\e=0/\S'=S.merge U)
theorem AddP.eq{S U b a:Sh}{e e':Int}(h:AddP S U e b)(g:AddP S U e' a):e=e'/\b=a:=by
  rcases h with ⟨d,rfl,rfl⟩|⟨d,rfl,rfl⟩<;>rcases g with ⟨f,rfl,rfl⟩|⟨f,rfl,rfl⟩
  · exact ⟨rfl,rfl⟩
  · omega
  · omega
  · exact ⟨rfl,rfl⟩
theorem AddP.gn{S U b:Sh}{e:Int}(h:AddP S U e b)(a:Gn S)(f:Gn U)(d:S.noE):Gn b/\b.noE:=by
  rcases h with ⟨_,_,rfl⟩|⟨g,_,rfl⟩
  · exact ⟨a,d⟩
  · exact ⟨a.merge f g,cuj a f d⟩
theorem aij{T:TypeId}{w w':World}{b:Nat}{S U:Sh}{u:Value}{n:Nat}(g:U.s.al=n)(h:(1099511627776<S.s.al+n/\u = .int .i64 2/\ShM T w' b S/\Chg [b] w w')\/(S.s.al+n<=1099511627776/\u = .int .i64 0/\ShM T w' b (S.merge U)/\Chg [b] w w')):
    ∃ e S',u = .int .i64 e/\AddP S U e S'/\ShM T w' b S'/\Chg [b] w w':=by
  subst g
  rcases h with ⟨f,rfl,d,a⟩|⟨f,rfl,d,a⟩
  · exact ⟨2,S,rfl,.inl ⟨f,rfl,rfl⟩,d,a⟩
  · exact ⟨0,_,rfl,.inr ⟨f,rfl,rfl⟩,d,a⟩
def KqT:List TypeId:=[29,35,9,42,91,148]
def Kq(w w':World):Prop:=∀ b T l,BK w b T l->T∉KqT->BK w' b T l
theorem Kq.refl(w:World):Kq w w:=λb T l h _=>h
theorem Kq.q8{w w' a:World}(h:Kq w w')(d:Chg [] w' a):Kq w a:=λb T l hb h1=>(h b T l hb h1).q8 d
theorem Kq.trans{w w' a:World}(h:Kq w w')(g:Kq w' a):Kq w a:=λb T l hb h1=>g b T l (h b T l hb h1) h1
theorem Kp.kq{w w':World}(h:Kp w w'):Kq w w':=λb T l hb h1=>h b T l hb (λe=>h1 (by rw[e];exact List.mem_cons_self ..)) (λe=>h1 (by rw[e];exact List.mem_cons_of_mem _ (List.mem_cons_self ..))) (λe=>h1 (by rw[e];exact List.mem_cons_of_mem _ (List.mem_cons_of_mem _ (List.mem_cons_self ..))))
theorem Kq.q9{w w' a:World}{b:Nat}{T:TypeId}{cs:List Value}(h:Kq w w')(f:BK w' b T cs)(d:Chg [b] w' a)(_ : ∀ c∈cs,xX c=false)(hT:T∈KqT:=by decide):Kq w a:=λb' T' l hb' h1=>(h b' T' l hb' h1).dJ d (by rw[List.mem_singleton];exact BK.neT (h b' T' l hb' h1) f (λe=>h1 (by rw[e];exact hT)))
theorem Kq.gQ{w w' a:World}{b:Nat}{T:TypeId}{S:Sh}(h:Kq w w')(f:ShM T w' b S)(d:Chg [b] w' a)(hT:T∈KqT:=by decide):Kq w a:=by
  obtain ⟨j,k,e,i,g⟩:=f
  exact h.q9 e d (notU14 i g) hT
theorem Kq.vJ{w w' a:World}{e:TypeId}{f lo m:Nat}{v:Value}{cs:List Value}(h:Kq w w')(b:PQ w' e f lo v m cs)(d:Chg v.ownBlock.toList w' a)(hT:e∈KqT:=by decide):Kq w a:=λb' T' l hb' h1=>b.bk d (h b' T' l hb' h1) (λq=>h1 (by rw[<- q];exact hT))
def StepR(ok:Int)(bs:List Nat)(L:List PS)(C:List (Value×List Nat))(L':List PS)(C':List (Value×List Nat)):Prop:=
  (C'=C/\(ok=1\/ok=7)/\((L'=L/\(ok=1->16<=L.length)/\(L.length<16->apx bs=none))\/∃ b r S,L'=L++[(b,r,S)]/\L.length<16/\(ok=7->apx bs=some S)))\/(L'.length=L.length/\C'.length<=C.length+1/\¬(ok=1\/ok=7))
def NewR(w:World)(k:Nat)(ok:Int)(bs:List Nat)(pv rv:Value)(e:Int):Prop:=
  (∃ S b r,pv = .pointer (some ⟨b,0,none⟩)/\rv = .pointer (some ⟨r,0,none⟩)/\e=0/\ShM 91 w b S/\ShM 148 w r S/\Gn S/\S.noE/\k<=b/\k<=r/\(ok=7->apx bs=some S))\/(ok=7/\apx bs=none/\pv = .pointer none/\rv = .pointer none/\e=210)
theorem PQ.pair{w:World}{lo g m c:Nat}{L:List PS}{n b d:Nat}{S:Sh}(h:PQ w 42 2 lo (.slice (some ⟨g,0,none⟩) m c) m (ajq L))(f:L[n]?=some (b,d,S)): ∀ j v,[Value.pointer (some ⟨b,0,none⟩),.pointer (some ⟨d,0,none⟩)][j]?=some v->w.cell? ((⟨g,0+((n:Nat):Int).toNat*2,none⟩:Addr).add j)=some v:=λj v hv=>by
  obtain ⟨a,c',e1,_,hr,_⟩:=h.row
  cases e1
  obtain ⟨p1,p2⟩:=pairC_get L n _ f
  have e : ∀ j,(⟨g,0+((n:Nat):Int).toNat*2,none⟩:Addr).add j=(⟨g,0,none⟩:Addr).add (n*2+j):=λj=>by
    unfold Addr.add
    split<;>split<;>simp_all
  rw[e]
  match j,hv with
  | 0,hv=>cases hv;obtain ⟨ad,e2,hc⟩:=hr (n*2) _ p1;cases e2;exact hc
  | 1,hv=>cases hv;obtain ⟨ad,e2,hc⟩:=hr (n*2+1) _ p2;cases e2;exact hc
  | j+2,hv=>cases hv
theorem PQ.some_{w:World}{e:TypeId}{b lo m c:Nat}{a:Option Addr}{cs:List Value}(h:PQ w e b lo (.slice a m c) m cs)(d:0<m): ∃ g,a=some ⟨g,0,none⟩:=by
  rcases h with ⟨q,rfl,_⟩|⟨g,_,_,q,_⟩
  · omega
  · cases q;exact ⟨g,rfl⟩
theorem PlM.again{lo F n R H l g o:Nat}{q w w':World}{s r:Value}{p:List Value}{G:Prop}{L:List PS}{C:List (Value×List Nat)}{S:Sh}(Q:PlS lo q L C)(I:PlS lo w L C)(j:lo<=F)(B:BK w F 29 [.slice (some ⟨g,0,none⟩) L.length o,s,r])(d:PQ w 42 2 lo (.slice (some ⟨g,0,none⟩) L.length o) L.length (ajq L))
    (v:PQ w 35 1 lo s C.length (C.map λx=>x.1)) (u:PQ w 9 1 lo r C.length p) (t:G->p=C.map λx=>.string (bA x.2)) (k:L[n]?=some (R,H,S)) (O:ShM 91 w l S) (A:q.heap.size<=l) (y:lo<=q.heap.size) (M:Chg [g] w w')
    (h:PQ w' 42 2 lo (.slice (some ⟨g,0,none⟩) L.length o) L.length ((ajq L).set (n*2) (.pointer (some ⟨l,0,none⟩)))):PlM lo w' F (L.set n (l,H,S)) C G:=by
  have f:Chg (Value.slice (some ⟨g,0,none⟩) L.length o).ownBlock.toList w w':=M
  have b:=I.vJ d f
  have D:=O.vJ d f
  refine ⟨⟨_,s,r,p,d.bk f B oD,?_,v.other d f oD,u.other d f oD,t⟩,⟨λa m=>?_,?_,b.dat,b.nd⟩,j⟩
  · rw[pairC_put k,List.length_set];exact h
  · rcases set_mem k m with rfl|⟨i,z,J⟩
    · have:=b.sh _ (List.mem_of_getElem? k)
      exact ⟨D,this.2.1,this.2.2.1,this.2.2.2.1,Nat.le_trans y A,this.2.2.2.2.2⟩
    · exact b.sh a (List.mem_of_getElem? z)
  · refine pw_set b.nb k λi a m z=>⟨λe=>?_,(d6q b.nb k m z).2⟩
    have:=(Q.sh a (List.mem_of_getElem? m)).1.lt
    have e:a.1=l:=e
    omega
theorem Sx.Chg.q8{T:List Nat}{w w' a:World}(h:Chg T w w')(b:Chg [] w' a):Chg T w a:=h.trans (Chg.any b)
theorem a5j{w:World}{T e a:TypeId}{b c d:Nat}{l:List Value}{S U:Sh}(h:BK w b T l)(m:ShM e w c S)(k:ShM a w d U)(g:T≠e:=by decide)(f:T≠a:=by decide):b∉[c,d]:=by
  obtain ⟨_,_,j,_⟩:=m
  obtain ⟨_,_,i,_⟩:=k
  simp only[List.mem_cons,List.not_mem_nil,or_false,not_or]
  exact ⟨BK.neT h j g,BK.neT h i f⟩
structure KSl(lo bp n bS bR b3 b11:Nat)(L:List PS)(C:List (Value×List Nat))(st:Prop)(cells:List Value)(w0 w:World)(N:Nat)(g:Nat×Sh)(w1:World):Prop where
  hi:g.1<=N
  h:PlH lo w1 bp L C st n
  s1:ShM 91 w1 bS g.2
  s2:ShM 148 w1 bR g.2
  gn:Gn g.2
  ne:g.2.noE
  b3:BK w1 b3 37 cells
  b11:BK w1 b11 42 [.pointer (some ⟨bS,0,none⟩),.pointer (some ⟨bR,0,none⟩)]
  kq:Kq w w1
  ch:Chg [] w0 w1
theorem c5q.mono{w:World}{k d:Nat}{f:List Nat}{a:Value}{e:Int}(h:c5q w k f a e)(g:d<=k):c5q w d f a e:=by
  rcases h with ⟨S,b,n,m,l,j,i⟩|h
  · exact .inl ⟨S,b,n,m,l,j,Nat.le_trans g i⟩
  · exact .inr h
theorem d4j(lo bp:Nat)(L:List PS)(C:List (Value×List Nat))(st:Prop)(ok oo ow om f9 e3 pn pi:Int)(ox:Nat)(n9 o0:Value)(ll bs:List Nat)(w0 w:World)(c5:GW w0)(Q:PlM lo w bp L C st)(f:Chg [] w0 w)(m4:w0.heap.size<=lo)(aC:C.length<=100000)(hL:L.length<=16)(t9:ok=1\/ok=7\/0<L.length)(x5:NF w0 n9 ll)(z4:BY w0 o0 bs)(x6 : -9223372036854775808<=oo/\oo<=9223372036854775807)(t7 : -9223372036854775808<=ow/\ow<=9223372036854775807)(k2:ox<18446744073709551616):Ret Tryz.prog 8 [.pointer (some ⟨bp,0,none⟩),.agg [.int .i64 ok,.int .i64 oo,.int .i64 ow,.float .f64 ox,n9,.int .i64 om,.int .i64 f9,.int .i64 e3,.int .i64 pn,.int .i64 pi,o0].toArray] w λu w'=>u = .bool true/\(∃ L' C',PlM lo w' bp L' C' st/\StepR ok bs L C L' C')/\Chg [] w0 w'/\Kq w w':=by
  obtain ⟨ab,cb,rfl,t5,y8,z5,hB,aA⟩:=z4;obtain ⟨⟨f5,e9,rfl,y9,i9⟩,z6,cC⟩:=id x5;have j:=Kq.refl w;have v1:=Q;have b6:Chg [] w w:=Chg.refl _ _;refine zE2 Tryz.func8 rfl ?_;refine Sr λ_ x4=>?_;refine zBh rfl rfl rfl f λb3 bE k h9 aU u2 f=>?_;have Q:=Q.q8 h9;have j:=j.q8 h9;have b6:=b6.q8 h9;refine za rfl (zz (x4 (zc λ_ x3=>?_)));refine CW.oX 25 (decide (ok=1\/ok=7)) ?_ ?_
  · refine zS λ_ p2=>zf rfl (zl k rfl rfl (zq rfl rfl (zm rfl ?_)));refine zb ?_ ?_<;>intro y7<;>try simp only[qs] at y7
    · refine zv rfl (zv rfl (zv rfl (zt rfl rfl (zz (p2 ?_)))));refine ⟨rfl,rfl,j0.g8 rfl ?_ ?_⟩
      · exact AqE
      exact SMg
    refine zw rfl (zf rfl (zw rfl (zl k rfl rfl (zw rfl (zq rfl rfl (ze rfl rfl (zz (p2 ?_))))))));refine ⟨rfl,rfl,j0.g8 rfl ?_ ?_⟩
    · exact AqE
    exact SMg
  refine zy rfl ?_ ?_<;>intro m8<;>try simp only[qs] at m8
  · have Z:ok=1\/ok=7:=m8
    refine Sr λ_ x2=>?_;refine WL.call hasF21 rfl rfl (dex _) λv w1 U=>?_;obtain ⟨⟨f4,rfl,a,d8⟩,o⟩:=U;have d8:=Nat.le_trans b6.size d8;have f:=f.ta o;have k:=k.k0 o;have Q:=Q.q8 o;have j:=j.q8 o;have b6:=b6.q8 o;refine za rfl (zz (x2 (Sr λ_ x1=>?_)));refine WL.call hasF26 rfl rfl (r21New_spec _) λv w2 U=>?_;obtain ⟨⟨f3,rfl,d,d7⟩,o⟩:=U;have d7:=Nat.le_trans b6.size d7;have f:=f.ta o;have k:=k.k0 o;have Q:=Q.q8 o;have j:=j.q8 o;have b6:=b6.q8 o;have a:=a.q8 o;refine za rfl (zz (x1 (Sr λ_ x0=>za rfl (zz (x0 (Sr λ_ t3=>za rfl (zz (t3 (Sr λ_ t2=>za rfl (zz (t2 ?_)))))))))));refine CW.anj (λD s' w'=>D=[]/\(∃ pv rv e,Sx.look s' 5=some pv/\Sx.look s' 6=some rv/\Sx.look s' 7=some (.int .i64 e)/\Sx.look s' 8=some (.int .i64 e)/\NewR w' w.heap.size ok bs pv rv e)/\PlM lo w' bp L C st/\Kq w w'/\BK w' b3 37 [.int .i64 ok,.int .i64 oo,.int .i64 ow,.float .f64 ox,.slice f5 ll.length e9,.int .i64 om,.int .i64 f9,.int .i64 e3,.int .i64 pn,.int .i64 pi,.slice ab bs.length cb]/\Chg [] w0 w'/\j0 [(0,.pointer (some ⟨bp,0,none⟩)),(9,.bool true),(3,.pointer (some ⟨b3,0,none⟩))] s') ?_ ?_
    · refine Sr λ_ t1=>zf rfl (zl k rfl rfl (zq rfl rfl (zz (t1 ?_))));refine zy rfl ?_ ?_<;>intro m7<;>try simp only[qs] at m7
      · have k3:ok=7:=m7
        refine Sr λ_ t0=>zf rfl (zl k rfl rfl ?_);refine WL.call hasF27 rfl rfl (cox ab bs cb _ (c5.q8 f) (t5.q8 f) hB aA) λv w3 U=>?_;obtain ⟨⟨pv,e,rfl,i2⟩,o⟩:=U;have i2:=i2.mono b6.size;have f:=f.ta o;have k:=k.k0 o;have Q:=Q.q8 o;have j:=j.q8 o;have b6:=b6.q8 o;refine zm rfl (zx rfl rfl (zx rfl rfl (zx rfl rfl (za rfl (za rfl (za rfl (zz (t0 (zS λ_ p5=>zf rfl (zl k rfl rfl ?_))))))))));refine WL.call hasF28 rfl rfl (dkj ab bs cb _ (t5.q8 f) y8 (λad z t9=>Nat.lt_of_lt_of_le (z5 ad z t9) f.size) hB oO) λv w4 U=>?_;obtain ⟨aB,o⟩:=U;obtain ⟨rv,rfl,hN⟩ : ∃ rv,v = .tuple [rv,.int .i64 e].toArray/\NewR w4 w.heap.size ok bs pv rv e:=by
          rcases aB with ⟨S,r,h1,h2,h3,h4,-⟩|⟨h1,h2⟩<;>rcases i2 with ⟨S',b,g1,rfl,rfl,g4,g5⟩|⟨g1,rfl,rfl⟩
          · obtain rfl:S=S':=Option.some.inj (h1.symm.trans g1)
            exact ⟨_,h2,.inl ⟨S,b,r,rfl,rfl,rfl,g4.q8 o,h3,(Gn.read hB h1).1,(Gn.read hB h1).2,g5,Nat.le_trans b6.size h4,λ_=>h1⟩⟩
          · rw[h1] at g1;cases g1
          · rw[h1] at g1;cases g1
          exact ⟨_,h2,.inr ⟨k3,h1,rfl,rfl,rfl⟩⟩
        have f:=f.ta o;have k:=k.k0 o;have Q:=Q.q8 o;have j:=j.q8 o;refine zm rfl (zx rfl rfl (zx rfl rfl (za rfl (za rfl (zz (p5 ?_))))));exact ⟨rfl,⟨_,rv,e,rfl,rfl,rfl,rfl,hN⟩,Q,j,k,f,by (repeat (first|exact j0.nil|refine j0.cons rfl ?_))⟩
      have k3 : ¬ok=7:=m7;refine zkk ?_;exact ⟨rfl,⟨_,_,0,rfl,rfl,rfl,rfl,.inl ⟨Sh.zero,f4,f3,rfl,rfl,rfl,a,d,Gn.zero,λ_=>⟨rfl,rfl⟩,d8,d7,λz=>absurd z k3⟩⟩,Q,j,k,f,by (repeat (first|exact j0.nil|refine j0.cons rfl ?_))⟩
    rintro _ s' wJ ⟨rfl,⟨pv,rv,e,h5,h6,h7,h8,hN⟩,Q,j,k,f,t4⟩;refine CW.sub (s':=[(5,pv),(6,rv),(7,.int .i64 e),(8,.int .i64 e),(0,.pointer (some ⟨bp,0,none⟩)),(9,.bool true),(3,.pointer (some ⟨b3,0,none⟩))]) (j0.cons h5 (j0.cons h6 (j0.cons h7 (j0.cons h8 t4)))) ?_;refine zc λ_ g0=>Sr λ_ l8=>?_;rcases hN with ⟨S,f4,f3,rfl,rfl,rfl,a,d,T,Y,y1,y0,h0⟩|⟨k3,h0,rfl,rfl,rfl⟩
    · obtain ⟨⟨vl,vc,vw,ws,O,G,a9,a8,e4⟩,hs,b8⟩:=id Q;obtain ⟨al,cl,rfl⟩:=G.sl;obtain ⟨ac,cc,rfl⟩:=a9.sl;obtain ⟨aw,cw,rfl⟩:=a8.sl;have aS:w0.heap.size<=bp:=Nat.le_trans m4 b8;have aP:b3≠bp:=BK.neT k O oD;refine zm rfl ?_;refine WL.ev (Ev.a8q rfl rfl) rfl ?_;refine zm rfl (zw rfl (zm rfl (zw rfl ?_)));refine WL.ev (Ev.a8q rfl rfl) rfl ?_;refine zt rfl rfl (zm rfl (zw rfl (zm rfl (zw rfl (zP rfl (zw rfl (zf rfl (zw rfl ?_))))))));refine WL.ev (Ev.load (v:=.slice al L.length cl) rfl rfl (O.at_ rfl)) rfl ?_;refine zw rfl (zn rfl (zw rfl (zL rfl rfl (zt rfl rfl (zz (l8 ?_))))));refine zy rfl ?_ ?_<;>intro m6<;>try simp only[qs] at m6
      · have g9:L.length<16:=by have:=m6;omega
        refine zR λ_ p4=>?_;refine zm rfl (zm rfl (zP rfl (zf rfl ?_)));refine WL.ev (Ev.load (v:=.slice al L.length cl) rfl rfl (O.at_ rfl)) rfl ?_;refine zm rfl (zm rfl ?_);refine WL.ev (Ev.build (vs:=_) (cs:=[_,_]) rfl rfl) rfl ?_;refine WL.buildSlice (m:=1) (cs:=[.pointer (some ⟨f4,0,none⟩),.pointer (some ⟨f3,0,none⟩)]) oD oD rfl oR rfl λaF bG a4=>?_;have v0:=a4.at_;have f:=f.trans (Chg.any a4.chg);have hs:=hs.q8 a4.chg;have G:=G.q8 a4.chg;have a9:=a9.q8 a4.chg;have a8:=a8.q8 a4.chg;have a:=a.q8 a4.chg;have d:=d.q8 a4.chg;have j:=j.q8 a4.chg;have O:=O.q8 a4.chg;have k:=k.q8 a4.chg;refine WL.appQ (lo:=lo) (news:=[.pointer (some ⟨f4,0,none⟩),.pointer (some ⟨f3,0,none⟩)]) (by rfl) oD (by intro c hc;change c∈[_,_] at hc;simp only[List.mem_cons,List.not_mem_nil,or_false] at hc;rcases hc with rfl|rfl<;>rfl) rfl rfl G rfl (Sx.BK.news (show BK _ aF 42 [.pointer (some ⟨f4,0,none⟩),.pointer (some ⟨f3,0,none⟩)] from v0)) (by intro q hq;simp only[List.mem_cons,List.not_mem_nil,or_false] at hq;rcases hq with rfl|rfl<;>rfl) (by intro q hq;simp only[List.mem_cons,List.not_mem_nil,or_false] at hq;rcases hq with rfl|rfl<;>rfl) (by have:=O.lt;omega) oO oD rfl λcB bF t6 a7 aV=>?_;have hs:=hs.vJ G a7;have a9:=a9.other G a7 oD;have a8:=a8.other G a7 oD;have a:=a.vJ G a7;have d:=d.vJ G a7;have j:=j.vJ G a7;have O:=G.bk a7 O oD;have k:=G.bk a7 k oD;have f:=G.frame a7 f m4;have G:=t6;obtain ⟨cR,cN,rfl⟩:=G.sl;refine zP rfl (zf rfl ?_);refine WL.bJ rfl rfl o1 O oS rfl λbC m1 b5=>?_;(try simp only[qt] at m1);have f:=f.s1 b5;have j:=j.q9 O b5 an;have hs:=hs.q9 O b5 an;have G:=G.q9 O b5 an;have a9:=a9.q9 O b5 an;have a8:=a8.q9 O b5 an;have a:=a.q9 O b5 an;have d:=d.q9 O b5 an;have O:=m1;refine WL.nil (p4 _ _ _ (g0 ?_));refine Sr λ_ s9=>zm rfl (zm rfl (zw rfl (zm rfl (zw rfl (zm rfl (zw rfl (zq rfl rfl ?_)))))));rw[decide_eq_true (rfl)];refine zt rfl rfl (zm rfl (zw rfl (zm rfl (zw rfl ?_))));refine WL.ev (Ev.a0j rfl rfl) rfl ?_;refine zw rfl (zm rfl (zw rfl ?_));refine WL.ev (Ev.a0j rfl rfl) rfl ?_;refine zw rfl ?_;refine WL.ev (Ev.bdx rfl rfl) rfl ?_;refine zt rfl rfl (za rfl (zz (s9 ?_)));refine zr (zr1 rfl rfl ?_);refine ⟨rfl,⟨_,_,⟨⟨_,_,_,ws,O,?_,a9,a8,e4⟩,v1.s.snocL hs a d T Y y1 y0 (by have:=v1.lt;omega),b8⟩,.inl ⟨rfl,Z,.inr ⟨f4,f3,S,rfl,g9,h0⟩⟩⟩,f,j⟩;rw[pairC_snoc,List.length_append];exact G
      have g9 : ¬L.length<16:=by have:=m6;omega
      refine zkk (g0 (Sr λ_ s8=>zm rfl (zm rfl (zw rfl (zm rfl (zw rfl (zm rfl (zw rfl (zq rfl rfl ?_)))))))));rw[decide_eq_true (rfl)];refine zt rfl rfl (zm rfl (zw rfl (zm rfl (zw rfl ?_))));refine WL.ev (Ev.a0j rfl rfl) rfl ?_;refine zw rfl (zm rfl (zw rfl ?_));refine WL.ev (Ev.a0j rfl rfl) rfl ?_;refine zw rfl ?_;refine WL.ev (Ev.bdx rfl rfl) rfl ?_;refine zt rfl rfl (za rfl (zz (s8 ?_)));refine zr (zr1 rfl rfl ?_);exact ⟨rfl,⟨L,C,⟨⟨_,_,_,ws,O,G,a9,a8,e4⟩,hs,b8⟩,.inl ⟨rfl,Z,.inl ⟨rfl,λ_=>by omega,λz=>absurd z g9⟩⟩⟩,f,j⟩
    refine zm rfl ?_;refine WL.ev (Ev.a8q rfl rfl) rfl ?_;refine zm rfl (zv rfl (zv rfl (ze rfl rfl (zm rfl (zv rfl (zv rfl (zv rfl (zv rfl (zv rfl (zv rfl (ze rfl rfl (zz (l8 ?_)))))))))))));refine CW.mQ rfl ?_;refine zkk (g0 (Sr λ_ s7=>zm rfl (zm rfl (zw rfl (zm rfl (zw rfl (zm rfl (zw rfl (zq rfl rfl ?_)))))))));rw[decide_eq_true (rfl)];refine zt rfl rfl (zm rfl (zw rfl (zm rfl (zw rfl ?_))));refine WL.ev (Ev.a0j rfl rfl) rfl ?_;refine zw rfl (zm rfl (zw rfl ?_));refine WL.ev (Ev.a0j rfl rfl) rfl ?_;refine zw rfl ?_;refine WL.ev (Ev.bdx rfl rfl) rfl ?_;refine zt rfl rfl (za rfl (zz (s7 ?_)));refine zr (zr1 rfl rfl ?_);exact ⟨rfl,⟨L,C,Q,.inl ⟨rfl,Z,.inl ⟨rfl,λz=>by omega,λ_=>h0⟩⟩⟩,f,j⟩
  have Z : ¬(ok=1\/ok=7):=m8;have d4:0<L.length:=by omega
  refine zkk (x3 (Sr λ_ s6=>zm rfl (zf rfl (zl k rfl rfl ?_))));refine WL.call hasF29 rfl rfl (at_spec lo bp L C st oo _ Q x6 d4 oO) λv w5 U=>?_;obtain ⟨rfl,o⟩:=U;obtain ⟨n,hn⟩ : ∃ n,n=atP oo L.length:=⟨_,rfl⟩;rw[<- hn];have x7:n<L.length:=by rw[hn];exact atP_lt _ d4
  have f:=f.ta o;have k:=k.k0 o;have Q:=Q.q8 o;have j:=j.q8 o;refine za rfl (zz (s6 (zc λ_ s5=>?_)));obtain ⟨⟨vl,vc,vw,ws,O,G,a9,a8,e4⟩,hs,b8⟩:=id Q;obtain ⟨al,cl,rfl⟩:=G.sl;obtain ⟨gl,rfl⟩:=G.some_ d4;have e8:=Q;obtain ⟨⟨V,X,S⟩,J⟩ : ∃ g,L[n]?=some g:=⟨_,List.getElem?_eq_getElem x7⟩;refine zS λ_ p3=>zm rfl (zP rfl (zf rfl ?_));refine WL.ev (Ev.load (v:=.slice (some ⟨gl,0,none⟩) L.length cl) rfl rfl (O.at_ rfl)) rfl ?_;refine zm rfl ?_;refine WL.ev (Ev.indexAddr rfl rfl oO oO) rfl ?_;refine WL.ev (Ev.awj (cs:=[.pointer (some ⟨V,0,none⟩),.pointer (some ⟨X,0,none⟩)]) rfl rfl rfl (G.pair J)) rfl ?_;refine WL.iZ (l:=[.pointer none,.pointer none]) rfl rfl λd1 aH h b9 d9=>?_;have e7:=Nat.le_trans f.size d9;have f:=f.ta b9;have Q:=Q.q8 b9;have j:=j.q8 b9;have t8:=zdd k.lt d9;have k:=k.k0 b9;refine zss rfl rfl (by intro q hq;simp only[List.mem_cons,List.not_mem_nil,or_false] at hq;rcases hq with rfl|rfl<;>rfl) h rfl λaG i0 c9=>?_;(try simp only[qt] at i0);have f:=f.step c9 (λy F=>.inr (by rw[List.mem_singleton.1 F];exact e7));have j:=j.q9 h c9 (by intro q hq;simp only[List.mem_cons,List.not_mem_nil,or_false] at hq;rcases hq with rfl|rfl<;>rfl);have k:=k.kq c9;have Q:=e8.q8 (b9.step c9 (λy F=>.inr (by rw[List.mem_singleton.1 F];exact d9)));have h:=i0;refine zz (p3 ?_);obtain ⟨a,d,T,Y,u1,u0⟩:=Q.s.sh _ (List.mem_of_getElem? J);dsimp only at a d T Y u1 u0;refine s5 (zc λ_ s4=>Sr λ_ s3=>zf rfl (zl k rfl rfl (zz (s3 (CW.block (Sr λ_ s0=>zq rfl rfl (za rfl (zz (s0 ?_)))))))));refine zy rfl ?_ ?_<;>intro z2<;>try simp only[qs] at z2
  · refine zc λ_ r9=>?_
    refine CW.a2j [V,X] 12 rfl dZ λaO p1 p A=>?_;have f:=f.ta A;have k:=k.k0 A;have h:=h.k0 A;have j:=j.q8 A;have Q:=Q.q8 A;have a:=a.q8 A;have d:=d.q8 A;have a5:=k;have x:=h;have d3:b3∉[V,X]:=a5j k a d;have I:d1∉[V,X]:=a5j h a d;have b4 : ∀ y∈[V,X],y∈([]:List Nat)\/w0.heap.size<=y:=λy F=>.inr (by simp only[List.mem_cons,List.not_mem_nil,or_false] at F;rcases F with rfl|rfl<;>omega);have B:=Q.hole n;refine wh 0 rfl p (eF rfl) (wh 1 rfl p (λ_ t=>Ev.load (v:=.pointer (some ⟨V,0,none⟩)) rfl rfl ((x.dJ t I).at_ rfl)) (wh 2 rfl p (eF rfl) (wh 3 rfl p (λ_ t=>Ev.load (v:=.float .f64 ox) rfl rfl ((a5.dJ t d3).at_ rfl)) (wh 5 rfl p (eF rfl) (wh 6 rfl p (λ_ t=>Ev.load (v:=.pointer (some ⟨X,0,none⟩)) rfl rfl ((x.dJ t I).at_ rfl)) (wh 7 rfl p (eF rfl) (wh 8 rfl p (λ_ t=>Ev.load (v:=.float .f64 ox) rfl rfl ((a5.dJ t d3).at_ rfl)) ?_)))))));refine WH.k7 4 rfl oR hasF22 rfl rfl (bsq V S ox _ a T.wf k2 (c5.q8 f)) λv w6 U=>?_;obtain ⟨e1,d5,rfl,a2,a1,o⟩:=aij (n:=1) (one_al (ox)) U;have p:=p.step o (λy F=>.inl (by rw[List.mem_singleton.1 F];simp));have B:=B.drx J a o;have d:=d.other a o (d.neT a oD);have j:=j.gQ a o;have k:=k.gQ a o;have h:=h.gQ a o;have f:=f.step o (λy F=>.inr (by rw[List.mem_singleton.1 F];omega));have a:=a1;refine ⟨p,?_⟩;refine WH.k7 9 rfl oR hasF30 rfl rfl (c0j X S ox _ d T.wf k2 T.num (Gn.one k2).num) λv w7 U=>?_;obtain ⟨e2,f6,rfl,b2,a0,o⟩:=aij (n:=1) (one_al (ox)) U;obtain ⟨rfl,rfl⟩:=a2.eq b2;have p:=p.step o (λy F=>.inl (by rw[List.mem_singleton.1 F];simp));have B:=B.dqj J d o;have a:=a.other d o (a.neT d oD);have j:=j.gQ d o;have k:=k.gQ d o;have h:=h.gQ d o;have f:=f.step o (λy F=>.inr (by rw[List.mem_singleton.1 F];omega));have d:=a0;obtain ⟨b0,b1⟩:=a2.gn T (Gn.one k2) Y;refine ⟨p,?_⟩;refine wh 10 rfl p (λ_ _=>Ev.eql rfl rfl) ?_;rw[decide_eq_true (rfl)];refine wh 11 rfl p (eA rfl) ?_;refine WH.done oR (p1 _ _ _ ?_);refine r9 ?_;refine zr (zr1 rfl rfl ?_);exact ⟨rfl,⟨_,_,B.close J a d b0 b1,.inr ⟨by rw[List.length_set],Nat.le_succ _,Z⟩⟩,f,j⟩
  refine Sr λ_ r8=>zq rfl rfl (za rfl (zz (r8 ?_)));refine zy rfl ?_ ?_<;>intro z1<;>try simp only[qs] at z1
  · refine zc λ_ r7=>Sr λ_ r6=>za rfl (zz (r6 (CW.block ?_)));refine CW.loop (S:=λg:Nat×Sh=>[(3,.pointer (some ⟨b3,0,none⟩)),(11,.pointer (some ⟨d1,0,none⟩)),(12,.int .i64 (g.1:Int))]) (Inv:=KSl lo bp n V X b3 d1 L C st [.int .i64 ok,.int .i64 oo,.int .i64 ow,.float .f64 ox,.slice f5 ll.length e9,.int .i64 om,.int .i64 f9,.int .i64 e3,.int .i64 pn,.int .i64 pi,.slice ab bs.length cb] w0 w ll.length) (mu:=λg=>ll.length-g.1) ((0,S)) ?_ ?_ ?_
    · exact ⟨Nat.zero_le _,Q.hole n,a,d,T,Y,k,h,j,f⟩
    · exact SLp
    rintro ⟨i,Sx⟩ wr ⟨hi,B,a,d,T,Y,k,h,j,f⟩;dsimp only at hi a d T Y;dsimp only;refine zc λ_ r5=>?_;refine CW.oX 119 (decide (i<ll.length/\i<2000)) ?_ ?_
    · refine zS λ_ l4=>zm rfl (zf rfl (zl k rfl rfl (zn rfl (zL rfl rfl (zm rfl ?_)))));refine zb ?_ ?_<;>intro y6<;>try simp only[qs] at y6
      · refine zw rfl (zm rfl (zw rfl (zL rfl rfl (zt rfl rfl (zz (l4 ?_))))));refine ⟨rfl,rfl,j0.g8 rfl ?_ ?_⟩
        · exact AqE
        exact SMg
      refine zv rfl (zv rfl (ze rfl rfl (zz (l4 ?_))));refine ⟨rfl,rfl,j0.g8 rfl ?_ ?_⟩
      · exact AqE
      exact SMg
    refine zy rfl ?_ ?_<;>intro u6<;>try simp only[qs] at u6
    · have y2:=u6
      have i8:=D_getD z6 i;refine zkk (r5 (zc λ_ r4=>CW.block (zc λ_ r3=>?_)));refine CW.a2j [V,X] 17 rfl dZ λaN o9 p A=>?_;have f:=f.ta A;have k:=k.k0 A;have h:=h.k0 A;have B:=B.q8 A;have a:=a.q8 A;have d:=d.q8 A;have j:=j.q8 A;have d0:=f;have a5:=k;have x:=h;have d3:b3∉[V,X]:=a5j k a d;have I:d1∉[V,X]:=a5j h a d;have b4 : ∀ y∈[V,X],y∈([]:List Nat)\/w0.heap.size<=y:=λy F=>.inr (by simp only[List.mem_cons,List.not_mem_nil,or_false] at F;rcases F with rfl|rfl<;>omega);refine wh 0 rfl p (eF rfl) (wh 1 rfl p (λ_ t=>Ev.load (v:=.pointer (some ⟨V,0,none⟩)) rfl rfl ((x.dJ t I).at_ rfl)) (wh 2 rfl p (eF rfl) (wh 3 rfl p (λ_ t=>Ev.load (v:=.slice f5 ll.length e9) rfl rfl ((a5.dJ t d3).at_ rfl)) (wh 4 rfl p (eM rfl) (wh 5 rfl p (λ_ t=>Ev.ixR (i) rfl rfl (i9.q8 (d0.step t b4)) oO oO oT) (wh 6 rfl p (λ_ t=>Ev.load (v:=.float .f64 (ll.getD i 0)) rfl rfl ((i9.q8 (d0.step t b4)).f64 oO)) (wh 8 rfl p (eF rfl) (wh 9 rfl p (λ_ t=>Ev.load (v:=.pointer (some ⟨X,0,none⟩)) rfl rfl ((x.dJ t I).at_ rfl)) (wh 10 rfl p (eF rfl) (wh 11 rfl p (λ_ t=>Ev.load (v:=.slice f5 ll.length e9) rfl rfl ((a5.dJ t d3).at_ rfl)) (wh 12 rfl p (eM rfl) (wh 13 rfl p (λ_ t=>Ev.ixR (i) rfl rfl (i9.q8 (d0.step t b4)) oO oO oT) (wh 14 rfl p (λ_ t=>Ev.load (v:=.float .f64 (ll.getD i 0)) rfl rfl ((i9.q8 (d0.step t b4)).f64 oO)) ?_)))))))))))));refine WH.k7 7 rfl oR hasF22 rfl rfl (bsq V Sx (ll.getD i 0) _ a T.wf i8 (c5.q8 f)) λv w8 U=>?_;obtain ⟨e1,d5,rfl,a2,a1,o⟩:=aij (n:=1) (one_al ((ll.getD i 0))) U;have p:=p.step o (λy F=>.inl (by rw[List.mem_singleton.1 F];simp));have B:=B.drx J a o;have d:=d.other a o (d.neT a oD);have j:=j.gQ a o;have k:=k.gQ a o;have h:=h.gQ a o;have f:=f.step o (λy F=>.inr (by rw[List.mem_singleton.1 F];omega));have a:=a1;refine ⟨p,?_⟩;refine WH.k7 15 rfl oR hasF30 rfl rfl (c0j X Sx (ll.getD i 0) _ d T.wf i8 T.num (Gn.one i8).num) λv w9 U=>?_;obtain ⟨e2,f6,rfl,b2,a0,o⟩:=aij (n:=1) (one_al ((ll.getD i 0))) U;obtain ⟨rfl,rfl⟩:=a2.eq b2;have p:=p.step o (λy F=>.inl (by rw[List.mem_singleton.1 F];simp));have B:=B.dqj J d o;have a:=a.other d o (a.neT d oD)
      have j:=j.gQ d o;have k:=k.gQ d o;have h:=h.gQ d o;have f:=f.step o (λy F=>.inr (by rw[List.mem_singleton.1 F];omega));have d:=a0;obtain ⟨b0,b1⟩:=a2.gn T (Gn.one i8) Y;refine ⟨p,?_⟩;refine wh 16 rfl p (λ_ _=>Ev.neq rfl rfl) ?_;rw[decide_eq_false oS];refine WH.done oR (o9 _ _ _ ?_);refine r3 ?_;refine CW.mQ rfl ?_;refine zkk (r4 (zS λ_ o8=>zm rfl ?_));(first|refine zi rfl rfl ?_|refine zo rfl rfl ?_);refine za rfl (zz (o8 ?_));refine ⟨rfl,(i+1,d5),?_,?_,?_⟩
      · exact SLp
      · exact ⟨by dsimp only;omega,B,a,d,b0,b1,k,h,j,f⟩
      show ll.length-(i+1)<ll.length-i;omega
    refine CW.exit ?_;refine r7 (Sr λ_ r2=>za rfl (zz (r2 ?_)));refine zr (zr1 rfl rfl ?_);exact ⟨rfl,⟨_,_,B.close J a d T Y,.inr ⟨by rw[List.length_set],Nat.le_succ _,Z⟩⟩,f,j⟩
  refine Sr λ_ r1=>zq rfl rfl (za rfl (zz (r1 ?_)));refine zy rfl ?_ ?_<;>intro z0<;>try simp only[qs] at z0
  · refine zc λ_ l7=>?_
    refine CW.cQ 12 rfl dZ λaM l3 p A=>?_;have f:=f.ta A;have k:=k.k0 A;have h:=h.k0 A;have j:=j.q8 A;have Q:=Q.q8 A;have a:=a.q8 A;have d:=d.q8 A;have a5:=k;have x:=h;obtain ⟨⟨vl,vc,vw,ws,O,G,a9,a8,e4⟩,hs,b8⟩:=id Q;obtain ⟨al,cl,rfl⟩:=G.sl;obtain ⟨gl,rfl⟩:=G.some_ d4;have e8:=Q;obtain ⟨m,hm⟩ : ∃ m,m=atP ow L.length:=⟨_,rfl⟩;have x8:m<L.length:=by rw[hm];exact atP_lt _ d4
    obtain ⟨⟨f0,f1,S2⟩,c4⟩ : ∃ g,L[m]?=some g:=⟨_,List.getElem?_eq_getElem x8⟩;refine wh 0 rfl p (eM rfl) (wh 1 rfl p (eP rfl) (wh 2 rfl p (eF rfl) (wh 3 rfl p (λ_ t=>Ev.load (v:=.slice (some ⟨gl,0,none⟩) L.length cl) rfl rfl ((O.q8 t).at_ rfl)) (wh 4 rfl p (eM rfl) (wh 5 rfl p (eF rfl) (wh 6 rfl p (λ_ t=>Ev.load rfl rfl ((a5.q8 t).at_ rfl)) ?_))))));refine WH.c4q 7 10 oR ?_ ?_
    · refine ahj.call 7 rfl hasF29 rfl rfl (at_spec lo bp L C st ow _ (e8.q8 p) t7 d4 oO) λv cA U=>?_;obtain ⟨rfl,o⟩:=U;rw[<- hm];have f:=f.ta o;have k:=k.k0 o;have h:=h.k0 o;have j:=j.q8 o;have a:=a.q8 o;have d:=d.q8 o;have p:=p.trans o;refine ⟨p,?_⟩;refine wh 8 rfl p (λ_ _=>Ev.indexAddr rfl rfl oO oO) (wh 9 rfl p (λ_ t=>Ev.awj (cs:=[.pointer (some ⟨f0,0,none⟩),.pointer (some ⟨f1,0,none⟩)]) rfl rfl rfl ((G.q8 t).pair c4)) ?_);refine WH.wQ (l:=[.pointer none,.pointer none]) 10 rfl oR p rfl rfl λn1 n8 H M a3 m9=>?_;have c8:=Nat.le_trans p.size a3;have p:=m9;have e6:=Nat.le_trans f.size a3;have f:=f.ta M;have j:=j.q8 M;have a:=a.q8 M;have d:=d.q8 M;have g3:=zdd k.lt a3;have k:=k.k0 M;have e5:=zdd h.lt a3;have h:=h.k0 M;refine WH.sX 11 rfl oR p c8 rfl rfl rfl ao H oS rfl λbB c1 c7 p=>?_;(try simp only[qt] at c1);have f:=f.s1 c7;have k:=k.kq c7;have h:=h.kq c7;have j:=j.q9 H c7 an;have a:=a.q9 H c7 an;have d:=d.q9 H c7 an;have H:=c1;refine WH.done oR (l3 _ _ _ ?_);have Q:=e8.q8 p;refine l7 (zc λ_ l6=>?_);refine CW.a2j [V,X] 12 rfl dZ λaL l2 p A=>?_;have f:=f.ta A;have k:=k.k0 A;have h:=h.k0 A;have H:=H.k0 A;have j:=j.q8 A;have a:=a.q8 A;have d:=d.q8 A;have x:=h;have R:=H;have Q:=Q.q8 A;have B:=Q.hole n;have d3:b3∉[V,X]:=a5j k a d;have I:d1∉[V,X]:=a5j h a d;have b4 : ∀ y∈[V,X],y∈([]:List Nat)\/w0.heap.size<=y:=λy F=>.inr (by simp only[List.mem_cons,List.not_mem_nil,or_false] at F;rcases F with rfl|rfl<;>omega);have a6:n1∉[V,X]:=a5j H a d;refine wh 0 rfl p (eF rfl) ?_
      by_cases hmn:m=n
      · subst hmn;rw[J] at c4;cases c4;refine wh 1 rfl p (λ_ t=>Ev.load (v:=.pointer (some ⟨V,0,none⟩)) rfl rfl ((x.dJ t I).at_ rfl)) (wh 2 rfl p (eF rfl) (wh 3 rfl p (λ_ t=>Ev.load (v:=.pointer (some ⟨V,0,none⟩)) rfl rfl ((R.dJ t a6).at_ rfl)) (wh 5 rfl p (eF rfl) (wh 6 rfl p (λ_ t=>Ev.load (v:=.pointer (some ⟨X,0,none⟩)) rfl rfl ((x.dJ t I).at_ rfl)) (wh 7 rfl p (eF rfl) (wh 8 rfl p (λ_ t=>Ev.load (v:=.pointer (some ⟨X,0,none⟩)) rfl rfl ((R.dJ t a6).at_ rfl)) ?_))))));refine WH.k7 4 rfl oR hasF31 rfl rfl (a6q V S _ a T.wf (c5.q8 f)) λv bY U=>?_;obtain ⟨e1,d5,rfl,a2,a1,o⟩:=aij rfl U;have p:=p.step o (λy F=>.inl (by rw[List.mem_singleton.1 F];simp));have B:=B.drx J a o;have d:=d.other a o (d.neT a oD);have j:=j.gQ a o;have k:=k.gQ a o;have h:=h.gQ a o;have f:=f.step o (λy F=>.inr (by rw[List.mem_singleton.1 F];omega));have a:=a1;refine ⟨p,?_⟩;refine WH.k7 9 rfl oR hasF32 rfl rfl (aqj X S _ d T.wf T.num) λv w12 U=>?_;obtain ⟨e2,f6,rfl,b2,a0,o⟩:=aij rfl U;obtain ⟨rfl,rfl⟩:=a2.eq b2;have p:=p.step o (λy F=>.inl (by rw[List.mem_singleton.1 F];simp));have B:=B.dqj J d o;have a:=a.other d o (a.neT d oD);have j:=j.gQ d o;have k:=k.gQ d o;have h:=h.gQ d o;have f:=f.step o (λy F=>.inr (by rw[List.mem_singleton.1 F];omega));have d:=a0;obtain ⟨b0,b1⟩:=a2.gn T T Y;refine ⟨p,?_⟩;refine wh 10 rfl p (λ_ _=>Ev.eql rfl rfl) ?_;rw[decide_eq_true (rfl)];refine wh 11 rfl p (eA rfl) ?_;refine WH.done oR (l2 _ _ _ ?_);refine l6 ?_;refine zr (zr1 rfl rfl ?_);exact ⟨rfl,⟨_,_,B.close J a d b0 b1,.inr ⟨by rw[List.length_set],Nat.le_succ _,Z⟩⟩,f,j⟩
      obtain ⟨i1,c2,c3,-⟩:=B.sh m _ c4 hmn;have b7:=d6q B.nb J c4 hmn;dsimp only at i1 c2 c3 b7;refine wh 1 rfl p (λ_ t=>Ev.load (v:=.pointer (some ⟨V,0,none⟩)) rfl rfl ((x.dJ t I).at_ rfl)) (wh 2 rfl p (eF rfl) (wh 3 rfl p (λ_ t=>Ev.load (v:=.pointer (some ⟨f0,0,none⟩)) rfl rfl ((R.dJ t a6).at_ rfl)) (wh 5 rfl p (eF rfl) (wh 6 rfl p (λ_ t=>Ev.load (v:=.pointer (some ⟨X,0,none⟩)) rfl rfl ((x.dJ t I).at_ rfl)) (wh 7 rfl p (eF rfl) (wh 8 rfl p (λ_ t=>Ev.load (v:=.pointer (some ⟨f1,0,none⟩)) rfl rfl ((R.dJ t a6).at_ rfl)) ?_))))));refine WH.k7 4 rfl oR hasF31 rfl rfl (bsx V f0 S S2 _ a T.wf i1 c3.wf (λz=>b7.1 z.symm) (c5.q8 f)) λv bW U=>?_;obtain ⟨e1,d5,rfl,a2,a1,o⟩:=aij rfl U;have p:=p.step o (λy F=>.inl (by rw[List.mem_singleton.1 F];simp));have B:=B.drx J a o;have d:=d.other a o (d.neT a oD);have j:=j.gQ a o;have k:=k.gQ a o;have h:=h.gQ a o;have f:=f.step o (λy F=>.inr (by rw[List.mem_singleton.1 F];omega));have c2:=c2.other a o (c2.neT a oD);have a:=a1;refine ⟨p,?_⟩;refine WH.k7 9 rfl oR hasF32 rfl rfl (bjq X f1 S S2 _ d T.wf c2 c3.wf (λz=>b7.2 z.symm) T.num c3.num) λv bV U=>?_;obtain ⟨e2,f6,rfl,b2,a0,o⟩:=aij rfl U;obtain ⟨rfl,rfl⟩:=a2.eq b2;have p:=p.step o (λy F=>.inl (by rw[List.mem_singleton.1 F];simp));have B:=B.dqj J d o;have a:=a.other d o (a.neT d oD);have j:=j.gQ d o;have k:=k.gQ d o;have h:=h.gQ d o;have f:=f.step o (λy F=>.inr (by rw[List.mem_singleton.1 F];omega));have d:=a0;obtain ⟨b0,b1⟩:=a2.gn T c3 Y;refine ⟨p,?_⟩;refine wh 10 rfl p (λ_ _=>Ev.eql rfl rfl) ?_;rw[decide_eq_true (rfl)];refine wh 11 rfl p (eA rfl) ?_;refine WH.done oR (l2 _ _ _ ?_);refine l6 ?_;refine zr (zr1 rfl rfl ?_);exact ⟨rfl,⟨_,_,B.close J a d b0 b1,.inr ⟨by rw[List.length_set],Nat.le_succ _,Z⟩⟩,f,j⟩
    refine ahj.wQ (l:=[.pointer none,.pointer none]) 10 rfl p rfl rfl λn1 n8 H M a3 m9=>?_;have c8:=Nat.le_trans p.size a3;have p:=m9;have e6:=Nat.le_trans f.size a3;have f:=f.ta M;have j:=j.q8 M;have a:=a.q8 M;have d:=d.q8 M;have g3:=zdd k.lt a3;have k:=k.k0 M;have e5:=zdd h.lt a3;have h:=h.k0 M;refine WH.k7 7 rfl oR hasF29 rfl rfl (at_spec lo bp L C st ow _ (e8.q8 p) t7 d4 oO) λv bU U=>?_;obtain ⟨rfl,o⟩:=U;rw[<- hm];have f:=f.ta o;have k:=k.k0 o;have h:=h.k0 o;have H:=H.k0 o;have j:=j.q8 o;have a:=a.q8 o;have d:=d.q8 o;have p:=p.trans o;refine ⟨p,?_⟩;refine wh 8 rfl p (λ_ _=>Ev.indexAddr rfl rfl oO oO) (wh 9 rfl p (λ_ t=>Ev.awj (cs:=[.pointer (some ⟨f0,0,none⟩),.pointer (some ⟨f1,0,none⟩)]) rfl rfl rfl ((G.q8 t).pair c4)) ?_);refine WH.sX 11 rfl oR p c8 rfl rfl rfl ao H oS rfl λaY c1 c6 p=>?_;(try simp only[qt] at c1);have f:=f.s1 c6;have k:=k.kq c6;have h:=h.kq c6;have j:=j.q9 H c6 an;have a:=a.q9 H c6 an;have d:=d.q9 H c6 an;have H:=c1;refine WH.done oR (l3 _ _ _ ?_);have Q:=e8.q8 p;refine l7 (zc λ_ l5=>?_);refine CW.a2j [V,X] 12 rfl dZ λaK l1 p A=>?_;have f:=f.ta A;have k:=k.k0 A;have h:=h.k0 A;have H:=H.k0 A;have j:=j.q8 A;have a:=a.q8 A;have d:=d.q8 A;have x:=h;have R:=H;have Q:=Q.q8 A;have B:=Q.hole n;have d3:b3∉[V,X]:=a5j k a d;have I:d1∉[V,X]:=a5j h a d;have b4 : ∀ y∈[V,X],y∈([]:List Nat)\/w0.heap.size<=y:=λy F=>.inr (by simp only[List.mem_cons,List.not_mem_nil,or_false] at F;rcases F with rfl|rfl<;>omega);have a6:n1∉[V,X]:=a5j H a d;refine wh 0 rfl p (eF rfl) ?_
    by_cases hmn:m=n
    · subst hmn;rw[J] at c4;cases c4;refine wh 1 rfl p (λ_ t=>Ev.load (v:=.pointer (some ⟨V,0,none⟩)) rfl rfl ((x.dJ t I).at_ rfl)) (wh 2 rfl p (eF rfl) (wh 3 rfl p (λ_ t=>Ev.load (v:=.pointer (some ⟨V,0,none⟩)) rfl rfl ((R.dJ t a6).at_ rfl)) (wh 5 rfl p (eF rfl) (wh 6 rfl p (λ_ t=>Ev.load (v:=.pointer (some ⟨X,0,none⟩)) rfl rfl ((x.dJ t I).at_ rfl)) (wh 7 rfl p (eF rfl) (wh 8 rfl p (λ_ t=>Ev.load (v:=.pointer (some ⟨X,0,none⟩)) rfl rfl ((R.dJ t a6).at_ rfl)) ?_))))));refine WH.k7 4 rfl oR hasF31 rfl rfl (a6q V S _ a T.wf (c5.q8 f)) λv bT U=>?_;obtain ⟨e1,d5,rfl,a2,a1,o⟩:=aij rfl U;have p:=p.step o (λy F=>.inl (by rw[List.mem_singleton.1 F];simp));have B:=B.drx J a o;have d:=d.other a o (d.neT a oD);have j:=j.gQ a o;have k:=k.gQ a o;have h:=h.gQ a o;have f:=f.step o (λy F=>.inr (by rw[List.mem_singleton.1 F];omega));have a:=a1;refine ⟨p,?_⟩;refine WH.k7 9 rfl oR hasF32 rfl rfl (aqj X S _ d T.wf T.num) λv bQ U=>?_;obtain ⟨e2,f6,rfl,b2,a0,o⟩:=aij rfl U;obtain ⟨rfl,rfl⟩:=a2.eq b2;have p:=p.step o (λy F=>.inl (by rw[List.mem_singleton.1 F];simp));have B:=B.dqj J d o;have a:=a.other d o (a.neT d oD);have j:=j.gQ d o;have k:=k.gQ d o;have h:=h.gQ d o;have f:=f.step o (λy F=>.inr (by rw[List.mem_singleton.1 F];omega));have d:=a0;obtain ⟨b0,b1⟩:=a2.gn T T Y;refine ⟨p,?_⟩;refine wh 10 rfl p (λ_ _=>Ev.eql rfl rfl) ?_;rw[decide_eq_true (rfl)];refine wh 11 rfl p (eA rfl) ?_;refine WH.done oR (l1 _ _ _ ?_);refine l5 ?_;refine zr (zr1 rfl rfl ?_);exact ⟨rfl,⟨_,_,B.close J a d b0 b1,.inr ⟨by rw[List.length_set],Nat.le_succ _,Z⟩⟩,f,j⟩
    obtain ⟨i1,c2,c3,-⟩:=B.sh m _ c4 hmn;have b7:=d6q B.nb J c4 hmn;dsimp only at i1 c2 c3 b7;refine wh 1 rfl p (λ_ t=>Ev.load (v:=.pointer (some ⟨V,0,none⟩)) rfl rfl ((x.dJ t I).at_ rfl)) (wh 2 rfl p (eF rfl) (wh 3 rfl p (λ_ t=>Ev.load (v:=.pointer (some ⟨f0,0,none⟩)) rfl rfl ((R.dJ t a6).at_ rfl)) (wh 5 rfl p (eF rfl) (wh 6 rfl p (λ_ t=>Ev.load (v:=.pointer (some ⟨X,0,none⟩)) rfl rfl ((x.dJ t I).at_ rfl)) (wh 7 rfl p (eF rfl) (wh 8 rfl p (λ_ t=>Ev.load (v:=.pointer (some ⟨f1,0,none⟩)) rfl rfl ((R.dJ t a6).at_ rfl)) ?_))))));refine WH.k7 4 rfl oR hasF31 rfl rfl (bsx V f0 S S2 _ a T.wf i1 c3.wf (λz=>b7.1 z.symm) (c5.q8 f)) λv bP U=>?_;obtain ⟨e1,d5,rfl,a2,a1,o⟩:=aij rfl U;have p:=p.step o (λy F=>.inl (by rw[List.mem_singleton.1 F];simp));have B:=B.drx J a o;have d:=d.other a o (d.neT a oD);have j:=j.gQ a o;have k:=k.gQ a o;have h:=h.gQ a o;have f:=f.step o (λy F=>.inr (by rw[List.mem_singleton.1 F];omega));have c2:=c2.other a o (c2.neT a oD);have a:=a1;refine ⟨p,?_⟩;refine WH.k7 9 rfl oR hasF32 rfl rfl (bjq X f1 S S2 _ d T.wf c2 c3.wf (λz=>b7.2 z.symm) T.num c3.num) λv bO U=>?_;obtain ⟨e2,f6,rfl,b2,a0,o⟩:=aij rfl U;obtain ⟨rfl,rfl⟩:=a2.eq b2;have p:=p.step o (λy F=>.inl (by rw[List.mem_singleton.1 F];simp));have B:=B.dqj J d o;have a:=a.other d o (a.neT d oD);have j:=j.gQ d o;have k:=k.gQ d o;have h:=h.gQ d o;have f:=f.step o (λy F=>.inr (by rw[List.mem_singleton.1 F];omega));have d:=a0;obtain ⟨b0,b1⟩:=a2.gn T c3 Y;refine ⟨p,?_⟩;refine wh 10 rfl p (λ_ _=>Ev.eql rfl rfl) ?_;rw[decide_eq_true (rfl)];refine wh 11 rfl p (eA rfl) ?_;refine WH.done oR (l1 _ _ _ ?_);refine l5 ?_;refine zr (zr1 rfl rfl ?_);exact ⟨rfl,⟨_,_,B.close J a d b0 b1,.inr ⟨by rw[List.length_set],Nat.le_succ _,Z⟩⟩,f,j⟩
  refine Sr λ_ r0=>zq rfl rfl (za rfl (zz (r0 ?_)));refine zy rfl ?_ ?_<;>intro u9<;>try simp only[qs] at u9
  · refine zc λ_ q7=>Sr λ_ q6=>za rfl (zz (q6 (CW.block ?_)));refine CW.loop (S:=λg:Nat×Sh=>[(3,.pointer (some ⟨b3,0,none⟩)),(11,.pointer (some ⟨d1,0,none⟩)),(14,.int .i64 (g.1:Int))]) (Inv:=KSl lo bp n V X b3 d1 L C st [.int .i64 ok,.int .i64 oo,.int .i64 ow,.float .f64 ox,.slice f5 ll.length e9,.int .i64 om,.int .i64 f9,.int .i64 e3,.int .i64 pn,.int .i64 pi,.slice ab bs.length cb] w0 w 50) (mu:=λg=>50-g.1) ((0,S)) ?_ ?_ ?_
    · exact ⟨Nat.zero_le _,Q.hole n,a,d,T,Y,k,h,j,f⟩
    · exact SLp
    rintro ⟨i,Sx⟩ wr ⟨hi,B,a,d,T,Y,k,h,j,f⟩;dsimp only at hi a d T Y;dsimp only;refine zc λ_ q5=>?_;refine CW.oX 171 (decide ((i:Int)<e3/\i<50)) ?_ ?_
    · refine zS λ_ l0=>zm rfl (zf rfl (zl k rfl rfl (zL rfl rfl (zm rfl ?_))));refine zb ?_ ?_<;>intro u3<;>try simp only[qs] at u3
      · refine zw rfl (zm rfl (zw rfl (zL rfl rfl (zt rfl rfl (zz (l0 ?_))))));refine ⟨rfl,rfl,j0.g8 rfl ?_ ?_⟩
        · exact AqE
        exact SMg
      refine zv rfl (zv rfl (ze rfl rfl (zz (l0 ?_))));refine ⟨rfl,rfl,j0.g8 rfl ?_ ?_⟩
      · exact AqE
      exact SMg
    refine zy rfl ?_ ?_<;>intro m0<;>try simp only[qs] at m0
    · have y2:=m0
      refine zkk (q5 (zc λ_ q4=>CW.block (zc λ_ q3=>?_)));refine CW.a2j [V,X] 11 rfl dZ λaI o7 p A=>?_;have f:=f.ta A;have k:=k.k0 A;have h:=h.k0 A;have B:=B.q8 A;have a:=a.q8 A;have d:=d.q8 A;have j:=j.q8 A;have x:=h;have d3:b3∉[V,X]:=a5j k a d;have I:d1∉[V,X]:=a5j h a d;have b4 : ∀ y∈[V,X],y∈([]:List Nat)\/w0.heap.size<=y:=λy F=>.inr (by simp only[List.mem_cons,List.not_mem_nil,or_false] at F;rcases F with rfl|rfl<;>omega);refine wh 0 rfl p (eF rfl) (wh 1 rfl p (λ_ t=>Ev.load (v:=.pointer (some ⟨V,0,none⟩)) rfl rfl ((x.dJ t I).at_ rfl)) (wh 2 rfl p (eF rfl) (wh 3 rfl p (λ_ t=>Ev.load (v:=.pointer (some ⟨V,0,none⟩)) rfl rfl ((x.dJ t I).at_ rfl)) (wh 5 rfl p (eF rfl) (wh 6 rfl p (λ_ t=>Ev.load (v:=.pointer (some ⟨X,0,none⟩)) rfl rfl ((x.dJ t I).at_ rfl)) (wh 7 rfl p (eF rfl) (wh 8 rfl p (λ_ t=>Ev.load (v:=.pointer (some ⟨X,0,none⟩)) rfl rfl ((x.dJ t I).at_ rfl)) ?_)))))));refine WH.k7 4 rfl oR hasF31 rfl rfl (a6q V Sx _ a T.wf (c5.q8 f)) λv bN U=>?_;obtain ⟨e1,d5,rfl,a2,a1,o⟩:=aij rfl U;have p:=p.step o (λy F=>.inl (by rw[List.mem_singleton.1 F];simp));have B:=B.drx J a o;have d:=d.other a o (d.neT a oD);have j:=j.gQ a o;have k:=k.gQ a o;have h:=h.gQ a o;have f:=f.step o (λy F=>.inr (by rw[List.mem_singleton.1 F];omega));have a:=a1;refine ⟨p,?_⟩;refine WH.k7 9 rfl oR hasF32 rfl rfl (aqj X Sx _ d T.wf T.num) λv bM U=>?_;obtain ⟨e2,f6,rfl,b2,a0,o⟩:=aij rfl U;obtain ⟨rfl,rfl⟩:=a2.eq b2;have p:=p.step o (λy F=>.inl (by rw[List.mem_singleton.1 F];simp));have B:=B.dqj J d o;have a:=a.other d o (a.neT d oD);have j:=j.gQ d o;have k:=k.gQ d o;have h:=h.gQ d o;have f:=f.step o (λy F=>.inr (by rw[List.mem_singleton.1 F];omega));have d:=a0;obtain ⟨b0,b1⟩:=a2.gn T T Y;refine ⟨p,?_⟩;refine wh 10 rfl p (λ_ _=>Ev.neq rfl rfl) ?_;rw[decide_eq_false oS];refine WH.done oR (o7 _ _ _ ?_);refine q3 ?_;refine CW.mQ rfl ?_;refine zkk (q4 (zS λ_ o6=>zm rfl ?_));(first|refine zi rfl rfl ?_|refine zo rfl rfl ?_);refine za rfl (zz (o6 ?_));refine ⟨rfl,(i+1,d5),?_,?_,?_⟩
      · exact SLp
      · exact ⟨by dsimp only;omega,B,a,d,b0,b1,k,h,j,f⟩
      show 50-(i+1)<50-i;omega
    refine CW.exit ?_;refine q7 (Sr λ_ q2=>za rfl (zz (q2 ?_)));refine zr (zr1 rfl rfl ?_);exact ⟨rfl,⟨_,_,B.close J a d T Y,.inr ⟨by rw[List.length_set],Nat.le_succ _,Z⟩⟩,f,j⟩
  refine Sr λ_ q1=>zq rfl rfl (za rfl (zz (q1 ?_)));refine zy rfl ?_ ?_<;>intro u7<;>try simp only[qs] at u7
  · refine Sr λ_ q0=>zf rfl (zl h rfl rfl ?_);refine WL.call hasF11 rfl rfl (avj V S _ a T.wf T.ex) λv bL U=>?_
    obtain ⟨y5,o⟩:=U;obtain ⟨v4,v2,rfl,u5,k1,v5⟩:=y5.bij;have f:=f.ta o;have j:=j.q8 o;have Q:=Q.q8 o;refine WL.call hasF27 rfl rfl (cox v4 (ahx S) v2 _ (c5.q8 f) k1 (encS_B8 S) (by have:=encS_len T.ex;omega)) λv bK U=>?_;obtain ⟨⟨pv,e,rfl,i2⟩,o⟩:=U;have aE:=Q.s;have aW:=Q.lt;rcases i2 with ⟨S9,bt,k4,rfl,rfl,z7,y4⟩|⟨k4,-⟩
    rotate_left
    · rw[T.dec Y] at k4;cases k4
    obtain rfl:S=S9:=Option.some.inj ((T.dec Y).symm.trans k4);have f:=f.ta o;have j:=j.q8 o;have Q:=Q.q8 o;refine zm rfl (zx rfl rfl (zx rfl rfl (zx rfl rfl (za rfl (za rfl (za rfl (zz (q0 (zc λ_ p9=>Sr λ_ p8=>zm rfl ?_)))))))));refine WL.ev (Ev.a8q rfl rfl) rfl ?_;refine zz (p8 ?_);refine CW.nJ rfl ?_;obtain ⟨⟨vl,vc,vw,ws,O,G,a9,a8,e4⟩,hs,b8⟩:=id Q;obtain ⟨al,cl,rfl⟩:=G.sl;obtain ⟨gl,rfl⟩:=G.some_ d4;refine zR λ_ o5=>?_;refine zm rfl (zP rfl (zf rfl ?_));refine WL.ev (Ev.load (v:=.slice (some ⟨gl,0,none⟩) L.length cl) rfl rfl (O.at_ rfl)) rfl ?_;refine zm rfl (zm rfl ?_);refine WL.ev (Ev.indexAddr rfl rfl oO oO) rfl ?_;refine zf rfl ?_;refine WL.storePQ (u:=.pointer (some ⟨bt,0,none⟩)) rfl rfl rfl rfl G (by rw[pairC_len];omega) λws l9 m5=>?_;rw[show 0+((n:Nat):Int).toNat*2+0=n*2 by omega] at l9;have aT:=G.ge (b:=gl) rfl;have Q:=PlM.again aE hs b8 O G a9 a8 e4 J z7 y4 oO m5 l9;have f:=f.step m5 (λy F=>.inr (by rw[List.mem_singleton.1 F];omega));have j:=j.vJ (v:=.slice (some ⟨gl,0,none⟩) L.length cl) G m5;refine WL.nil (o5 _ _ _ (p9 ?_));refine Sr λ_ p7=>zm rfl (zm rfl (zw rfl (zm rfl (zw rfl (zq rfl rfl ?_)))));rw[decide_eq_true (rfl)];refine zt rfl rfl (zm rfl (zw rfl (zm rfl (zw rfl ?_))));refine WL.ev (Ev.a8q rfl rfl) rfl ?_;refine zt rfl rfl (za rfl (zz (p7 ?_)));refine zr (zr1 rfl rfl ?_);exact ⟨rfl,⟨_,_,Q,.inr ⟨by rw[List.length_set],Nat.le_succ _,Z⟩⟩,f,j⟩
  refine zkk (s4 (Sr λ_ p6=>zm rfl (zg h rfl (zg k rfl ?_))));refine WL.call hasF9 rfl rfl (cgj lo bp L C st V X S ok oo ow om f9 e3 pn pi ox (.slice f5 ll.length e9) (.slice ab bs.length cb) w0 _ c5 Q (List.mem_of_getElem? J) f m4 aC rfl rfl) λv bI U=>?_;obtain ⟨rfl,⟨vv,z8⟩,u4,hk⟩:=U;refine za rfl (zz (p6 ?_));refine zr (zr1 rfl rfl ?_);exact ⟨rfl,⟨_,_,z8,.inr ⟨rfl,by simp,Z⟩⟩,u4,j.trans hk.kq⟩
structure OpV where
  k:Int
  o:Int
  t:Int
  m:Int
  e:Int
  n:Int
  p:Int
  q:Int
  x:Nat
  vl:Value
  vb:Value
  l:List Nat
  b:List Nat
instance:Inhabited OpV:=⟨⟨0,0,0,0,0,0,0,0,0,.int .i64 0,.int .i64 0,[],[]⟩⟩
def OpV.c(q:OpV):List Value:=[.int .i64 q.k,.int .i64 q.o,.int .i64 q.t,.float .f64 q.x,q.vl,.int .i64 q.m,.int .i64 q.e,.int .i64 q.n,.int .i64 q.p,.int .i64 q.q,q.vb]
structure OpV.ok(w:World)(q:OpV):Prop where
  l:NF w q.vl q.l
  b:BY w q.vb q.b
  o : -9223372036854775808<=q.o/\q.o<=9223372036854775807
  t : -9223372036854775808<=q.t/\q.t<=9223372036854775807
  x:q.x<18446744073709551616
def SCR(w:World)(v:Value)(Q:List OpV):Prop:=∃ a c,v = .slice a Q.length c/\(∀ i q,Q[i]?=some q->∃ ad,a=some ad/\RW w (some (ad.add (i*11))) q.c)/\∀ q∈Q,q.ok w
theorem StepR.len{ok:Int}{g:List Nat}{L a:List PS}{C d:List (Value×List Nat)}(h:StepR ok g L C a d)(e:L.length<=16):L.length<=a.length/\a.length<=16/\d.length<=C.length+1:=by
  rcases h with ⟨rfl,_,⟨rfl,_⟩|⟨b,r,S,rfl,h,_⟩⟩|⟨i,f,_⟩
  · exact ⟨Nat.le_refl _,e,Nat.le_succ _⟩
  · exact ⟨by rw[List.length_append];omega,by rw[List.length_append];simp only[List.length_cons,List.length_nil];omega,Nat.le_succ _⟩
  · exact ⟨by omega,by omega,f⟩
theorem RW.agg{w:World}{a:Addr}{cs:List Value}(h:RW w (some a) cs): ∀ j v,cs[j]?=some v->w.cell? (a.add j)=some v:=λj v hv=>by
  obtain ⟨ad',e,hc⟩:=h j v hv
  cases e;exact hc
namespace Sx
section
variable {P:Program} {n:Nat} {D:List Deferred} {s:Sl} {w:World} {ops:Array Oper} {K:KK} {rest:List Oper} {ty:TypeId} {pos:String} {af:Array Edge} {d:Nat} {x y:Operand}
theorem ev_app1{t e be:Nat}{de:TypeDesc}{sz d7:Nat}{z:Value}{v:Value}{lo m u0:Nat}{l:List Nat}{D:Addr}{c:Nat}[hT:aJ P t (.slice e) sz d7 z][hE:aJ P e de 1 be (.int .u8 0)]
    (hx:k6 s x=some v) (hy:k6 s y=some (.slice (some D) 1 c)) (h:PQ w e 1 lo v m (l.map u8v)) (d3:w.cell? D=some (u8v u0)) (b9:lo<=w.heap.size) (G:(m+1)*be<=140737488355328) (f8:m+1<=140737488355328) :
    ∃ v' w',Ev P s (.call ⟨.builtin .append,[x,y].toArray,#[t,t]⟩) ty w v' w'/\PQ w' e 1 lo v' (m+1) ((l++[u0]).map u8v)/\Chg v.ownBlock.toList w w'/\(∀ b,v'.ownBlock=some b->v.ownBlock=some b\/w.heap.size<=b)/\
      (∀ lo' u n l',PQ w e 1 lo' u n l'->(∀ b,u.ownBlock=some b->v.ownBlock=some b->n<=m)->PQ w' e 1 lo' u n l'):=by
  obtain ⟨i,hi,C,c4,c3⟩:=hE.inf
  have d5:m+1<=maxLen:=by unfold maxLen;omega
  have c5 : ∀ o:Obj,Chg v.ownBlock.toList w (w.drew.alloc o):=λo=>⟨rfl,rfl,rfl,by simp,λk hk _=>heap_alloc_old w.drew _ hk⟩
  have I : ∀ o:Obj,Chg [] w (w.drew.alloc o):=λo=>⟨rfl,rfl,rfl,by simp,λk hk _=>heap_alloc_old w.drew _ hk⟩
  have r : ∀ j q,[u8v u0][j]?=some q->w.cell? (D.add j)=some q:=λj q p=>by
    match j,p with
    | 0,p=>cases p;rw[show D.add 0=D by unfold Addr.add;simp];exact d3
    | j+1,p=>cases p
  have R:[u8v u0].length=1*i.size:=by rw[C];rfl
  have Y : ∀ c∈(Value.int .u8 0).cells.toList,xX c=false:=λq p=>by simp[Value.cells] at p;subst p;rfl
  have Z : ∀ q∈l.map u8v++[u8v u0],xX q=false:=λq p=>by
    rcases List.mem_append.1 p with z|z
    · obtain ⟨i,_,rfl⟩:=List.mem_map.1 z;rfl
    · rw[List.mem_singleton.1 z];rfl
  have b0:(l++[u0]).map u8v=l.map u8v++[u8v u0]:=by rw[List.map_append];rfl
  rw[b0]
  rcases h with ⟨rfl,rfl,c1⟩|⟨g,f,d,rfl,a1,a2,a3,a4,a5,a6,a7,a8⟩
  · have B:=run_append_nil (P:=P) w t ty e i (.int .u8 0) hT.und hi c3 D 1 c [u8v u0] R r oD oD (by rw[c4];simp only[Nat.zero_add] at G;omega)
    refine ⟨_,_,λρ d' X af J F=>?_,ctq (cs:=l.map u8v++[u8v u0]) (m:=0+1) (by rfl) oD Y (by rw[c1];rfl) (grownCap_ge w 1 0 e) (grownCap_le_maxLen w 1 0 e oD) Z b9,c5 _,λb hb=>by cases hb;exact .inr (Nat.le_refl _),λlo' u n l' O _=>O.q8 (I _)⟩
    have A:=F x _ hx
    have V:=F y _ hy
    rw[c1]
    simp[execOp,resolve,invoke,builtin,A,V,B]
  · by_cases hroom:m+1<=f
    · have hf:=run_firstCells_some (P:=P) w i.size 1 D 1 c [u8v u0] R r
      have Q:=run_storeCells_at P g (0+m*i.size) e [u8v u0] 0 d w a2 (by rw[C];simp;omega) (λq p=>by rw[List.mem_singleton.1 p];rfl)
      simp only[Nat.add_zero,Nat.zero_add] at Q
      have B:(Builtin.append_ #[t,t] ty #[.slice (some ⟨g,0,none⟩) m f,.slice (some D) 1 c]).run P w =
          .ok (.slice (some ⟨g,0,none⟩) (m+1) f) (w.setRow g (d.toList.take (m*i.size)++[u8v u0]++d.toList.drop (m*i.size+[u8v u0].length)).toArray):=by
        simp only[List.length_cons,List.length_nil] at Q ⊢
        simp[Builtin.append_,run_underlying hT.und,sizeOf,typeInfo,hi,Builtin.lenOf,hroom,hf,Addr.add_lit,Q]
      rw[C] at B
      have T:Ev P s (.call ⟨.builtin .append,[x,y].toArray,#[t,t]⟩) ty w (.slice (some ⟨g,0,none⟩) (m+1) f) (w.setRow g (d.toList.take (m*1)++[u8v u0]++d.toList.drop (m*1+[u8v u0].length)).toArray):=λρ d' X af J F=>by
        have A:=F x _ hx
        have V:=F y _ hy
        simp only[execOp,resolve,invoke,builtin,A,V] at B ⊢
        simp[A,V,B,execOp,resolve,invoke,builtin]
      have H : ∀ q∈d.toList.take (m*1)++[u8v u0]++d.toList.drop (m*1+[u8v u0].length),xX q=false:=λq p=>by
        rcases List.mem_append.1 p with z|z
        · rcases List.mem_append.1 z with y|y
          · exact a8 q (List.mem_of_mem_take y)
          · rw[List.mem_singleton.1 y];rfl
        · exact a8 q (List.mem_of_mem_drop z)
      have a0:(d.toList.take (m*1)++[u8v u0]++d.toList.drop (m*1+[u8v u0].length)).length=d.size:=by
        simp only[List.length_append,List.length_take,List.length_drop,Array.length_toList,List.length_cons,List.length_nil]
        omega
      have c6:Chg [g] w (w.setRow g (d.toList.take (m*1)++[u8v u0]++d.toList.drop (m*1+[u8v u0].length)).toArray):=⟨rfl,rfl,rfl,by simp,λk _ hk=>setRow_other w g k _ (λe=>hk (by simp[e]))⟩
      refine ⟨_,_,T,.inr ⟨g,f,_,rfl,a1,setRow_heap w g d _ e _ a2,?_,hroom,a5,?_,?_,H⟩,c6,λb hb=>.inl hb,λlo' u n l' O d4=>?_⟩
      · rw[List.size_toArray,a0];omega
      · rw[List.length_append,a6];simp
      · rw[a7,Nat.add_mul]
        have:m*1+1*1=(l.map u8v++[u8v u0]).length:=by rw[List.length_append,a6];simp
        rw[this]
        exact List.take_left
      · rcases O with O|⟨J,M,c8,rfl,b1,b2,b3,b4,b5,b6,b7,b8⟩
        · exact .inl O
        · by_cases hgg:J=g
          · subst hgg
            rw[a2] at b2
            cases b2
            have f6:=d4 J rfl rfl
            refine .inr ⟨J,M,_,rfl,b1,setRow_heap w J d _ e _ a2,?_,b4,b5,b6,?_,H⟩
            · rw[List.size_toArray,a0];exact b3
            · show (d.toList.take (m*1)++[u8v u0]++d.toList.drop (m*1+[u8v u0].length)).take (n*1)=l'
              rw[List.append_assoc,List.take_append_of_le_length (by rw[List.length_take,Array.length_toList];omega),List.take_take,Nat.min_eq_left oO]
              exact b7
          · exact .inr ⟨J,M,c8,rfl,b1,c6.heap b2 (by simpa using hgg),b3,b4,b5,b6,b7,b8⟩
    · have a9:RW w (some ⟨g,0,none⟩) (l.map u8v):=by
        obtain ⟨a,c',A,_,B,_⟩:=PQ.row (lo:=lo) (.inr ⟨g,f,d,rfl,a1,a2,a3,a4,a5,a6,a7,a8⟩)
        cases A;exact B
      have B:=run_append_grow (P:=P) w t ty e i (.int .u8 0) hT.und hi c3 ⟨g,0,none⟩ m f (l.map u8v) (by rw[C];exact a6) (λj q p=>by
        obtain ⟨g2,A,U⟩:=a9 j q p
        cases A;exact U) D 1 c [u8v u0] R r oO oO (growslice_fits oO (by rw[c4];exact G))
      have T:Ev P s (.call ⟨.builtin .append,[x,y].toArray,#[t,t]⟩) ty w (.slice (some ⟨w.heap.size,0,none⟩) (m+1) (grownCap w (m+1) f e)) (w.drew.alloc (.cells ((l.map u8v++[u8v u0]).toArray++Builtin.zeroCells (Value.int .u8 0).cells (grownCap w (m+1) f e-(m+1))) e)):=λρ d' X af J F=>by
        have A:=F x _ hx
        have V:=F y _ hy
        have e3:(l.map u8v++[u8v u0]).toArray=(l.map u8v).toArray++[u8v u0].toArray:=by simp
        rw[e3]
        simp only[execOp,resolve,invoke,builtin,A,V] at B ⊢
        simp[A,V,B,execOp,resolve,invoke,builtin]
      refine ⟨_,_,T,ctq (by rfl) oD Y (by rw[List.length_append,a6];simp) (grownCap_ge w (m+1) f e) (grownCap_le_maxLen w (m+1) f e d5) Z b9,c5 _,λb hb=>by cases hb;exact .inr (Nat.le_refl _),λlo' u n l' O _=>O.q8 (I _)⟩
theorem WL.app1{t e o:Nat}{J:TypeDesc}{q j:Nat}{z:Value}{v:Value}{lo m u0:Nat}{l:List Nat}{p:Addr}{c:Nat}[hT:aJ P t (.slice e) q j z][hE:aJ P e J 1 o (.int .u8 0)]
    (A:k6 s x=some v) (r:k6 s y=some (.slice (some p) 1 c)) (h:PQ w e 1 lo v m (l.map u8v)) (f:w.cell? p=some (u8v u0)) (g:lo<=w.heap.size) (a:(m+1)*o<=140737488355328) (i:m+1<=140737488355328) (H:Nat.blt d n=true)
    (k : ∀ v' w',PQ w' e 1 lo v' (m+1) ((l++[u0]).map u8v)->Chg v.ownBlock.toList w w'->(∀ b,v'.ownBlock=some b->v.ownBlock=some b\/w.heap.size<=b)->(∀ lo' u n l',PQ w e 1 lo' u n l'->(∀ b,u.ownBlock=some b->v.ownBlock=some b->n<=m)->PQ w' e 1 lo' u n l')->WL P ops K rest n D ((d,v')::s) w') :
    WL P ops K (⟨some d,.call ⟨.builtin .append,[x,y].toArray,#[t,t]⟩,ty,pos,af,none⟩::rest) n D s w:=by
  obtain ⟨v',w',G,B,I,F,C⟩:=ev_app1 (P:=P) (s:=s) (ty:=ty) (t:=t) (hT:=hT) (hE:=hE) A r h f g a i
  exact WL.ev G H (k v' w' B I F C)
end
end Sx
structure OwM(lo bp K:Nat)(L:List PS)(vl vc vw:Value)(ws:List Value)(C0:List (Value×List Nat))(w:World)(C:List (Value×List Nat)):Prop where
  hbp:BK w bp 29 [vl,vc,vw]
  hql:PQ w 42 2 lo vl L.length (ajq L)
  hqc:PQ w 35 1 lo vc C.length (C.map λx=>x.1)
  hqw:PQ w 9 1 lo vw C.length ws
  s:PlS lo w L C
  lob:lo<=bp
  kc : ∀ b,vc.ownBlock=some b->b<K
  kd : ∀ x∈C,∀ b,x.1.ownBlock=some b->b<K
  sm:C.length=C0.length
section
variable {lo bp K:Nat} {L:List PS} {vl vc vw:Value} {ws:List Value} {C0 C:List (Value×List Nat)} {w w':World}
theorem OwM.q8(h:OwM lo bp K L vl vc vw ws C0 w C)(a:Chg [] w w'):OwM lo bp K L vl vc vw ws C0 w' C:=
  ⟨h.hbp.q8 a,h.hql.q8 a,h.hqc.q8 a,h.hqw.q8 a,h.s.q8 a,h.lob,h.kc,h.kd,h.sm⟩
theorem OwM.all{m:Nat}{e:Value}{A:List Value}(h:OwM lo bp K L vl vc vw ws C0 w C)(a:PQ w 35 1 K e m A)(d:Chg e.ownBlock.toList w w'):OwM lo bp K L vl vc vw ws C0 w' C:=
  ⟨a.bk d h.hbp oD,h.hql.other a d oD,h.hqc.dJ d (λb hb q=>by have:=a.ge (Option.mem_toList.1 hb);have:=h.kc b q;omega),h.hqw.other a d oD,⟨λg hg=>⟨(h.s.sh g hg).1.vJ a d oD,(h.s.sh g hg).2.1.vJ a d oD,(h.s.sh g hg).2.2⟩,h.s.nb,λx hx=>⟨(h.s.dat x hx).1.other a d oD,(h.s.dat x hx).2⟩,h.s.nd⟩,h.lob,h.kc,h.kd,h.sm⟩
theorem cjj{C:List (Value×List Nat)}{i:Nat}{v:Value}{l b:List Nat}(h:C[i]?=some (v,l)):(C.set i (v,b)).map (λx=>x.1)=C.map λx=>x.1:=by
  induction C generalizing i with
  | nil=>rfl
  | cons a C ih=>
    cases i with
    | zero=>cases h;rfl
    | succ i=>
      have e:=ih (i:=i) (by simpa using h)
      show a.1::(C.set i (v,b)).map (λx=>x.1)=a.1::C.map λx=>x.1
      rw[e]
theorem nd_fst{C d:List (Value×List Nat)}(h:C.Pairwise λx y=>∀ b,x.1.ownBlock=some b->y.1.ownBlock≠some b)(e:d.map (λx=>x.1)=C.map λx=>x.1):d.Pairwise λx y=>∀ b,x.1.ownBlock=some b->y.1.ownBlock≠some b:=by
  have a:(C.map λx=>x.1).Pairwise λu v=>∀ b,u.ownBlock=some b->v.ownBlock≠some b:=List.pairwise_map.2 h
  rw[<- e] at a
  exact List.pairwise_map.1 a
theorem nd_ne{C:List (Value×List Nat)}(h:C.Pairwise λx y=>∀ b,x.1.ownBlock=some b->y.1.ownBlock≠some b){i j:Nat}{x y:Value×List Nat}(m:C[i]?=some x)(l:C[j]?=some y)(a:i≠j){b:Nat}(f:x.1.ownBlock=some b):y.1.ownBlock≠some b:=by
  obtain ⟨k,rfl⟩:=List.getElem?_eq_some_iff.1 m
  obtain ⟨g,rfl⟩:=List.getElem?_eq_some_iff.1 l
  have d:=List.pairwise_iff_getElem.1 h
  rcases Nat.lt_or_gt_of_ne a with q|q
  · exact d i j k g q b f
  · exact λe=>d j i g k q b e f
theorem setC_mem{C:List (Value×List Nat)}{i:Nat}{d a:Value×List Nat}(f:a∈C.set i d):a=d\/∃ j,C[j]?=some a/\j≠i:=by
  obtain ⟨j,b⟩:=List.getElem?_of_mem f
  rw[List.getElem?_set] at b
  split at b
  · split at b
    · cases b;exact .inl rfl
    · cases b
  · exact .inr ⟨j,b,λe=>by simp_all⟩
theorem OwM.set{i k b g m c:Nat}{l:List Nat}(h:OwM lo bp K L vl vc vw ws C0 w C)(f:C[i]?=some (.slice (some ⟨g,0,none⟩) m c,l))(B:l.length=m)(u:Chg [g] w w')(n:b<256)
    (A:PQ w' 5 1 lo (.slice (some ⟨g,0,none⟩) m c) m ((l.map u8v).set k (u8v b))):OwM lo bp K L vl vc vw ws C0 w' (C.set i (.slice (some ⟨g,0,none⟩) m c,l.set k b)):=by
  have e:=(h.s.dat _ (List.mem_of_getElem? f)).1
  dsimp only at e
  have a:Chg (Value.slice (some ⟨g,0,none⟩) m c).ownBlock.toList w w':=u
  have v:=(h.s.dat _ (List.mem_of_getElem? f)).2
  refine ⟨e.bk a h.hbp oD,h.hql.other e a oD,?_,?_,⟨λg t=>⟨(h.s.sh g t).1.vJ e a oD,(h.s.sh g t).2.1.vJ e a oD,(h.s.sh g t).2.2⟩,h.s.nb,λx d=>?_,nd_fst h.s.nd (cjj f)⟩,h.lob,h.kc,λx d b n=>?_,by rw[List.length_set];exact h.sm⟩
  · rw[List.length_set,cjj f];exact h.hqc.other e a oD
  · rw[List.length_set];exact h.hqw.other e a oD
  · rcases setC_mem d with rfl|⟨j,r,o⟩
    · refine ⟨?_,λy p=>?_,by rw[List.length_set];exact v.2⟩
      · dsimp only;rw[List.length_set,B,List.map_set];exact A
      · rcases List.mem_or_eq_of_mem_set p with z|z
        · exact v.1 y z
        · rw[z];exact n
    · have p:=h.s.dat x (List.mem_of_getElem? r)
      exact ⟨p.1.dJ u (λb n q=>by rw[List.mem_singleton.1 n] at q;exact nd_ne h.s.nd r f o q rfl),p.2⟩
  · rcases setC_mem d with rfl|⟨j,r,o⟩
    · exact h.kd _ (List.mem_of_getElem? f) b n
    · exact h.kd _ (List.mem_of_getElem? r) b n
theorem OwM.app{a m:Nat}{i:Value}{cs:List Value}(h:OwM lo bp K L vl vc vw ws C0 w C)(d:PQ w 5 1 a i m cs)(e:Chg i.ownBlock.toList w w')(j : ∀ a u n l',PQ w 5 1 a u n l'->(∀ b,u.ownBlock=some b->i.ownBlock=some b->n<=m)->PQ w' 5 1 a u n l')
    (f : ∀ x∈C,∀ b,x.1.ownBlock=some b->i.ownBlock=some b->x.2.length<=m):OwM lo bp K L vl vc vw ws C0 w' C:=
  ⟨d.bk e h.hbp oD,h.hql.other d e oD,h.hqc.other d e oD,h.hqw.other d e oD,⟨λg hg=>⟨(h.s.sh g hg).1.vJ d e oD,(h.s.sh g hg).2.1.vJ d e oD,(h.s.sh g hg).2.2⟩,h.s.nb,λx hxm=>⟨j _ _ _ _ (h.s.dat x hxm).1 (f x hxm),(h.s.dat x hxm).2⟩,h.s.nd⟩,h.lob,h.kc,h.kd,h.sm⟩
def Ent(w:World)(lo K i:Nat)(C:List (Value×List Nat))(A:List Value):Prop:=∀ j u,A[j]?=some u->∃ n,PQ w 5 1 lo u n ((List.replicate n (j/20%256)).map u8v)/\∀ b,u.ownBlock=some b->K<=b\/∃ i' x,i'<i/\C[i']?=some x/\x.1.ownBlock=some b
theorem Ent.nil{i:Nat}: Ent w lo K i C []:=λj u h=>by cases h
theorem Ent.fst{i:Nat}{A:List Value}{a:List (Value×List Nat)}(h:Ent w lo K i C A)(e:a.map (λx=>x.1)=C.map λx=>x.1):Ent w lo K i a A:=λj u hu=>by
  obtain ⟨n,h1,h2⟩:=h j u hu
  refine ⟨n,h1,λb hb=>(h2 b hb).imp id λ⟨i',x,q1,q2,q3⟩=>?_⟩
  have q4:(C.map λx=>x.1)[i']?=some x.1:=by rw[List.getElem?_map,q2];rfl
  rw[<- e,List.getElem?_map] at q4
  cases z:a[i']? with
  | none=>rw[z] at q4;cases q4
  | some y=>
    rw[z] at q4
    have q5:y.1=x.1:=Option.some.inj q4
    exact ⟨i',y,q1,z,by rw[q5];exact q3⟩
theorem Ent.set{i g:Nat}{A:List Value}{m c:Nat}{l:List Nat}(h:Ent w lo K i C A)(a:OwM lo bp K L vl vc vw ws C0 w C)(d:C[i]?=some (.slice (some ⟨g,0,none⟩) m c,l))(e:Chg [g] w w'):Ent w' lo K i C A:=λj u hu=>by
  obtain ⟨n,h1,h2⟩:=h j u hu
  refine ⟨n,h1.dJ e (λb hb q=>?_),h2⟩
  rw[List.mem_singleton.1 hb] at q
  rcases h2 g q with z|⟨i',x,z1,z2,z3⟩
  · have:=a.kd _ (List.mem_of_getElem? d) g rfl
    omega
  · exact nd_ne a.s.nd z2 d oO z3 rfl
def cyj(w:World)(lo K i:Nat)(C:List (Value×List Nat))(A:List Value)(vx:Value)(m:Nat):Prop:=∀ j u,A[j]?=some u->∃ n,PQ w 5 1 lo u n ((List.replicate n (j/20%256)).map u8v)/\(∀ b,u.ownBlock=some b->K<=b\/∃ i' x,i'<i/\C[i']?=some x/\x.1.ownBlock=some b)/\∀ b,u.ownBlock=some b->vx.ownBlock=some b->n<=m
theorem Ent.start{i m:Nat}{A:List Value}{x:Value×List Nat}(h:Ent w lo K i C A)(a:OwM lo bp K L vl vc vw ws C0 w C)(d:C[i]?=some x):cyj w lo K (i+1) C A x.1 m:=λj u hu=>by
  obtain ⟨n,h1,h2⟩:=h j u hu
  refine ⟨n,h1,λb hb=>(h2 b hb).imp id λ⟨i',x,q1,q2,q3⟩=>⟨i',x,by omega,q2,q3⟩,λb hb q=>?_⟩
  exfalso
  rcases h2 b hb with z|⟨i',y,z1,z2,z3⟩
  · have:=a.kd _ (List.mem_of_getElem? d) b q
    omega
  · exact nd_ne a.s.nd z2 d oO z3 q
theorem cyj.done{i m:Nat}{A:List Value}{a:Value}(h:cyj w lo K i C A a m):Ent w lo K i C A:=λj u hu=>by
  obtain ⟨n,h1,h2,_⟩:=h j u hu
  exact ⟨n,h1,h2⟩
theorem cyj.q8{i m:Nat}{A:List Value}{a:Value}(h:cyj w lo K i C A a m)(b:Chg [] w w'):cyj w' lo K i C A a m:=λj u hu=>by
  obtain ⟨n,h1,h2⟩:=h j u hu
  exact ⟨n,h1.q8 b,h2⟩
theorem cyj.push{i m p:Nat}{A:List Value}{g a:Value}(h:cyj w lo K i C A a m)(f:PQ w 35 1 K g p A)(k:Chg g.ownBlock.toList w w')(l:PQ w 5 1 lo a m ((List.replicate m (p/20%256)).map u8v))(d : ∀ b,a.ownBlock=some b->K<=b\/∃ i' x,i'<i/\C[i']?=some x/\x.1.ownBlock=some b):cyj w' lo K i C (A++[a]) a m:=λj u hu=>by
  have hl:A.length=p:=by obtain ⟨_,_,_,_,_,q⟩:=f.row;omega
  rw[List.getElem?_append] at hu
  split at hu
  · obtain ⟨n,h1,h2⟩:=h j u hu
    exact ⟨n,h1.other f k oD,h2⟩
  · rename_i hj
    have e:j=p:=by
      rcases Nat.lt_or_ge (j-A.length) 1 with z|z
      · omega
      · rw[List.getElem?_eq_none (by simpa using z)] at hu;cases hu
    subst e
    rw[hl,Nat.sub_self] at hu
    cases hu
    exact ⟨m,l.other f k oD,d,λb _ _=>Nat.le_refl _⟩
theorem cyj.app{i m:Nat}{A:List Value}{d a:Value}(h:cyj w lo K i C A d m)(f : ∀ b,a.ownBlock=some b->d.ownBlock=some b\/w.heap.size<=b)(e : ∀ lo' u n l',PQ w 5 1 lo' u n l'->(∀ b,u.ownBlock=some b->d.ownBlock=some b->n<=m)->PQ w' 5 1 lo' u n l'):cyj w' lo K i C A a (m+1):=λj u hu=>by
  obtain ⟨n,h1,h2,h3⟩:=h j u hu
  refine ⟨n,e _ _ _ _ h1 h3,h2,λb hb q=>?_⟩
  rcases f b q with z|z
  · have:=h3 b hb z;omega
  · have:=h1.lt hb;omega
end
structure O2(lo bp K:Nat)(L:List PS)(vl vc vw:Value)(ws:List Value)(C0:List (Value×List Nat))(w0:World)(g:Nat×Value×List Value×List (Value×List Nat))(w:World):Prop where
  hi:g.1<=C0.length
  o:OwM lo bp K L vl vc vw ws C0 w g.2.2.2
  q:PQ w 35 1 K g.2.1 (20*g.1) g.2.2.1
  e:Ent w lo K g.1 g.2.2.2 g.2.2.1
  ch:Chg [] w0 w
  sz:K<=w.heap.size
structure O3(lo bp K:Nat)(L:List PS)(vl vc vw:Value)(ws:List Value)(C0:List (Value×List Nat))(w0:World)(i:Nat)(va:Value)(A:List Value)(C:List (Value×List Nat))(v:Value)(l:List Nat)(k:Nat)(w:World):Prop where
  hi:k<=l.length
  o:OwM lo bp K L vl vc vw ws C0 w (C.set i (v,List.replicate k (i%256)++l.drop k))
  q:PQ w 35 1 K va (20*i) A
  e:Ent w lo K i C A
  ch:Chg [] w0 w
  sz:K<=w.heap.size
structure O4(lo bp K:Nat)(L:List PS)(vl vc vw:Value)(ws:List Value)(C0:List (Value×List Nat))(w0:World)(i n:Nat)(C:List (Value×List Nat))(g:Nat×Value×List Value×Value)(w:World):Prop where
  hi:g.1<=20
  o:OwM lo bp K L vl vc vw ws C0 w C
  q:PQ w 35 1 K g.2.1 (20*i+g.1) g.2.2.1
  x:PQ w 5 1 lo g.2.2.2 (n+g.1) ((List.replicate (n+g.1) (i%256)).map u8v)
  xo : ∀ b,g.2.2.2.ownBlock=some b->K<=b\/∃ x,C[i]?=some x/\x.1.ownBlock=some b
  e:cyj w lo K (i+1) C g.2.2.1 g.2.2.2 (n+g.1)
  ch:Chg [] w0 w
  sz:K<=w.heap.size
theorem pad_set(k b:Nat)(l:List Nat)(h:k<l.length):(List.replicate k b++l.drop k).set k b=List.replicate (k+1) b++l.drop (k+1):=by
  rw[List.set_append,if_neg (by rw[List.length_replicate];omega),List.length_replicate,Nat.sub_self]
  obtain ⟨x,r,e⟩ : ∃ x r,l.drop k=x::r:=by
    cases z:l.drop k with
    | nil=>have:=congrArg List.length z;simp at this;omega
    | cons x r=>exact ⟨x,r,rfl⟩
  have a:l.drop (k+1)=r:=by rw[<- List.drop_drop,e];rfl
  rw[e,a,List.replicate_succ']
  simp
end
section
open Go Sx Wd Fl
structure SzK(K:Nat)(w:World):Prop where
  h:K<=w.heap.size
theorem SzK.any{K:Nat}{T:List Nat}{w w':World}(h:SzK K w)(a:Chg T w w'):SzK K w':=⟨Nat.le_trans h.h a.size⟩
theorem SzK.q8{K:Nat}{w w':World}(h:SzK K w)(a:Chg [] w w'):SzK K w':=h.any a
theorem YB.c0{w:World}{b x:Nat}{E:TypeId}{l:List Nat}(h:YB w b E (x::l)):w.cell? ⟨b,0,none⟩=some (u8v x):=by
  obtain ⟨d,e,a⟩:=h.row 0 _ rfl
  cases e
  simpa[Addr.add] using a
theorem PQ.at1{w:World}{e:TypeId}{lo g m b c:Nat}{cs:List Value}(h:PQ w e 1 lo (.slice (some ⟨g,0,none⟩) m c) b cs){i:Nat}{u:Value}(d:cs[i]?=some u):w.cell? ⟨g,0+((i:Nat):Int).toNat*1,none⟩=some u:=by
  obtain ⟨a,o,n,_,f,_⟩:=h.row
  cases n
  obtain ⟨p,l,j⟩:=f i u d
  cases l
  have k:(⟨g,0,none⟩:Addr).add i=⟨g,0+((i:Nat):Int).toNat*1,none⟩:=by
    unfold Addr.add;split<;>simp_all
  rw[<- k];exact j
theorem PQ.at8{w:World}{e:TypeId}{lo g m a c n b:Nat}(h:PQ w e 1 lo (.slice (some ⟨g,0,none⟩) m c) a ((List.replicate n b).map u8v)){i:Nat}(d:i<n):w.cell? ⟨g,i,none⟩=some (u8v b):=by
  have:=h.at1 (i:=i) (u:=u8v b) (by rw[List.getElem?_map,List.getElem?_replicate,if_pos d];rfl)
  simpa using this
theorem PQ.mle{w:World}{e:TypeId}{b lo m:Nat}{v:Value}{cs:List Value}(h:PQ w e b lo v m cs):m<=9223372036854775807:=by
  rcases h with ⟨_,rfl,_⟩|⟨g,f,d,_,_,_,_,i,a,_⟩
  · exact Nat.zero_le _
  · unfold maxLen at a;omega
theorem setC_self{C:List (Value×List Nat)}{i:Nat}{x:Value×List Nat}(h:C[i]?=some x):C.set i x=C:=by
  obtain ⟨a,rfl⟩:=List.getElem?_eq_some_iff.1 h
  exact List.set_getElem_self a
theorem fst_at{C:List (Value×List Nat)}{i:Nat}{x:Value×List Nat}(h:C[i]?=some x):(C.map λx=>x.1)[i]?=some x.1:=by rw[List.getElem?_map,h];rfl
theorem str_at{C:List (Value×List Nat)}{i:Nat}{x:Value×List Nat}(h:C[i]?=some x):(C.map λx=>Value.string (bA x.2))[i]?=some (.string (bA x.2)):=by rw[List.getElem?_map,h];rfl
theorem owned_spec(lo R:Nat)(L:List PS)(C:List (Value×List Nat))(w0 w:World)(hP:PlM lo w R L C True)(f:Chg [] w0 w)(g5:w0.heap.size<=lo)(o4:C.length<=2000):Ret Tryz.prog 10 [.pointer (some ⟨R,0,none⟩)] w λu w'=>u = .bool true/\(∃ C',PlM lo w' R L C' False/\C'.length=C.length)/\Chg [] w0 w':=by
  have l7:=hP;have l8:w0.heap.size<=w.heap.size:=f.size;obtain ⟨⟨vl,vc,vw,ws,hbp,hql,hqc,hqw,k2⟩,hs,g4⟩:=hP;obtain ⟨ac,X,rfl⟩:=hqc.sl;obtain ⟨aw,cw,rfl⟩:=hqw.sl;obtain rfl:=k2 trivial;have d:OwM lo R w.heap.size L vl (.slice ac C.length X) (.slice aw C.length cw) (C.map λx=>.string (bA x.2)) C w C:=⟨hbp,hql,hqc,hqw,hs,g4,λb Q=>hqc.lt Q,λx F b Q=>(hs.dat x F).1.lt Q,rfl⟩;have a:SzK w.heap.size w:=⟨Nat.le_refl _⟩;refine zE1 Tryz.func10 rfl ?_;refine Sr λ_ k1=>za rfl (zz (k1 (Sr λ_ i9=>za rfl (zz (i9 (zc λ_ i8=>Sr λ_ i7=>za rfl (zz (i7 (CW.block ?_)))))))));refine CW.loop (S:=λi:Nat=>[(0,.pointer (some ⟨R,0,none⟩)),(3,.slice none 0 0),(4,.int .i64 (i:Int))]) (Inv:=λi w1=>i<=C.length/\OwM lo R w.heap.size L vl (.slice ac C.length X) (.slice aw C.length cw) (C.map λx=>.string (bA x.2)) C w1 C/\SzK w.heap.size w1/\Chg [] w0 w1) (mu:=λi=>C.length-i) (0) ?_ ?_ ?_
  · exact ⟨Nat.zero_le _,d,a,f⟩
  · exact SLp
  rintro i wr ⟨hi,d,a,f⟩;refine zc λ_ i6=>Sr λ_ i5=>zm rfl (zm rfl (zP rfl (zf rfl ?_)));refine WL.ev (Ev.load (v:=.slice ac C.length X) rfl rfl (d.hbp.at_ rfl)) rfl ?_;refine zn rfl (zL rfl rfl (zz (i5 ?_)));refine zy rfl ?_ ?_<;>intro h4<;>try simp only[qs] at h4
  · have a9:i<C.length:=by have:=h4;omega
    obtain ⟨gc,rfl⟩:=d.hqc.some_ oO;obtain ⟨gw,rfl⟩:=d.hqw.some_ oO;obtain ⟨⟨v1,n⟩,r⟩ : ∃ x,C[i]?=some x:=⟨_,List.getElem?_eq_getElem a9⟩;refine zkk (i6 (zc λ_ f9=>CW.block (zc λ_ f8=>?_)));refine CW.jQ dZ oR λm1 d0 b1=>?_;have f:=f.ta b1;have d:=d.q8 b1;have a:=a.q8 b1;obtain ⟨V,O,rfl,b2,g2,-⟩:=(show PQ _ _ 1 lo v1 n.length (n.map u8v) from (d.s.dat _ (List.mem_of_getElem? r)).1).bij;refine ym rfl (yP rfl (yf rfl ?_));refine WS.ev (Ev.load (v:=.slice (some ⟨gc,0,none⟩) C.length X) rfl rfl (d.hbp.at_ rfl)) rfl ?_;refine ym rfl ?_;refine WS.ev (Ev.indexAddr rfl rfl oO oO) rfl ?_;refine WS.ev (Ev.load (v:=.slice V n.length O) rfl rfl (d.hqc.at1 (fst_at r))) rfl ?_;refine WS.ev (Ev.toStr (l:=n) rfl rfl g2) rfl ?_;refine ym rfl (yP rfl (yf rfl ?_));refine WS.ev (Ev.load (v:=.slice (some ⟨gw,0,none⟩) C.length cw) rfl rfl (d.hbp.at_ rfl)) rfl ?_;refine ym rfl ?_;refine WS.ev (Ev.indexAddr rfl rfl oO oO) rfl ?_;refine WS.ev (Ev.load (v:=.string (bA n)) rfl rfl (d.hqw.at1 (str_at r))) rfl ?_;refine WS.ev (Ev.neqStr rfl rfl) rfl ?_;rw[decide_eq_false (λz=>z rfl)];refine WS.nil (d0 _ _ ?_);refine f8 ?_;refine CW.mQ rfl ?_;refine zkk (f9 (zS λ_ c9=>zm rfl ?_));(first|refine zi rfl rfl ?_|refine zo rfl rfl ?_);refine za rfl (zz (c9 ?_));refine ⟨rfl,i+1,?_,?_,?_⟩
    · exact SLp
    · exact ⟨by omega,d,a,f⟩
    show C.length-(i+1)<C.length-i;omega
  refine CW.exit ?_;refine i8 (zc λ_ f7=>Sr λ_ f6=>za rfl (zz (f6 (CW.block ?_))));refine CW.loop (S:=λg:Nat×Value×List Value×List (Value×List Nat)=>[(0,.pointer (some ⟨R,0,none⟩)),(3,g.2.1),(5,.int .i64 (g.1:Int))]) (Inv:=O2 lo R w.heap.size L vl (.slice ac C.length X) (.slice aw C.length cw) (C.map λx=>.string (bA x.2)) C w0) (mu:=λg=>C.length-g.1) ((0,.slice none 0 0,[],C)) ?_ ?_ ?_
  · exact ⟨Nat.zero_le _,d,PQ.nil,Ent.nil,f,a.h⟩
  · exact SLp
  rintro ⟨i,va,A,C1⟩ wr ⟨hi,d,o,hE,f,a⟩;dsimp only at hi d o hE;dsimp only;have a:SzK w.heap.size wr:=⟨a⟩;refine zc λ_ f5=>Sr λ_ f4=>zm rfl (zm rfl (zP rfl (zf rfl ?_)));refine WL.ev (Ev.load (v:=.slice ac C.length X) rfl rfl (d.hbp.at_ rfl)) rfl ?_;refine zn rfl (zL rfl rfl (zz (f4 ?_)));refine zy rfl ?_ ?_<;>intro h3<;>try simp only[qs] at h3
  · have a9:i<C.length:=by have:=h3;omega
    obtain ⟨gc,rfl⟩:=(show PQ _ _ 1 lo (.slice ac C.length X) C.length _ from (by have q:=d.hqc;rw[d.sm] at q;exact q)).some_ oO;obtain ⟨⟨v1,n⟩,r⟩ : ∃ x,C1[i]?=some x:=⟨_,List.getElem?_eq_getElem (by rw[d.sm];exact a9)⟩;obtain ⟨V,O,rfl,b2,g2,-⟩:=(show PQ _ _ 1 lo v1 n.length (n.map u8v) from (d.s.dat _ (List.mem_of_getElem? r)).1).bij;have l0:=(d.s.dat _ (List.mem_of_getElem? r)).2.2;dsimp only at l0;have b3:i%256<256:=Nat.mod_lt _ oD;refine zkk (f5 (zc λ_ f3=>CW.block (Sr λ_ f2=>zm rfl (zP rfl (zf rfl ?_)))));refine WL.ev (Ev.load (v:=.slice (some ⟨gc,0,none⟩) C.length X) rfl rfl (d.hbp.at_ rfl)) rfl ?_;refine zm rfl ?_;refine WL.ev (Ev.indexAddr rfl rfl oO oO) rfl ?_;refine WL.ev (Ev.load (v:=.slice V n.length O) rfl rfl (d.hqc.at1 (fst_at r))) rfl ?_;refine za rfl (zz (f2 (zc λ_ f1=>Sr λ_ f0=>za rfl (zz (f0 (CW.block ?_))))));refine CW.loop (S:=λk:Nat=>[(0,.pointer (some ⟨R,0,none⟩)),(3,va),(5,.int .i64 (i:Int)),(6,.slice V n.length O),(7,.int .i64 (k:Int))]) (Inv:=O3 lo R w.heap.size L vl (.slice (some ⟨gc,0,none⟩) C.length X) (.slice aw C.length cw) (C.map λx=>.string (bA x.2)) C w0 i va A C1 (.slice V n.length O) n) (mu:=λk=>n.length-k) (0) ?_ ?_ ?_
    · exact ⟨Nat.zero_le _,by rw[List.replicate_zero,List.drop_zero,List.nil_append,setC_self r];exact d,o,hE,f,a.h⟩
    · exact SLp
    rintro k wr ⟨hk,d,o,hE,f,a⟩;have a:SzK w.heap.size wr:=⟨a⟩;have G:(C1.set i (.slice V n.length O,List.replicate k (i%256)++n.drop k))[i]?=some (.slice V n.length O,List.replicate k (i%256)++n.drop k):=by rw[List.getElem?_set_self (List.getElem?_eq_some_iff.1 r).1]
    have a8:(List.replicate k (i%256)++n.drop k).length=n.length:=by rw[List.length_append,List.length_replicate,List.length_drop];omega
    refine zc λ_ e9=>Sr λ_ e8=>zm rfl (zm rfl (zn rfl (zL rfl rfl (zz (e8 ?_)))));refine zy rfl ?_ ?_<;>intro h2<;>try simp only[qs] at h2
    · have l3:k<n.length:=by have:=h2;omega
      have M:=(d.s.dat _ (List.mem_of_getElem? G)).1;dsimp only at M;rw[a8] at M;obtain ⟨gx,rfl⟩:=M.some_ oO;refine zkk (e9 (zc λ_ e7=>CW.block ?_));refine zR λ_ c8=>?_;refine zm rfl (zm rfl (zm rfl ?_));refine WL.ev (Ev.coq rfl rfl) rfl ?_;refine WL.ev (Ev.ixB (k) rfl rfl rfl oO) rfl ?_;refine WL.storePQ (u:=u8v (i%256)) rfl rfl rfl rfl M (by rw[List.length_map,a8];omega) λn3 k5 U=>?_;have Z:=d.set (k:=k) G a8 U b3 k5;rw[List.set_set,pad_set _ _ _ l3] at Z;have hE:=((hE.fst (cjj r)).set d G U).fst (cjj r).symm;have o:=o.other M (v':=.slice (some ⟨gx,0,none⟩) n.length O) U oD;have f:=M.frame (v:=.slice (some ⟨gx,0,none⟩) n.length O) U f g5;have a:=a.any U;have d:=Z;refine WL.nil (c8 _ _ _ (e7 ?_));refine zS λ_ c7=>zm rfl ?_;(first|refine zi rfl rfl ?_|refine zo rfl rfl ?_);refine za rfl (zz (c7 ?_));refine ⟨rfl,k+1,?_,?_,?_⟩
      · exact SLp
      · exact ⟨by omega,d,o,hE,f,a.h⟩
      show n.length-(k+1)<n.length-k;omega
    have l4:k=n.length:=by omega
    subst l4;rw[List.drop_length,List.append_nil] at d G;have a7:=(d.s.dat _ (List.mem_of_getElem? G)).1;dsimp only at a7;rw[List.length_replicate] at a7;refine CW.exit ?_;refine f1 (Sr λ_ e6=>za rfl (zz (e6 (CW.block ?_))));refine CW.loop (S:=λg:Nat×Value×List Value×Value=>[(0,.pointer (some ⟨R,0,none⟩)),(3,g.2.1),(5,.int .i64 (i:Int)),(6,g.2.2.2),(8,.int .i64 (g.1:Int))]) (Inv:=O4 lo R w.heap.size L vl (.slice (some ⟨gc,0,none⟩) C.length X) (.slice aw C.length cw) (C.map λx=>.string (bA x.2)) C w0 i n.length (C1.set i (.slice V n.length O,List.replicate n.length (i%256)))) (mu:=λg=>20-g.1) ((0,va,A,.slice V n.length O)) ?_ ?_ ?_
    · exact ⟨Nat.zero_le _,d,o,a7,λb Q=>.inr ⟨_,G,Q⟩,(hE.fst (cjj r)).start d G,f,a.h⟩
    · exact SLp
    rintro ⟨t,va,A,vx⟩ wr ⟨ht,d,o,F,J,D,f,a⟩;dsimp only at ht d o F J D;dsimp only;have a:SzK w.heap.size wr:=⟨a⟩;obtain ⟨ax,cx,rfl⟩:=F.sl;refine zc λ_ e5=>Sr λ_ e4=>zm rfl (zL rfl rfl (zz (e4 ?_)));refine zy rfl ?_ ?_<;>intro h1<;>try simp only[qs] at h1
    · have m2:t<20:=by have:=h1;omega
      refine zkk (e5 (zc λ_ e3=>CW.block (Sr λ_ e2=>zm rfl (zm rfl ?_))));refine WL.buildSlice (m:=1) (cs:=[.slice ax (n.length+t) cx]) oD oD rfl oR rfl λm0 n6 B=>?_;have h6:=B.at_;have f:=f.trans (Chg.any B.chg);have d:=d.q8 B.chg;have o:=o.q8 B.chg;have F:=F.q8 B.chg;have D:=D.q8 B.chg;have a:=a.q8 B.chg;refine WL.appQ (lo:=w.heap.size) (news:=[.slice ax (n.length+t) cx]) (by rfl) oD (by intro c hc;change c∈[_] at hc;rw[List.mem_singleton.1 hc];rfl) rfl rfl o rfl (Sx.BK.news (show BK _ m0 35 [.slice ax (n.length+t) cx] from h6)) (by intro q o;rw[List.mem_singleton.1 o];rfl) (by intro q o;rw[List.mem_singleton.1 o];rfl) a.h oO oD rfl λi3 n5 g3 H m5=>?_;have D:=D.push o H (by rw[show (20*i+t)/20=i by omega];exact F) (λb Q=>(J b Q).imp id λ⟨x,q1,q2⟩=>⟨i,x,Nat.lt_succ_self _,q1,q2⟩);have d:=d.all o H;have F:=F.other o H oD;have f:=o.frame H f l8;have a:=a.any H;have o:=g3;refine za rfl (zz (e2 ?_));refine zR λ_ c6=>?_;refine zm rfl (zm rfl ?_);refine WL.ev (Ev.coq rfl rfl) rfl ?_;refine WL.buildSlice (m:=1) (cs:=[u8v ((i%256))]) oD oD rfl oR rfl λl9 i2 T=>?_;have p:=T.chg;have b0:=T.ge;have h5:YB i2 l9 _ [(i%256)]:=T.at_;have b5:=Nat.le_trans f.size b0;have f:=f.ta p;have d:=d.q8 p;have o:=o.q8 p;have F:=F.q8 p;have D:=D.q8 p;have a:=a.q8 p;refine WL.app1 (u0:=i%256) (l:=List.replicate (n.length+t) (i%256)) rfl rfl F h5.c0 (by have:=a.h;have:=l7.lt;omega) oO oO rfl λc1 n4 g1 I a3 a2=>?_;have Z:=d.app F I a2 (λx g0 b Q l6=>by
        obtain ⟨j,hj⟩:=List.getElem?_of_mem g0
        by_cases e:j=i
        · subst e;rw[G] at hj;cases hj;dsimp only;rw[List.length_replicate];omega
        exfalso
        rcases J b l6 with z|⟨y,z1,z2⟩
        · have:=d.kd x g0 b Q;omega
        exact nd_ne d.s.nd hj z1 e Q z2)
      have J : ∀ b,c1.ownBlock=some b->w.heap.size<=b\/∃ x,(C1.set i (.slice V n.length O,List.replicate n.length (i%256)))[i]?=some x/\x.1.ownBlock=some b:=λb Q=>by
        rcases a3 b Q with z|z
        · exact J b z
        exact .inl (Nat.le_trans a.h z)
      have D:=D.app a3 a2;have o:=o.other F I oD;have f:=F.frame I f g5;have a:=a.any I;have d:=Z;have F:=g1;rw[<- List.replicate_succ'] at F;refine za rfl ?_;refine WL.nil (c6 _ _ _ (e3 ?_));refine zS λ_ c5=>zm rfl ?_;(first|refine zi rfl rfl ?_|refine zo rfl rfl ?_);refine za rfl (zz (c5 ?_));refine ⟨rfl,(t+1,i3,A++[.slice ax (n.length+t) cx],c1),?_,?_,?_⟩
      · exact SLp
      · exact ⟨by dsimp only;omega,d,o,F,J,D,f,a.h⟩
      show 20-(t+1)<20-t;omega
    have k4:t=20:=by omega
    subst k4;refine CW.exit ?_;refine f3 (zS λ_ c4=>zm rfl ?_);(first|refine zi rfl rfl ?_|refine zo rfl rfl ?_);refine za rfl (zz (c4 ?_));refine ⟨rfl,(i+1,va,A,(C1.set i (.slice V n.length O,List.replicate n.length (i%256)))),?_,?_,?_⟩
    · exact SLp
    · exact ⟨by dsimp only;omega,d,o,D.done,f,a.h⟩
    show C.length-(i+1)<C.length-i;omega
  have l5:i=C.length:=by omega
  subst l5;obtain ⟨av,cv,rfl⟩:=o.sl;refine CW.exit ?_;refine f7 (zc λ_ e1=>Sr λ_ e0=>za rfl (zz (e0 (CW.block ?_))));refine CW.loop (S:=λj:Nat=>[(3,.slice av (20*C.length) cv),(9,.int .i64 (j:Int))]) (Inv:=λj w1=>j<=20*C.length/\wr=w1) (mu:=λj=>20*C.length-j) (0) ?_ ?_ ?_
  · exact ⟨Nat.zero_le _,rfl⟩
  · exact SLp
  rintro j _ ⟨hj,rfl⟩;refine zc λ_ d9=>Sr λ_ d8=>zm rfl (zm rfl (zn rfl (zL rfl rfl (zz (d8 ?_)))));refine zy rfl ?_ ?_<;>intro h0<;>try simp only[qs] at h0
  · have o3:j<20*C.length:=by have:=h0;omega
    have o5:A.length=20*C.length:=by obtain ⟨_,_,_,_,_,q⟩:=o.row;omega
    obtain ⟨u,hu⟩ : ∃ u,A[j]?=some u:=⟨_,List.getElem?_eq_getElem oO⟩;obtain ⟨nj,Y,-⟩:=hE j u hu;obtain ⟨aj,cj,rfl⟩:=Y.sl;obtain ⟨gv,rfl⟩:=o.some_ oO;refine zkk (d9 (zc λ_ d7=>CW.block (Sr λ_ d6=>za rfl (zz (d6 (CW.block ?_))))));refine CW.loop (S:=λk:Nat=>[(3,.slice (some ⟨gv,0,none⟩) (20*C.length) cv),(9,.int .i64 (j:Int)),(10,.int .i64 (k:Int))]) (Inv:=λk w1=>k<=nj/\wr=w1) (mu:=λk=>nj-k) (0) ?_ ?_ ?_
    · exact ⟨Nat.zero_le _,rfl⟩
    · exact SLp
    rintro k _ ⟨hk,rfl⟩;refine zc λ_ d5=>Sr λ_ d4=>zm rfl (zm rfl (zm rfl ?_));refine WL.ev (Ev.indexAddr rfl rfl oO oO) rfl ?_;refine WL.ev (Ev.load (v:=.slice aj nj cj) rfl rfl (o.at1 hu)) rfl ?_;refine zn rfl (zL rfl rfl (zz (d4 ?_)));refine zy rfl ?_ ?_<;>intro g9<;>try simp only[qs] at g9
    · have l2:k<nj:=by have:=g9;omega
      have o0:=Y.mle;obtain ⟨gj,rfl⟩:=Y.some_ oO;refine zkk (d5 (zc λ_ d3=>CW.block (Sr λ_ d2=>zm rfl (zm rfl ?_))));refine WL.ev (Ev.indexAddr rfl rfl oO oO) rfl ?_;refine WL.ev (Ev.load (v:=.slice (some ⟨gj,0,none⟩) nj cj) rfl rfl (o.at1 hu)) rfl ?_;refine zm rfl ?_;refine WL.ev (Ev.ixB (k) rfl rfl rfl oO) rfl ?_;refine WL.ev (Ev.load rfl rfl (Y.at8 l2)) rfl ?_;refine zm rfl ?_;refine WL.ev (Ev.b1x rfl rfl oO (by simp only[IntKind.max,IntKind.signed,IntKind.bits];omega) oO) rfl ?_;rw[show (j:Int)/20=((j/20:Nat):Int) by omega];refine WL.ev (Ev.coq rfl rfl) rfl ?_;refine zN rfl rfl ?_;rw[decide_eq_false (λz=>z rfl)];refine zz (d2 ?_);refine CW.mQ rfl ?_;refine zkk (d3 (zS λ_ c3=>zm rfl ?_));(first|refine zi rfl rfl ?_|refine zo rfl rfl ?_);refine za rfl (zz (c3 ?_));refine ⟨rfl,k+1,?_,?_,?_⟩
      · exact SLp
      · exact ⟨by omega,rfl⟩
      show nj-(k+1)<nj-k;omega
    refine CW.exit ?_;refine d7 (zS λ_ c2=>zm rfl ?_);(first|refine zi rfl rfl ?_|refine zo rfl rfl ?_);refine za rfl (zz (c2 ?_));refine ⟨rfl,j+1,?_,?_,?_⟩
    · exact SLp
    · exact ⟨by omega,rfl⟩
    show 20*C.length-(j+1)<20*C.length-j;omega
  refine CW.exit ?_;refine e1 (Sr λ_ d1=>za rfl (zz (d1 ?_)));refine zr (zr1 rfl rfl ?_);exact ⟨rfl,⟨C1,⟨⟨_,_,_,_,d.hbp,d.hql,d.hqc,d.hqw,λz=>z.elim⟩,d.s,d.lob⟩,d.sm⟩,f⟩
end
section
open Go Sx
namespace Sx
end Sx
end
section
open Go Sx Wd Fl
theorem nf_nil{w:World}: NF w (.slice none 0 0) []:=⟨⟨none,0,rfl,Nat.le_refl _,RW.nil⟩,λx hx=>(by cases hx),by decide⟩
theorem by_nil{w:World}: BY w (.slice none 0 0) []:=⟨none,0,rfl,RW.nil,Nat.le_refl _,λad e=>(by cases e),λx hx=>(by cases hx),by decide⟩
structure KPl(N b:Nat)(w0:World)(g:Nat×List PS×List (Value×List Nat))(w:World):Prop where
  hi:g.1<=N
  p:PlM w0.heap.size w b g.2.1 g.2.2 True
  l0:0<g.2.1.length
  l1:g.2.1.length<=16
  c:g.2.2.length<=g.1+1
  i1:g.1<=1000
  ch:Chg [] w0 w
structure KPl2(L:List PS)(b:Nat)(w0:World)(g:Nat×List (Value×List Nat))(w:World):Prop where
  hi:g.1<=L.length
  p:PlM w0.heap.size w b L g.2 True
  c:g.2.length<=1001+g.1
  ch:Chg [] w0 w
theorem c5x(v:Value)(Q:List OpV)(w:World)(M:GW w)(hs:SCR w v Q):Ret Tryz.prog 3 [v] w λu w'=>u = .bool true/\Chg [] w w':=by
 obtain ⟨a0,c0,rfl,hQ,e0⟩:=hs;have a:=crf w;refine zE1 Tryz.func3 rfl ?_;refine Sr λ_ c7=>za rfl (zz (c7 (Sr λ_ c6=>?_)));refine WL.call hasF7 rfl rfl (awake_spec _ (M.q8 a)) λv w1 G=>?_;obtain ⟨rfl,hC⟩:=G;have a:=a.ta hC;refine za rfl (zz (c6 ?_));refine Sq λ_ c5 _ c2=>?_;refine WL.ev (Ev.build (vs:=_) (cs:=[_,_,_]) rfl rfl) rfl ?_;refine zBh rfl rfl rfl a λf e7 b6 d9 d7 z a=>?_;refine za rfl ?_;refine WL.nil (c2 _ _ _ ?_);have h:PlM w.heap.size _ f [] [] True:=⟨⟨_,_,_,_,b6,PQ.nil,PQ.nil,PQ.nil,λ_=>rfl⟩,⟨λg M=>(by cases M),.nil,λx hx=>(by cases hx),.nil⟩,z⟩;refine c5 _ _ _ ?_;refine Sr λ_ c4=>zm rfl ?_;refine WL.ev (Ev.build (vs:=_) (cs:=[_,_,_,_,_,_,_,_,_,_,_]) rfl rfl) rfl ?_;refine WL.call hasF8 rfl rfl (d4j _ f [] [] True 1 0 0 0 0 0 0 0 0 (.slice none 0 0) (.slice none 0 0) [] [] w _ M h a (Nat.le_refl _) oD oD (.inl rfl) nf_nil by_nil oD oD oD) λv w2 G=>?_;obtain ⟨rfl,⟨L1,C1,e1,H⟩,b3,-⟩:=G;have a:=b3;have d3:=H.len oD;have e2:0<L1.length:=by
  rcases H with ⟨-,-,⟨-,hh,-⟩|⟨b,r,S,rfl,-⟩⟩|⟨-,-,hn⟩
  · exact absurd (hh rfl) oD
  · exact Nat.zero_lt_one
  exact absurd (.inl rfl) hn
 obtain ⟨-,s,e5⟩:=d3;simp only[List.length_nil] at e5;refine za rfl (zz (c4 (zc λ_ c3=>Sr λ_ b1=>zm rfl (zT rfl (zm rfl (zw rfl (zm rfl (zw rfl (zT rfl (ze rfl rfl (zz (b1 ?_))))))))))));refine CW.mQ rfl ?_;refine zkk (c3 (zc λ_ b0=>Sr λ_ a9=>za rfl (zz (a9 (CW.block ?_)))));refine CW.loop (S:=λg:Nat×List PS×List (Value×List Nat)=>[(0,.slice a0 Q.length c0),(3,.bool true),(4,.pointer (some ⟨f,0,none⟩)),(6,.int .i64 (g.1:Int))]) (Inv:=KPl Q.length f w) (mu:=λg=>Q.length-g.1) ((0,L1,C1)) ?_ ?_ ?_
 ·exact ⟨Nat.zero_le _,e1,e2,s,by dsimp only;omega,Nat.zero_le _,a⟩
 ·exact SLp
 rintro ⟨i,L,C⟩ wr ⟨hi,h,F,s,e4,d6,a⟩;dsimp only at hi h F s e4 d6;dsimp only;refine zc λ_ a8=>?_;refine CW.oX 31 (decide (i<Q.length/\i<1000)) ?_ ?_
 ·refine zS λ_ J=>zm rfl (zm rfl (zn rfl (zL rfl rfl (zm rfl ?_))));refine zb ?_ ?_<;>intro d8<;>try simp only[qs] at d8
  ·refine zw rfl (zm rfl (zw rfl (zL rfl rfl (zt rfl rfl (zz (J ?_))))));refine ⟨rfl,rfl,j0.g8 rfl ?_ ?_⟩
   ·exact AqE
   exact SMg
  refine zv rfl (zv rfl (ze rfl rfl (zz (J ?_))));refine ⟨rfl,rfl,j0.g8 rfl ?_ ?_⟩
  ·exact AqE
  exact SMg
 refine zy rfl ?_ ?_<;>intro b5<;>try simp only[qs] at b5
 ·have d5:=b5
  obtain ⟨q,hq⟩ : ∃ q,Q[i]?=some q:=⟨_,List.getElem?_eq_getElem d5.1⟩;obtain ⟨ad,rfl,d0⟩:=hQ i q hq;have A:=e0 q (List.mem_of_getElem? hq);refine zkk (a8 (zc λ_ a7=>CW.block (Sr λ_ a6=>zm rfl (zm rfl (zm rfl ?_)))));refine WL.ev (Ev.drj rfl rfl oO oO) rfl ?_;refine WL.ev (Ev.awj (cs:=q.c) rfl rfl rfl (RW.agg (d0.q8 a))) rfl ?_;refine WL.call hasF8 rfl rfl (d4j _ f L C True q.k q.o q.t q.m q.e q.n q.p q.q q.x q.vl q.vb q.l q.b w _ M h a (Nat.le_refl _) oO s (.inr (.inr F)) A.l A.b A.o A.t A.x) λv w3 G=>?_;obtain ⟨rfl,⟨L',C',D,H⟩,d,-⟩:=G;have a:=d;have h:=D;obtain ⟨f9,f8,g4⟩:=H.len s;refine za rfl (zz (a6 (Sr λ_ a5=>zm rfl (zT rfl (zz (a5 ?_))))));refine CW.mQ rfl ?_;refine zkk (a7 (zS λ_ R=>zm rfl ?_));(first|refine zi rfl rfl ?_|refine zo rfl rfl ?_);refine za rfl (zz (R ?_));refine ⟨rfl,(i+1,L',C'),?_,?_,?_⟩
  ·exact SLp
  ·exact ⟨by dsimp only;omega,h,by dsimp only;omega,by dsimp only;omega,by dsimp only;omega,by dsimp only;omega,a⟩
  show Q.length-(i+1)<Q.length-i;omega
 refine CW.exit ?_;refine b0 (zc λ_ a4=>Sr λ_ a3=>za rfl (zz (a3 (CW.block ?_))));refine CW.loop (S:=λg:Nat×List (Value×List Nat)=>[(4,.pointer (some ⟨f,0,none⟩)),(8,.int .i64 (g.1:Int))]) (Inv:=KPl2 L f w) (mu:=λg=>L.length-g.1) ((0,C)) ?_ ?_ ?_
 ·exact ⟨Nat.zero_le _,h,by dsimp only;omega,a⟩
 ·exact SLp
 rintro ⟨j,C⟩ wr ⟨hj,h,e3,a⟩;dsimp only at hj h e3;dsimp only;refine zc λ_ a2=>Sr λ_ a1=>?_;obtain ⟨⟨vl,vc,vw,ws,I,y,d2,d1,c8⟩,hs,b2⟩:=id h;obtain ⟨al,cl,rfl⟩:=y.sl;refine zm rfl (zm rfl (zP rfl (zf rfl ?_)));refine WL.ev (Ev.load (v:=.slice al L.length cl) rfl rfl (I.at_ rfl)) rfl ?_;refine zn rfl (zL rfl rfl (zz (a1 ?_)));refine zy rfl ?_ ?_<;>intro b4<;>try simp only[qs] at b4
 ·have d4:j<L.length:=by have:=b4;omega
  obtain ⟨gl,rfl⟩:=y.some_ F;obtain ⟨⟨bS,bR,S⟩,B⟩ : ∃ g,L[j]?=some g:=⟨_,List.getElem?_eq_getElem d4⟩;refine zkk (a2 (zc λ_ Z=>CW.block (Sr λ_ Y=>zm rfl (zm rfl (zP rfl (zf rfl ?_))))));refine WL.ev (Ev.load (v:=.slice (some ⟨gl,0,none⟩) L.length cl) rfl rfl (I.at_ rfl)) rfl ?_;refine zm rfl ?_;refine WL.ev (Ev.indexAddr rfl rfl oO oO) rfl ?_;refine WL.ev (Ev.awj (cs:=[.pointer (some ⟨bS,0,none⟩),.pointer (some ⟨bR,0,none⟩)]) rfl rfl rfl (y.pair (n:=j) B)) rfl ?_;refine WL.ev (Ev.build (vs:=_) (cs:=[_,_]) rfl rfl) rfl ?_;refine WL.ev (Ev.build (vs:=_) (cs:=[_,_,_,_,_,_,_,_,_,_,_]) rfl rfl) rfl ?_;refine WL.call hasF9 rfl rfl (cgj _ f L C True bS bR S 0 0 0 0 0 0 1 1 0 (.slice none 0 0) (.slice none 0 0) w _ M h (List.mem_of_getElem? B) a (Nat.le_refl _) oO rfl rfl) λv w4 G=>?_;obtain ⟨rfl,⟨v1,D⟩,d,-⟩:=G;have a:=d;obtain ⟨C2,h,h0⟩ : ∃ C2,PlM w.heap.size w4 f L C2 True/\C2.length=C.length+1:=⟨_,D,by simp⟩;refine za rfl (zz (Y (Sr λ_ X=>zm rfl (zT rfl (zz (X ?_))))));refine CW.mQ rfl ?_;refine zkk (Z (zS λ_ O=>zm rfl ?_));(first|refine zi rfl rfl ?_|refine zo rfl rfl ?_);refine za rfl (zz (O ?_));refine ⟨rfl,(j+1,C2),?_,?_,?_⟩
  ·exact SLp
  ·exact ⟨by dsimp only;omega,h,by dsimp only;omega,a⟩
  show L.length-(j+1)<L.length-j;omega
 have g0:j=L.length:=by omega
 refine CW.exit ?_;refine a4 (Sr λ_ V=>zm rfl ?_);refine WL.call hasF10 rfl rfl (owned_spec _ f L C w _ h a (Nat.le_refl _) oO) λv w5 G=>?_;obtain ⟨rfl,⟨C3,D,g9⟩,d⟩:=G;have a:=d;have h:=D;refine za rfl (zz (V (Sr λ_ U=>?_)));obtain ⟨⟨vl,vc,vw,ws,I,y,d2,d1,c8⟩,hs,b2⟩:=id h;obtain ⟨al,cl,rfl⟩:=y.sl;obtain ⟨gl,rfl⟩:=y.some_ F;obtain ⟨⟨bS,bR,S⟩,B⟩ : ∃ g,L[0]?=some g:=⟨_,List.getElem?_eq_getElem F⟩;refine zm rfl (zm rfl (zP rfl (zf rfl ?_)));refine WL.ev (Ev.load (v:=.slice (some ⟨gl,0,none⟩) L.length cl) rfl rfl (I.at_ rfl)) rfl ?_;refine WL.ev (Ev.indexAddr rfl rfl oD oO) rfl ?_;refine WL.ev (Ev.awj (cs:=[.pointer (some ⟨bS,0,none⟩),.pointer (some ⟨bR,0,none⟩)]) rfl rfl rfl (y.pair (n:=0) B)) rfl ?_;refine WL.ev (Ev.build (vs:=_) (cs:=[_,_,_,_,_,_,_,_,_,_,_]) rfl rfl) rfl ?_;refine WL.call hasF9 rfl rfl (cgj _ f L C3 False bS bR S 0 0 0 0 0 0 0 0 0 (.slice none 0 0) (.slice none 0 0) w _ M h (List.mem_of_getElem? B) a (Nat.le_refl _) oO rfl rfl) λv w6 G=>?_;obtain ⟨rfl,-,d,-⟩:=G;have a:=d;refine za rfl (zz (U (Sr λ_ T=>zm rfl (zm rfl (zw rfl (zm rfl (zt rfl rfl (za rfl (zz (T ?_))))))))));refine zr (zr1 rfl rfl ?_);exact ⟨rfl,a⟩
end
section
open Go Sx Wd
open Go.ChangeShapes Go.WideShapes Go.ChangeAt Go.WideMaps Go.WideElems Go.RowKit
end
section
open Go Sx Wd Fl
end
section
open Go Sx Wd
open Go.ChangeShapes Go.WideShapes Go.ChangeAt Go.WideMaps Go.WideElems Go.RowKit
theorem bxq{H:Type}{P:Program}{e:TypeId}: ∀ {l:List (DataW H)} {d:DataW H},d∈l->∀ n∈d.weights P e,n∈DataW.weightsAll P e l
  | x::l,d,hd,n,hn=>by
    simp only[DataW.weightsAll,List.mem_append]
    rcases List.mem_cons.1 hd with rfl|hd
    · exact .inl hn
    · exact .inr (bxq hd n hn)
theorem cell_nf{H:Type}{enc:TypeId×Value->H}{P:Program}{w:World}{u:Nat}{a:Nat->Bool}{s:Bool}{n:Nat}{t e:TypeId}{cs:List Value}{x:DataW H×List MemPlace}(F:P.underlying t=some (.slice e))(Q:P.underlying e=some (.float .f64))(T:P.cellsOf e=1)(U:P.bytesOf e=8)
    (h:DataW.trod enc P w u a s n t cs=some x) (A : ∀ k∈x.1.weights P t,k<=reachBytes) : ∃ (v:Value) (l:List Nat),cs=[v]/\NF w v l:=by
  rcases Go.Deep.open_slice1 F T h with ⟨d,_⟩|⟨J,len,C,m,n,V,D,Z,d,_,B,R,M,z,I⟩
  · exact ⟨_,[],d,⟨⟨none,0,rfl,Nat.le_refl _,RW.nil⟩,λx z=>(by cases z),by decide⟩⟩
  · have O:len<=m:=by rw[M];split<;>omega
    have X:=A (((List.range len).map D).length*8+((List.range (m-len)).map λj=>D (len+j)).length*8) (by
      rw[z]
      simp only[DataW.weights,F,U]
      rw[<- Nat.add_mul]
      exact List.mem_cons_self ..)
    simp only[List.length_map,List.length_range] at X
    have Y:reachBytes=140737488351232:=by decide
    have G:len<=17592186044415:=by omega
    obtain ⟨f,r⟩:=Go.Deep.choose_lt (α:=Nat) (n:=len) (p:=λi b=>V i = .float .f64 b/\b<18446744073709551616) (λi o=>dsj Q (I i oO).2)
    refine ⟨_,(List.range len).map f,d,⟨⟨some J,C,by simp,by simpa using B,λi y g=>?_⟩,λy g=>?_,by simp;omega⟩⟩
    · have o:i<len:=by
        by_cases q:i<len
        · exact q
        · rw[List.getElem?_eq_none oT] at g;cases g
      simp[List.getElem?_range o] at g
      subst g
      exact ⟨J,rfl,by rw[(I i oO).1,(r i o).1];rfl⟩
    · obtain ⟨i,o,rfl⟩:=List.mem_map.1 g
      exact (r i (List.mem_range.1 o)).2
theorem sized_mem{H:Type}{P:Program}{a:List TypeId}{b:List (DataW H)}(h:(DataW.weightsEach P a b).all (·<=reachBytes)=true){j:Nat}{t:TypeId}{d:DataW H}(e:a[j]?=some t)(f:b[j]?=some d): ∀ k∈d.weights P t,k<=reachBytes:=λk hk=>by
  have:=List.all_eq_true.1 h _ (DataW.weights_mem_each e f k hk)
  simpa using this
open Go.ChangeShapes Go.WideShapes Go.ChangeAt Go.WideMaps Go.WideElems Go.RowKit
theorem trod_fld{H:Type}{enc:TypeId×Value->H}{P:Program}{w:World}{d:Nat}{a:Nat->Bool}{b:Bool}{t:TypeId}{e:Array Field}{fuel:Nat}{cs:List Value}{x:DataW H×List MemPlace}(l:P.underlying t=some (.struct e))(h:DataW.trod enc P w d a b fuel t cs=some x):
    ∃ n,∀ (i:Nat) (f:Field),e[i]?=some f->∃ y,DataW.trod enc P w d a b n f.type ((cs.drop f.offset).take (P.cellsOf f.type))=some y:=by
  obtain ⟨p,n,_,rfl,q,g,o⟩:=DataW.trod_struct l h
  refine ⟨n,λi f j=>?_⟩
  have k:=o i f j
  have m:i<e.size:=(Array.getElem?_eq_some_iff.1 j).1
  rw[List.getElem?_eq_getElem oO] at k
  exact ⟨_,k⟩
open Go.ChangeShapes Go.WideShapes Go.ChangeAt Go.WideMaps Go.WideElems Go.RowKit
theorem czx{H:Type}{P:Program}{e:TypeId}{b:Array Field}(h:P.underlying e=some (.struct b)){l:List (DataW H)}{i:Nat}{f:Field}{y:DataW H}(a:b[i]?=some f)(d:l[i]?=some y): ∀ n∈y.weights P f.type,n∈(DataW.agg l).weights P e:=λn hn=>by
  simp only[DataW.weights,h]
  clear h
  have hj:b.toList[i]?=some f:=by simpa using a
  clear a
  have a:=hj
  clear hj
  generalize b.toList=fl at a ⊢
  clear b
  induction fl generalizing i l with
  | nil=>cases a
  | cons g fl ih=>
    cases l with
    | nil=>cases d
    | cons z l=>
      rw[List.map_cons]
      unfold DataW.weightsEach
      rw[List.mem_append]
      cases i with
      | zero=>cases a;cases d;exact .inl hn
      | succ i=>exact .inr (ih (by simpa using d) (by simpa using a))
theorem trod_fld2{H:Type}{enc:TypeId×Value->H}{P:Program}{w:World}{d:Nat}{a:Nat->Bool}{b:Bool}{t:TypeId}{e:Array Field}{fuel:Nat}{cs:List Value}{x:DataW H×List MemPlace}(l:P.underlying t=some (.struct e))(h:DataW.trod enc P w d a b fuel t cs=some x):
    ∃ (xs:List (DataW H×List MemPlace)) (n:Nat),x.1 = .agg (xs.map (·.1))/\cs.length=P.cellsOf t/\∀ (i:Nat) (f:Field),e[i]?=some f->∃ y,xs[i]?=some y/\DataW.trod enc P w d a b n f.type ((cs.drop f.offset).take (P.cellsOf f.type))=some y:=by
  obtain ⟨xs,n,_,rfl,o,g,p⟩:=DataW.trod_struct l h
  refine ⟨xs,n,rfl,o,λi f j=>?_⟩
  have k:=p i f j
  have m:i<e.size:=(Array.getElem?_eq_some_iff.1 j).1
  rw[List.getElem?_eq_getElem oO] at k
  exact ⟨_,List.getElem?_eq_getElem oO,k⟩
theorem cell_by{H:Type}{enc:TypeId×Value->H}{P:Program}{w:World}{F:Nat}{g:Nat->Bool}{C:Bool}{n:Nat}{t e:TypeId}{cs:List Value}{x:DataW H×List MemPlace}(Q:P.underlying t=some (.slice e))(X:P.underlying e=some (.int .u8))(Z:P.cellsOf e=1)(hb:P.bytesOf e=1)
    (h:DataW.trod enc P w F g C n t cs=some x) (I : ∀ k∈x.1.weights P t,k<=reachBytes) : ∃ (v:Value) (l:List Nat),cs=[v]/\BY w v l:=by
  rcases Go.Deep.open_slice1 Q Z h with ⟨o,_⟩|⟨s,len,O,m,n,V,D,Pl,o,_,J,Y,R,G,M⟩
  · exact ⟨_,[],o,none,0,rfl,RW.nil,Nat.le_refl _,λs e=>(by cases e),λx G=>(by cases G),by decide⟩
  · have T:len<=m:=by rw[R];split<;>omega
    have h8:=I (((List.range len).map D).length*1+((List.range (m-len)).map λj=>D (len+j)).length*1) (by
      rw[G]
      simp only[DataW.weights,Q,hb]
      rw[<- Nat.add_mul]
      exact List.mem_cons_self ..)
    simp only[List.length_map,List.length_range] at h8
    have hr:reachBytes=140737488351232:=by decide
    have z:len<=140737488351232:=by omega
    obtain ⟨f,B⟩:=Go.Deep.choose_lt (α:=Nat) (n:=len) (p:=λi b=>V i=u8v b/\b<256) (λi A=>cell_u8 X (M i oO).2)
    refine ⟨_,(List.range len).map f,o,some s,O,by simp,λi y r=>?_,by simpa using J,λa e u=>?_,λy r=>?_,by simpa using z⟩
    · have A:i<len:=by
        by_cases q:i<len
        · exact q
        · rw[List.getElem?_eq_none oT] at r;cases r
      simp[List.getElem?_range A] at r
      subst r
      exact ⟨s,rfl,by rw[(M i oO).1,(B i A).1]⟩
    · cases e
      have U:0<len:=by
        rcases Nat.eq_zero_or_pos len with q|q
        · rw[q] at u;exact absurd rfl u
        · exact q
      have d:=(M 0 oO).1
      unfold World.cell? at d
      rcases Nat.lt_or_ge s.block w.heap.size with q|q
      · exact q
      · have e0:(s.add 0).block=s.block:=by unfold Addr.add;split<;>rfl
        rw[e0,Array.getElem?_eq_none q] at d
        cases d
    · obtain ⟨i,A,rfl⟩:=List.mem_map.1 r
      exact (B i (List.mem_range.1 A)).2
theorem cell_op{H:Type}{enc:TypeId×Value->H}{w:World}{p:Nat}{m:Nat->Bool}{o:Bool}{n:Nat}{cs:List Value}{x:DataW H×List MemPlace}(h:DataW.trod enc Tryz.prog w p m o n 37 cs=some x)(r : ∀ k∈x.1.weights Tryz.prog 37,k<=reachBytes):
    ∃ q:OpV,cs=q.c/\q.ok w:=by
  have t:=Tryz.underlying37
  have hc:Tryz.prog.cellsOf 37=11:=by kernel_rfl
  have T:Tryz.prog.cellsOf 3=1:=by kernel_rfl
  have cf:Tryz.prog.cellsOf 31=1:=by kernel_rfl
  have cl:Tryz.prog.cellsOf 32=1:=by kernel_rfl
  have cb:Tryz.prog.cellsOf 35=1:=by kernel_rfl
  have cp:Tryz.prog.cellsOf 34=2:=by kernel_rfl
  obtain ⟨xs,n,hx,Q,hF⟩:=trod_fld2 t h
  rw[hc] at Q
  rw[hx] at r
  obtain ⟨y0,_,I⟩:=hF 0 ⟨"Kind",3,0,false,"","",0⟩ rfl
  obtain ⟨y1,_,G⟩:=hF 1 ⟨"On",3,1,false,"","",8⟩ rfl
  obtain ⟨y2,_,F⟩:=hF 2 ⟨"With",3,2,false,"","",16⟩ rfl
  obtain ⟨y3,_,D⟩:=hF 3 ⟨"X",31,3,false,"","",24⟩ rfl
  obtain ⟨y4,x4,C⟩:=hF 4 ⟨"L",32,4,false,"","",32⟩ rfl
  obtain ⟨y5,_,B⟩:=hF 5 ⟨"Mode",3,5,false,"","",56⟩ rfl
  obtain ⟨y6,_,A⟩:=hF 6 ⟨"Less",3,6,false,"","",64⟩ rfl
  obtain ⟨y7,_,z⟩:=hF 7 ⟨"N",3,7,false,"","",72⟩ rfl
  obtain ⟨y8,_,y⟩:=hF 8 ⟨"P",34,8,false,"","",80⟩ rfl
  obtain ⟨y9,x9,u⟩:=hF 9 ⟨"B",35,10,false,"","",96⟩ rfl
  match cs,Q with
  | [a,b,c,d,e,f,g,h,i,j,k],_=>
    dsimp only at I G F D C B A z y u
    rw[T] at I G F B A z
    rw[cf] at D
    rw[cl] at C
    rw[cp] at y
    rw[cb] at u
    obtain ⟨z0,rfl,_⟩:=a4q Tryz.underlying3 (show DataW.trod enc Tryz.prog w p m o n 3 [a]=some y0 from by simpa using I)
    obtain ⟨z1,rfl,r1⟩:=a4q Tryz.underlying3 (show DataW.trod enc Tryz.prog w p m o n 3 [b]=some y1 from by simpa using G)
    obtain ⟨Z,rfl,r2⟩:=a4q Tryz.underlying3 (show DataW.trod enc Tryz.prog w p m o n 3 [c]=some y2 from by simpa using F)
    obtain ⟨Y,rfl,r3⟩:=dsj Tryz.underlying31 (show DataW.trod enc Tryz.prog w p m o n 31 [d]=some y3 from by simpa using D)
    obtain ⟨vl,l,M,o4⟩:=cell_nf Tryz.underlying32 Tryz.underlying31 oR oR (show DataW.trod enc Tryz.prog w p m o n 32 [e]=some y4 from by simpa using C) (λk hk=>r k (czx t (i:=4) rfl (by rw[List.getElem?_map,x4];rfl) k hk))
    obtain ⟨X,rfl,_⟩:=a4q Tryz.underlying3 (show DataW.trod enc Tryz.prog w p m o n 3 [f]=some y5 from by simpa using B)
    obtain ⟨V,rfl,_⟩:=a4q Tryz.underlying3 (show DataW.trod enc Tryz.prog w p m o n 3 [g]=some y6 from by simpa using A)
    obtain ⟨U,rfl,_⟩:=a4q Tryz.underlying3 (show DataW.trod enc Tryz.prog w p m o n 3 [h]=some y7 from by simpa using z)
    obtain ⟨vb,lb,J,o9⟩:=cell_by Tryz.underlying35 Tryz.underlying5 oR oR (show DataW.trod enc Tryz.prog w p m o n 35 [k]=some y9 from by simpa using u) (λk hk=>r k (czx t (i:=9) rfl (by rw[List.getElem?_map,x9];rfl) k hk))
    have v:DataW.trod enc Tryz.prog w p m o n 34 [i,j]=some y8:=by simpa using y
    obtain ⟨O,R⟩:=trod_fld Tryz.underlying34 v
    obtain ⟨x0,p0⟩:=R 0 ⟨"NaN",3,0,false,"","",0⟩ rfl
    obtain ⟨x1,s⟩:=R 1 ⟨"Inf",3,1,false,"","",8⟩ rfl
    dsimp only at p0 s
    rw[T] at p0 s
    obtain ⟨w0,rfl,_⟩:=a4q Tryz.underlying3 (show DataW.trod enc Tryz.prog w p m o O 3 [i]=some x0 from by simpa using p0)
    obtain ⟨w1,rfl,_⟩:=a4q Tryz.underlying3 (show DataW.trod enc Tryz.prog w p m o O 3 [j]=some x1 from by simpa using s)
    injection M with M _
    injection J with J _
    exact ⟨⟨z0,z1,Z,X,V,U,w0,w1,Y,vl,vb,l,lb⟩,by rw[M,J];rfl,o4,o9,r1,r2,r3⟩
theorem open_script{H:Type}{enc:TypeId×Value->H}{w:World}{y b0:Nat}{o:Nat->Bool}{x:Bool}{v:Value}{d:DataW H}{U:List MemPlace}(t:Value.okWide Tryz.prog w .any b0 22 v)(h:DataW.Trod enc Tryz.prog w y o x 22 v d U)
    (C : ∀ k∈d.weights Tryz.prog 22,k<=reachBytes) : ∃ Q:List OpV,SCR w v Q:=by
  have B:=Tryz.underlying22
  have I:Tryz.prog.cellsOf 37=11:=by kernel_rfl
  obtain ⟨a,len,G,rfl⟩:=okWide_slice B t
  obtain ⟨T,hf⟩:=h
  rcases Go.Deep.open_slice B hf with ⟨b,_⟩|⟨J,l,c,m,n,D,Pl,b,_,Y,a1,V,M,hV⟩
  · simp[Value.cells] at b
    obtain ⟨rfl,rfl,rfl⟩:=b
    exact ⟨[],none,0,rfl,λi q e=>(by cases e),λg F=>by cases F⟩
  · simp[Value.cells] at b
    obtain ⟨rfl,rfl,rfl⟩:=b
    have X:len<=m:=by rw[V];split<;>omega
    simp only[Prod.mk.injEq] at M
    obtain ⟨f,u⟩:=Go.Deep.choose_lt (α:=OpV) (n:=len) (p:=λi q=>RW w (some (J.add (i*11))) q.c/\q.ok w) (λi s=>by
      obtain ⟨a4,R,h2⟩:=hV i oO
      rw[I] at R
      obtain ⟨_,O,r⟩:=World.cells?_some R
      obtain ⟨q,rfl,F⟩:=cell_op h2 (λk hk=>C k (by
        rw[M.1]
        simp only[DataW.weights,B,List.mem_cons,List.mem_append]
        exact .inr (.inl (bxq (List.mem_map.2 ⟨i,List.mem_range.2 s,rfl⟩) k hk))))
      refine ⟨q,λj v A=>⟨_,rfl,?_⟩,F⟩
      have Z:j<11:=by
        rcases Nat.lt_or_ge j 11 with z|z
        · exact z
        · rw[List.getElem?_eq_none (show q.c.length<=j from z)] at A;cases A
      rw[r j Z]
      exact A)
    refine ⟨(List.range len).map f,some J,G,by simp,λi q e=>?_,λq e=>?_⟩
    · have s:i<len:=by
        by_cases z:i<len
        · exact z
        · rw[List.getElem?_eq_none oT] at e;cases e
      simp[List.getElem?_range s] at e
      subst e
      exact ⟨J,rfl,(u i s).1⟩
    · obtain ⟨i,s,rfl⟩:=List.mem_map.1 e
      exact (u i (List.mem_range.1 s)).2
end
section
open Go
def jf1(P:Program)(f:FuncId)(fn:Func)(s:ChangeSpec)(c:OpenClaim):Bool:=c.wf (OpenSpec.ofChange s)
def jf2(P:Program)(f:FuncId)(fn:Func)(s:ChangeSpec)(c:OpenClaim):Bool:=laidOutB P
def jf3(P:Program)(f:FuncId)(fn:Func)(s:ChangeSpec)(c:OpenClaim):Bool:=mapsRowed P
def jf4(P:Program)(f:FuncId)(fn:Func)(s:ChangeSpec)(c:OpenClaim):Bool:=fn.params.all (P.readableRec ·)
def jf5(P:Program)(f:FuncId)(fn:Func)(s:ChangeSpec)(c:OpenClaim):Bool:=namedTie P c.named s.vars
def jf6(P:Program)(f:FuncId)(fn:Func)(s:ChangeSpec)(c:OpenClaim):Bool:=(c.stops==[])
def jf7(P:Program)(f:FuncId)(fn:Func)(s:ChangeSpec)(c:OpenClaim):Bool:=(P.stops==[])
def jf8(P:Program)(f:FuncId)(fn:Func)(s:ChangeSpec)(c:OpenClaim):Bool:=(c.knobs==[])
def jf9(P:Program)(f:FuncId)(fn:Func)(s:ChangeSpec)(c:OpenClaim):Bool:=(P.stopKnobs==[])
def jf10(P:Program)(f:FuncId)(fn:Func)(s:ChangeSpec)(c:OpenClaim):Bool:=(c.inPlace==P.inPlace f)
def jf11(P:Program)(f:FuncId)(fn:Func)(s:ChangeSpec)(c:OpenClaim):Bool:=(c.unfollowed==P.unfollowed f)
def jf12(P:Program)(f:FuncId)(fn:Func)(s:ChangeSpec)(c:OpenClaim):Bool:=(c.recurses==P.recurses f)
def jf13(P:Program)(f:FuncId)(fn:Func)(s:ChangeSpec)(c:OpenClaim):Bool:=(c.named==P.varsNamed f)
def jf14(P:Program)(f:FuncId)(fn:Func)(s:ChangeSpec)(c:OpenClaim):Bool:=(c.maps==(fn.params.toList++s.plain.varTypes P).any (P.mapsRec ·))
def jf15(P:Program)(f:FuncId)(fn:Func)(s:ChangeSpec)(c:OpenClaim):Bool:=(c.ifaces==(fn.params.toList++s.plain.varTypes P).any (P.ifacesRec ·))
def jf16(P:Program)(f:FuncId)(fn:Func)(s:ChangeSpec)(c:OpenClaim):Bool:=(c.mapsOut==P.mapsAmong fn.resultTypes.toList)
def jf17(P:Program)(f:FuncId)(fn:Func)(s:ChangeSpec)(c:OpenClaim):Bool:=(c.loops==(fn.params.toList++s.plain.varTypes P).any (P.loopsFrom ·))
def jf18(P:Program)(f:FuncId)(fn:Func)(s:ChangeSpec)(c:OpenClaim):Bool:=(c.wideKeys==(fn.params.toList++s.plain.varTypes P++fn.resultTypes.toList).any (P.wideKeysFrom ·))
def jf19(P:Program)(f:FuncId)(fn:Func)(s:ChangeSpec)(c:OpenClaim):Bool:=s.vars.all (P.varReadable ·)
def jf20(P:Program)(f:FuncId)(fn:Func)(s:ChangeSpec)(c:OpenClaim):Bool:=fn.resultTypes.all (λt=>P.readableRec t&&decide (t<P.types.size))
def jf21(P:Program)(f:FuncId)(fn:Func)(s:ChangeSpec)(c:OpenClaim):Bool:=(c.ifacesOut==fn.resultTypes.toList.any (P.ifacesRec ·))
def jf22(P:Program)(f:FuncId)(fn:Func)(s:ChangeSpec)(c:OpenClaim):Bool:=(c.loopsOut==fn.resultTypes.toList.any (P.loopsFrom ·))
def jf23(P:Program)(f:FuncId)(fn:Func)(s:ChangeSpec)(c:OpenClaim):Bool:=(c.plainKeys==P.plainKeys)
def jf24(P:Program)(f:FuncId)(fn:Func)(s:ChangeSpec)(c:OpenClaim):Bool:=c.shortTexts.isNone
def jf25(P:Program)(f:FuncId)(fn:Func)(s:ChangeSpec)(c:OpenClaim):Bool:=P.stopsHeard
def jf26(P:Program)(f:FuncId)(fn:Func)(s:ChangeSpec)(c:OpenClaim):Bool:=P.mayEnter
def jf27(P:Program)(f:FuncId)(fn:Func)(s:ChangeSpec)(c:OpenClaim):Bool:=(c.lifted==P.liftsFinal)
def jf28(P:Program)(f:FuncId)(fn:Func)(s:ChangeSpec)(c:OpenClaim):Bool:=(P.make==some c.make)
def jf29(P:Program)(f:FuncId)(fn:Func)(s:ChangeSpec)(c:OpenClaim):Bool:=(c.kinds==(if c.domain.isEmpty then [] else fn.params.toList.map λt=>match P.underlying t with|some (.int k)=>some k|_=>none))
def jf30(P:Program)(f:FuncId)(fn:Func)(s:ChangeSpec)(c:OpenClaim):Bool:=(c.pinned==c.pinnedBy)
def jf31(P:Program)(f:FuncId)(fn:Func)(s:ChangeSpec)(c:OpenClaim):Bool:=(c.veiled==(fn.params.toList++s.plain.varTypes P++fn.resultTypes.toList).any (P.veiledRec ·))
def jf32(P:Program)(f:FuncId)(fn:Func)(s:ChangeSpec)(c:OpenClaim):Bool:=c.veiledFits P fn.params.toList (fn.params.toList++s.plain.varTypes P++fn.resultTypes.toList)
theorem joined_of{P:Program}{f:FuncId}{a:Func}{s:ChangeSpec}{c:OpenClaim}
    (M:jf1 P f a s c=true)
    (J:jf2 P f a s c=true)
    (I:jf3 P f a s c=true)
    (H:jf4 P f a s c=true)
    (G:jf5 P f a s c=true)
    (F:jf6 P f a s c=true)
    (D:jf7 P f a s c=true)
    (C:jf8 P f a s c=true)
    (B:jf9 P f a s c=true)
    (A:jf10 P f a s c=true)
    (z:jf11 P f a s c=true)
    (y:jf12 P f a s c=true)
    (x:jf13 P f a s c=true)
    (w:jf14 P f a s c=true)
    (v:jf15 P f a s c=true)
    (u:jf16 P f a s c=true)
    (t:jf17 P f a s c=true)
    (r:jf18 P f a s c=true)
    (q:jf19 P f a s c=true)
    (p:jf20 P f a s c=true)
    (o:jf21 P f a s c=true)
    (n:jf22 P f a s c=true)
    (m:jf23 P f a s c=true)
    (l:jf24 P f a s c=true)
    (k:jf25 P f a s c=true)
    (j:jf26 P f a s c=true)
    (i:jf27 P f a s c=true)
    (h:jf28 P f a s c=true)
    (g:jf29 P f a s c=true)
    (e:jf30 P f a s c=true)
    (d:jf31 P f a s c=true)
    (b:jf32 P f a s c=true)
    : joinedFacts P f a s c=true:=by
  unfold joinedFacts
  simp only[Bool.and_eq_true]
  exact ⟨⟨⟨⟨⟨⟨⟨⟨⟨⟨⟨⟨⟨⟨⟨⟨⟨⟨⟨⟨⟨⟨⟨⟨⟨⟨⟨⟨⟨⟨⟨M,J⟩,I⟩,H⟩,G⟩,F⟩,D⟩,C⟩,B⟩,A⟩,z⟩,y⟩,x⟩,w⟩,v⟩,u⟩,t⟩,r⟩,q⟩,p⟩,o⟩,n⟩,m⟩,l⟩,k⟩,j⟩,i⟩,h⟩,g⟩,e⟩,d⟩,b⟩
end
end Go.Proofs.YtomlallhlakhfaaGreatDoor