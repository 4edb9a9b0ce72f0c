/- Part 8 of what the proof rests on. No condition. -/
import Derived.Test.YtomlallhlakhfaaGreatDoorZd7
import Derived.WalkKit
import Derived.LaidEql
import Derived.Stop.Asserts
import Derived.RowKitTokens
set_option linter.unusedVariables false
set_option linter.unusedSimpArgs false
set_option maxRecDepth 100000
set_option maxHeartbeats 4000000
namespace Go.Proofs.YtomlallhlakhfaaGreatDoor
section
open Go Sx Wd Fl
theorem NU.rw_{w:World}{a:Option Addr}{m c:Nat}{l:List Nat}(h:NU w (.slice a m c) l):RW w a (l.map kQ):=by
  obtain ⟨⟨f,d,e,_,b⟩,_⟩:=h
  cases e
  exact b
structure KSa(x y:List Nat)(nx ny:Bool)(rx ry:Value)(ex ey:Int)(b2 b3:Nat)(w0:World)(i:Nat)(w:World):Prop where
  hi:i<=x.length
  e:x.take i=y.take i
  h2:BK w b2 89 [.bool nx,rx,.int .i64 ex]
  h3:BK w b3 89 [.bool ny,ry,.int .i64 ey]
  n2:NU w rx x
  n3:NU w ry y
  ch:Chg [] w0 w
theorem rdW_bad2{a:List Nat}{p:Nat}{bad:Bool}{i n:Nat}(h:(rdW a p bad i).2.2=true)(b:i<=n):(rdW a p bad n).2.2=true:=by
  induction n with
  | zero => have : i = 0 := by omega
            subst this;exact h
  | succ n ih=>
    by_cases e:i=n+1
    · subst e;exact h
    · rw[rdW,ih oO,a4j]
theorem rdD_is{a:List Nat}{p g U k T c b i:Nat}{bad d1 d2 n f:Bool}(hB:B8 a)(h1:rdN a p bad 1=(g,U,d1))(h2:rdN a U d1 2=(k,T,d2))(h3:rdN a T d2 2=(c,b,n))(a6:k<65536)
    (y:f=true↔((1<g\/160<c)\/n=true)) (hi:i<=c) (Q : ¬(i<c/\(rdW a b f i).2.2=false)) :
    (((rdW a b f i).2.2=false/\∃ d',cQ (decide ((g:Int)=1)) (val (rdW a b f i).1) ((k:Int)-4096)=some d'/\decide ((g:Int)=1)=d'.neg/\(k:Int)-4096=d'.e/\(rdW a b f i).1=wd d'.m)->rdD a p bad=(decide ((g:Int)=1),(rdW a b f i).1,(k:Int)-4096,(rdW a b f i).2.1,false))/\
    (¬((rdW a b f i).2.2=false/\∃ d',cQ (decide ((g:Int)=1)) (val (rdW a b f i).1) ((k:Int)-4096)=some d'/\decide ((g:Int)=1)=d'.neg/\(k:Int)-4096=d'.e/\(rdW a b f i).1=wd d'.m)->(rdD a p bad).2.2.2.2=true):=by
  have G:rdD a p bad=if 1<g\/160<c then (false,[],0,b,true) else (decide ((g:Int)=1),(rdW a b n c).1,(k:Int)-4096,(rdW a b n c).2.1,if c=0 then decide ((rdW a b n c).2.2=true\/(g:Int)=1\/(k:Int)-4096≠0) else decide ((rdW a b n c).2.2=true\/(rdW a b n c).1.getD 0 0%2=0\/(rdW a b n c).1.getD (c-1) 0=0)):=by
    unfold rdD;rw[h1];dsimp only;rw[h2];dsimp only;rw[h3]
  by_cases s:(rdW a b f i).2.2=true
  · refine ⟨λh=>absurd (h.1.symm.trans s) oD,λ_=>?_⟩
    rw[G]
    split
    · rfl
    · rename_i J
      have A:(rdW a b n c).2.2=true:=by
        by_cases hd:n=true
        · rw[hd];exact rdW_bad ..
        · have:f=n:=by
            have:f=false:=Bool.eq_false_iff.2 λz=>(y.1 z).elim J hd
            rw[this,Bool.eq_false_iff.2 hd]
          rw[<- this];exact rdW_bad2 s hi
      dsimp only
      split<;>simp[A]
  · have s:(rdW a b f i).2.2=false:=Bool.eq_false_iff.2 s
    have r:f=false:=Bool.eq_false_iff.2 λz=>by rw[z,rdW_bad] at s;cases s
    have J : ¬(1<g\/160<c):=λz=>by rw[y.2 (.inl z)] at r;cases r
    have A:n=false:=Bool.eq_false_iff.2 λz=>by rw[y.2 (.inr z)] at r;cases r
    have O:i=c:=by
      by_cases q:i<c
      · exact absurd ⟨q,s⟩ Q
      · omega
    subst O
    rw[r] at s ⊢
    rw[A,if_neg J] at G
    have w:=auq a b false i
    have Y:=rdW_W hB b false i
    generalize rdW a b false i=RR at *
    obtain ⟨j,q,bd⟩:=RR
    dsimp only at s G w Y ⊢
    subst s
    rw[G]
    have a8 : -4096<=(k:Int)-4096/\(k:Int)-4096<=61439:=by omega
    generalize hng:decide ((g:Int)=1)=ng
    generalize (k:Int)-4096=e at *
    have u:(g:Int)=1↔ng=true:=by rw[<- hng];simp
    by_cases h0:i=0
    · have H:j=[]:=List.length_eq_zero_iff.1 oO
      subst H
      rw[if_pos h0]
      constructor
      · rintro ⟨_,d',F,e1,Z,B⟩
        have hz:d'=Dy.zero:=by
          have:cQ ng (val []) e=some Dy.zero:=jJ _ _
          rw[this] at F;exact (Option.some.inj F).symm
        subst hz
        have t:ng=false:=e1
        have : ¬((g:Int)=1):=λz=>by rw[u.1 z] at t;cases t
        have R:e=0:=Z
        simp[this,R]
      · intro M
        refine decide_eq_true ?_
        apply Classical.byContradiction
        intro D
        apply M
        refine ⟨rfl,Dy.zero,jJ _ _,?_,?_,?_⟩
        · have : ¬ng=true:=λz=>D (.inr (.inl (u.2 z)))
          exact Bool.eq_false_iff.2 this
        · exact Classical.byContradiction λz=>D (.inr (.inr z))
        · exact eJ.symm
    · rw[if_neg h0]
      constructor
      · rintro ⟨_,d',F,e1,Z,B⟩
        have v:=iJ F
        have X:d'.m≠0:=λz=>by rw[z,eJ] at B;rw[B] at w;simp at w;omega
        have V:=v.odd X
        have d:=ciq X
        have hv:val j=d'.m:=by rw[B,g6]
        have a4:j.getD 0 0%2=1:=by
          cases j with
          | nil=>simp at w;omega
          | cons x l=>rw[<- hv,val_mod] at V;simpa using V
        have I:j.getD (i-1) 0≠0:=by rw[B];rw[<- w,B];exact d
        have : ¬(false=true\/j.getD 0 0%2=0\/j.getD (i-1) 0=0):=by
          rintro (z|z|z)
          · cases z
          · omega
          · exact I z
        rw[decide_eq_false this]
      · intro M
        refine decide_eq_true ?_
        apply Classical.byContradiction
        intro D
        apply M
        have d:j.getD (j.length-1) 0≠0:=by rw[w];exact λz=>D (.inr (.inr z))
        have C:=bpj Y (.inr d)
        have o:val j%2=1:=by
          cases j with
          | nil=>simp at w;omega
          | cons x l=>rw[val_mod];have : ¬x%2=0:=λz=>D (.inr (.inl (by simpa using z)));omega
        have v:(Dy.mk ng (val j) e).ok:=by
          refine ⟨λz=>?_,λ_=>o,?_,?_⟩
          · simp only at z;rw[z] at o;cases o
          · simp only[C];omega
          · simp only;omega
        exact ⟨rfl,⟨ng,val j,e⟩,mX v,rfl,rfl,C.symm⟩
structure KDr(lo br b2 n3 p3:Nat)(dq:Bool)(bs:List Nat)(w0:World)(g:Nat×Value)(w:World):Prop where
  hi:g.1<=n3
  t:RdM lo w br bs (rdW bs p3 dq g.1).2.1 (rdW bs p3 dq g.1).2.2
  h2:BK w b2 89 [.bool false,.slice none 0 0,.int .i64 0]
  g:GR w 162 kQ w0.heap.size [b2] g.2 (rdW bs p3 dq g.1).1
  ch:Chg [br] w0 w
theorem r3Same_spec(e d:Bool)(rx ry:Value)(x y:List Nat)(ex ey:Int)(w:World)(g:NU w rx x)(f:NU w ry y):Ret Tryz.prog 155 [.agg [.bool e,rx,.int .i64 ex].toArray,.agg [.bool d,ry,.int .i64 ey].toArray] w λu w'=>u = .bool (decide (e=d/\ex=ey/\x=y))/\Chg [] w w':=by
 obtain ⟨⟨O,M,rfl,a5,b6⟩,d0,c8⟩:=id g;obtain ⟨⟨ay,cy,rfl,a4,b5⟩,c9,c7⟩:=id f;have b:=crf w;refine zE2 Tryz.func155 rfl ?_;refine Sr λ_ V=>?_;refine zBh rfl rfl rfl b λb2 c4 a k b7 H b=>?_;have g:=g.q5 k;have f:=f.q5 k;refine zBh rfl rfl rfl b λb3 c3 c j I G b=>?_;have g:=g.q5 j;have f:=f.q5 j;have J:=zdd a.lt I;have a:=a.k0 j;refine za rfl (zz (V (zc λ_ U=>?_)));refine CW.oJ 26 (decide (e≠d\/ex≠ey\/x.length≠y.length)) ?_ ?_
 ·refine zS λ_ l=>zf rfl (zl a rfl rfl (zf rfl (zl c rfl rfl ?_)));refine WL.ev (Ev.dmx rfl rfl) rfl ?_;refine zm rfl ?_;refine zb ?_ ?_<;>intro a2<;>try simp only[qs] at a2
  ·refine zv rfl (zv rfl (zv rfl (zv rfl (zv rfl (zt rfl rfl (zm rfl (zv rfl (zv rfl (zv rfl (zv rfl (zv rfl (zv rfl (zv rfl (zt rfl rfl (zz (l ?_))))))))))))))));refine ⟨rfl,rfl,q9.g7 rfl ?_ ?_⟩
   ·first|(cases e<;>cases d<;>simp_all;done)|(cases e<;>cases d<;>first|(simp_all;done)|(simp;omega)|(simp_all;omega))
   exact SMg
  refine zw rfl (zf rfl (zw rfl (zl a rfl rfl (zw rfl (zf rfl (zw rfl (zl c rfl rfl (zw rfl (zN rfl rfl (ze rfl rfl (zm rfl ?_)))))))))));refine zb ?_ ?_<;>intro a1<;>try simp only[qs] at a1
  ·refine zv rfl (zv rfl (zv rfl (zv rfl (zv rfl (zv rfl (zv rfl (zt rfl rfl (zz (l ?_)))))))));refine ⟨rfl,rfl,q9.g7 rfl ?_ ?_⟩
   ·first|(cases e<;>cases d<;>simp_all;done)|(cases e<;>cases d<;>first|(simp_all;done)|(simp;omega)|(simp_all;omega))
   exact SMg
  refine zw rfl (zf rfl (zw rfl ?_));refine WL.ev (Ev.load (v:=.slice O x.length M) rfl rfl (a.at_ rfl)) rfl ?_;refine zw rfl (zn rfl (zw rfl (zf rfl (zw rfl ?_))));refine WL.ev (Ev.load (v:=.slice ay y.length cy) rfl rfl (c.at_ rfl)) rfl ?_;refine zw rfl (zn rfl (zw rfl (zN rfl rfl (ze rfl rfl (zz (l ?_))))));refine ⟨rfl,rfl,q9.g7 rfl ?_ ?_⟩
  ·first|(cases e<;>cases d<;>simp_all;done)|(cases e<;>cases d<;>first|(simp_all;done)|(simp;omega)|(simp_all;omega))
  exact SMg
 refine zy rfl ?_ ?_<;>intro o<;>try simp only[qs] at o
 ·have F:e≠d\/ex≠ey\/x.length≠y.length:=o
  refine Sr λ_ T=>za rfl (zz (T ?_));refine zr (zr1 rfl rfl ?_);refine ⟨congrArg Value.bool (decide_eq_false ?_).symm,b⟩;rintro ⟨z1,z2,z3⟩;rcases F with q|q|q
  · exact q z1
  · exact q z2
  exact q (by rw[z3])
 have F : ¬(e≠d\/ex≠ey\/x.length≠y.length):=o;have Z:e=d:=Classical.byContradiction λz=>F (.inl z);have Y:ex=ey:=Classical.byContradiction λz=>F (.inr (.inl z));have X:x.length=y.length:=Classical.byContradiction λz=>F (.inr (.inr z));refine zkk (U (zc λ_ R=>Sr λ_ Q=>za rfl (zz (Q (CW.block ?_)))));refine CW.loop (S:=λi:Nat=>[(2,.pointer (some ⟨b2,0,none⟩)),(3,.pointer (some ⟨b3,0,none⟩)),(5,.int .i64 (i:Int))]) (Inv:=KSa x y e d (.slice O x.length M) (.slice ay y.length cy) ex ey b2 b3 w) (mu:=λi=>x.length-i) (0) ?_ ?_ ?_
 ·exact ⟨Nat.zero_le _,rfl,a,c,g,f,b⟩
 ·exact SLp
 rintro i wr ⟨hi,he,a,c,g,f,b⟩;obtain ⟨⟨_,_,e9,_,c6⟩,-,-⟩:=id g;cases e9;obtain ⟨⟨_,_,e9,_,c5⟩,-,-⟩:=id f;cases e9;refine zc λ_ D=>Sr λ_ C=>zm rfl (zf rfl ?_);refine WL.ev (Ev.load (v:=.slice O x.length M) rfl rfl (a.at_ rfl)) rfl ?_;refine zn rfl (zL rfl rfl (zz (C ?_)));refine zy rfl ?_ ?_<;>intro a6<;>try simp only[qs] at a6
 ·refine zkk (D (zc λ_ B=>CW.block (zc λ_ A=>?_)));refine CW.jQ cJ oR λb4 r h=>?_
  have b:=b.ta h;have a:=a.k0 h;have c:=c.k0 h;have g:=g.q5 h;have f:=f.q5 h;refine yf rfl ?_;refine WS.ev (Ev.load (v:=.slice O x.length M) rfl rfl (a.at_ rfl)) rfl ?_;refine ym rfl ?_;refine WS.ev (Ev.ixR (i) rfl rfl g.rw_ oO oO oT) rfl ?_;refine WS.ev (Ev.load rfl rfl (g.rw_.u32 oO)) rfl ?_;refine yf rfl ?_;refine WS.ev (Ev.load (v:=.slice ay y.length cy) rfl rfl (c.at_ rfl)) rfl ?_;refine ym rfl ?_;refine WS.ev (Ev.ixR (i) rfl rfl f.rw_ oO oO oT) rfl ?_;refine WS.ev (Ev.load rfl rfl (f.rw_.u32 oO)) rfl ?_;refine WS.ev (Ev.neq rfl rfl) rfl ?_;refine WS.nil (r _ _ ?_);refine A ?_;refine zy rfl ?_ ?_<;>intro n<;>try simp only[qs] at n
  ·have m:x.getD i 0≠y.getD i 0:=by have:=n;omega
   refine Sr λ_ t=>za rfl (zz (t ?_));refine zr (zr1 rfl rfl ?_);refine ⟨congrArg Value.bool (decide_eq_false ?_).symm,b⟩;rintro ⟨_,_,z⟩;exact m (by rw[z])
  have m:x.getD i 0=y.getD i 0:=by have:=n;omega
  refine zkk (B (zS λ_ p=>zm rfl ?_));(first|refine zi rfl rfl ?_|refine zo rfl rfl ?_);refine za rfl (zz (p ?_));refine ⟨rfl,i+1,?_,?_,?_⟩
  ·exact SLp
  ·exact ⟨by omega,by rw[arx oO,arx oO,he,m],a,c,g,f,b⟩
  show x.length-(i+1)<x.length-i;omega
 have a0:i=x.length:=by omega
 subst a0;refine CW.exit ?_;refine R (Sr λ_ s=>za rfl (zz (s ?_)));refine zr (zr1 rfl rfl ?_);refine ⟨congrArg Value.bool (decide_eq_true ⟨Z,Y,?_⟩).symm,b⟩;rw[List.take_length,X,List.take_length] at he;exact he
theorem dgq(lo R p:Nat)(o:List Nat)(bad:Bool)(w:World)(j:RdM lo w R o p bad)(hL:o.length<=140737488355328)(hB:B8 o)(k4:lo<=w.heap.size):Ret Tryz.prog 88 [.pointer (some ⟨R,0,none⟩)] w λu w'=>∃ (sl:Value) (ng:Bool) (ws:List Nat) (e:Int) (q:Nat) (bd:Bool),u = .agg [.bool ng,sl,.int .i64 e].toArray/\NU w' sl ws/\ws.length<=65535/\RdM lo w' R o q bd/\bd=(rdD o p bad).2.2.2.2/\(bd=false->rdD o p bad=(ng,ws,e,q,false))/\Chg [R] w w':=by
  have m6:R<lo:=j.lt;have d:Chg [R] w w:=Chg.refl _ _;refine zE1 Tryz.func88 rfl ?_;refine Sr λ_ i4=>?_;refine zAh rfl rfl d λb2 o0 b h1 m4 g5 d=>?_;have j:=j.q5 h1;refine zz (i4 (Sr λ_ i3=>zm rfl ?_));refine WL.call hasF91 rfl rfl (bbx lo R _ o _ 1 _ j hL hB oD) λv w1 h'=>?_;obtain ⟨rfl,j,C⟩:=h';have k3:=aix hB p bad 1;generalize hR1:rdN o p bad 1=R1 at *;obtain ⟨n1,p1,d1⟩:=R1;dsimp only at j k3;dsimp only;have d:=d.step C (λy G=>.inl G);have b:=b.kq C;refine za rfl (zz (i3 (Sr λ_ i2=>zm rfl ?_)));refine WL.call hasF91 rfl rfl (bbx lo R _ o _ 2 _ j hL hB oD) λv w2 h'=>?_;obtain ⟨rfl,j,C⟩:=h';have k2:=aix hB p1 d1 2;generalize hR2:rdN o p1 d1 2=R2 at *;obtain ⟨n2,p2,d2⟩:=R2;dsimp only at j k2;dsimp only;have d:=d.step C (λy G=>.inl G);have b:=b.kq C;refine WL.ev (Ev.dZ rfl rfl (tQ oO)) rfl ?_;refine WL.ev (Ev.dX rfl rfl oO) rfl ?_;refine za rfl (zz (i2 (Sr λ_ i1=>zm rfl ?_)));refine WL.call hasF91 rfl rfl (bbx lo R _ o _ 2 _ j hL hB oD) λv w3 h'=>?_;obtain ⟨rfl,j,C⟩:=h';have k1:=aix hB p2 d2 2;generalize hR3:rdN o p2 d2 2=R3 at *;obtain ⟨V,B,d3⟩:=R3;dsimp only at j k1;dsimp only;have d:=d.step C (λy G=>.inl G);have b:=b.kq C;refine WL.ev (Ev.dZ rfl rfl (tQ oO)) rfl ?_;refine za rfl (zz (i1 ?_));refine CW.anx (λD s' w'=>D=[]/\(∃ x:Bool,(x=true↔((1<n1\/160<V)\/d3=true))/\RdM lo w' R o B x)/\BK w' b2 89 [.bool false,.slice none 0 0,.int .i64 0]/\Chg [R] w w'/\q9 [(0,.pointer (some ⟨R,0,none⟩)),(2,.pointer (some ⟨b2,0,none⟩)),(3,.int .u64 (n1:Int)),(4,.int .i64 ((n2:Int)-4096)),(5,.int .i64 (V:Int))] s') ?_ ?_
  · refine CW.oJ 25 (decide (1<n1\/160<V)) ?_ ?_
    · refine zS λ_ c1=>zm rfl (zG rfl rfl (zm rfl ?_));refine zb ?_ ?_<;>intro l1<;>try simp only[qs] at l1
      · refine zv rfl (zv rfl (zt rfl rfl (zz (c1 ?_))));refine ⟨rfl,rfl,q9.g7 rfl ?_ ?_⟩
        · first|(exact decide_eq_decide.2 oO)|(simp_all;done)|(simp;omega)|(simp_all;omega)|skip
        exact SMg
      refine zw rfl (zm rfl (zw rfl (zG rfl rfl (ze rfl rfl (zz (c1 ?_))))));refine ⟨rfl,rfl,q9.g7 rfl ?_ ?_⟩
      · first|(exact decide_eq_decide.2 oO)|(simp_all;done)|(simp;omega)|(simp_all;omega)|skip
      exact SMg
    refine zy rfl ?_ ?_<;>intro d0<;>try simp only[qs] at d0
    · have hq:1<n1\/160<V:=d0
      refine zS λ_ e5=>zm rfl (zP rfl (zf rfl ?_));obtain ⟨a,c,hb,hr,hp,c7,d5,d6⟩:=id j;refine WL.bJ rfl rfl rfl hb oS rfl λc6 O k=>?_;simp only[List.set_cons_succ,List.set_cons_zero] at O;have j:=j.set hb O k;have b:=b.kq k;have d:=d.step k (λy G=>.inl G);refine zz (e5 ?_);exact ⟨rfl,⟨true,⟨λ_=>.inl hq,λ_=>rfl⟩,j⟩,b,d,by (repeat (first|exact q9.nil|refine q9.cons rfl ?_))⟩
    have hq : ¬(1<n1\/160<V):=d0;refine zkk ?_;exact ⟨rfl,⟨d3,⟨λz=>.inr z,λz=>z.elim (λq=>absurd q hq) id⟩,j⟩,b,d,by (repeat (first|exact q9.nil|refine q9.cons rfl ?_))⟩
  rintro _ s' wJ ⟨rfl,⟨x,l3,j⟩,b,d,g0⟩;refine CW.sub g0 ?_;refine Sr λ_ f8=>za rfl (zz (f8 (zc λ_ f7=>Sr λ_ f6=>za rfl (zz (f6 (CW.block ?_))))));refine CW.loop (S:=λg:Nat×Value=>[(0,.pointer (some ⟨R,0,none⟩)),(2,.pointer (some ⟨b2,0,none⟩)),(3,.int .u64 (n1:Int)),(4,.int .i64 ((n2:Int)-4096)),(5,.int .i64 (V:Int)),(6,g.2),(7,.int .i64 (g.1:Int))]) (Inv:=KDr lo R b2 V B x o w) (mu:=λg=>V-g.1) ((0,.slice none 0 0)) ?_ ?_ ?_
  · exact ⟨Nat.zero_le _,j,b,GR.nil,d⟩
  · exact SLp
  rintro ⟨i,vm⟩ wr ⟨hi,j,b,A,d⟩;dsimp only at hi j A;dsimp only;refine zc λ_ f5=>?_;refine CW.oJ 38 (decide (i<V/\(rdW o B x i).2.2=false)) ?_ ?_
  · obtain ⟨a,c,hb,hr,hp,c7,d5,d6⟩:=id j;refine zS λ_ c0=>zm rfl (zm rfl (zL rfl rfl (zm rfl ?_)));refine zb ?_ ?_<;>intro l0<;>try simp only[qs] at l0
    · refine zw rfl (zm rfl (zw rfl (zP rfl (zw rfl (zf rfl (zw rfl ?_))))));refine WL.ev (Ev.load (v:=.bool (rdW o B x i).2.2) rfl rfl (hb.at_ rfl)) rfl ?_
      refine zw rfl (zT rfl (zt rfl rfl (zz (c0 ?_))));refine ⟨rfl,rfl,q9.g7 rfl ?_ ?_⟩
      · first|(simp_all;done)|(simp;omega)|(cases hbI:(rdW o B x i).2.2<;>simp_all<;>omega)|(cases hbI:(rdW o B x i).2.2<;>simp_all;done)
      exact SMg
    refine zv rfl (zv rfl (zv rfl (zv rfl (zv rfl (ze rfl rfl (zz (c0 ?_)))))));refine ⟨rfl,rfl,q9.g7 rfl ?_ ?_⟩
    · first|(simp_all;done)|(simp;omega)|(cases hbI:(rdW o B x i).2.2<;>simp_all<;>omega)|(cases hbI:(rdW o B x i).2.2<;>simp_all;done)
    exact SMg
  refine zy rfl ?_ ?_<;>intro c9<;>try simp only[qs] at c9
  · have k5:i<V/\(rdW o B x i).2.2=false:=by have h9:=c9;exact h9
    have o5:=k5.1;refine zkk (f5 (zc λ_ f4=>CW.block ?_));have g3:=A;refine zR λ_ e4=>?_;refine zm rfl (zm rfl ?_);refine WL.call hasF91 rfl rfl (bbx lo R _ o _ 4 _ j hL hB oD) λv w4 h'=>?_;obtain ⟨rfl,j,C⟩:=h';have b:=b.kq C;have d:=d.step C (λy G=>.inl G);have A:=A.gZ C (λy G=>.inr (.inl (by rw[List.mem_singleton.1 G];omega)));have i9:=aix hB (rdW o B x i).2.1 (rdW o B x i).2.2 4;have d7:rdW o B x (i+1)=((rdW o B x i).1++[(rdN o (rdW o B x i).2.1 (rdW o B x i).2.2 4).1],(rdN o (rdW o B x i).2.1 (rdW o B x i).2.2 4).2):=by rw[rdW]
    generalize hR4:rdN o (rdW o B x i).2.1 (rdW o B x i).2.2 4=R4 at *;obtain ⟨n4,p4,d4⟩:=R4;dsimp only at j i9 d7;dsimp only;refine WL.ev (Ev.dZ rfl rfl (in_u32 oO)) rfl ?_;refine WL.buildSlice (m:=1) (cs:=[kQ (n4)]) oD oD rfl oR rfl λl7 h7 a1=>?_;have I:=a1.chg;have a3:=a1.ge;have h2:OB h7 l7 _ [n4]:=a1.at_;have e0:=Nat.le_trans d.size a3;have d:=d.ta I;have j:=j.q5 I;have g2:=zdd b.lt a3;have b:=b.k0 I;have A:=A.q5 I;refine WL.c0x (f:=kQ) (lo:=w.heap.size) (X:=[b2]) (l:=(rdW o B x i).1) (news:=[n4]) (by rfl) (λi=>rfl) rfl rfl A (by first|rfl|(simp;done)|(simp;omega)|omega) h2.row (by first|omega|exact d.size|exact hcr.size|exact Nat.le_refl _) (by intro y G;simp only[List.mem_singleton] at G;subst G;exact b.lt) (by first|omega|(simp only[List.length_append,List.length_cons,List.length_nil,auq];omega)) (by first|omega|(simp only[List.length_append,List.length_cons,List.length_nil,auq];omega)) rfl λh8 o2 h0 Q=>?_;have d:=GR.frame A Q d (by first|omega|exact Nat.le_refl _);have b:=b.gZ Q (A.notin (by first|exact .inr oO|exact .inl oS));have A:=h0;have j:=j.gZ Q (λy G=>Nat.le_trans k4 (g3.ge y G));refine za rfl ?_;refine WL.nil (e4 _ _ _ (f4 ?_));refine zS λ_ e3=>zm rfl ?_;(first|refine zi rfl rfl ?_|refine zo rfl rfl ?_);refine za rfl (zz (e3 ?_));refine ⟨rfl,(i+1,h8),?_,?_,?_⟩
    · exact SLp
    · refine ⟨by dsimp only;omega,?_,b,?_,d⟩
      · rw[d7];exact j
      rw[d7];exact A
    show V-(i+1)<V-i;omega
  have l2 : ¬(i<V/\(rdW o B x i).2.2=false):=by have h9:=c9;exact h9
  have Y:=rdD_is hB hR1 hR2 hR3 oO l3 hi l2;have b4:(rdW o B x i).1.length<=65535:=by rw[auq];omega
  have c4:(rdW o B x i).1.length<=34359738368:=by omega
  have h:=A.nu (rdW_W hB _ _ _) oO;have o3:=h.one;obtain ⟨⟨l8,l6,rfl,m5,m2⟩,-,-⟩:=id h;generalize hRW:rdW o B x i=RR at *;obtain ⟨ws,q,bd⟩:=RR;dsimp only at j h Y b4 c4;refine CW.exit ?_;refine f7 (Sr λ_ f3=>zm rfl (zq rfl rfl (zm rfl (zm rfl ?_))));refine WL.ev (Ev.build (vs:=_) (cs:=[.bool (decide ((n1:Int)=1)),.slice l8 ws.length l6,.int .i64 ((n2:Int)-4096)]) rfl oR) rfl ?_;refine zAh rfl rfl d λb8 n9 n a7 g9 g4 d=>?_;have j:=j.q5 a7;have h:=h.q5 a7;have h4:=zdd b.lt g9;have b:=b.k0 a7;refine zss rfl rfl ao n rfl λn8 c5 T=>?_;(try simp only[qt] at c5);have d:=d.s1 T;have b:=b.kq T;have j:=j.q8 n T an;have h:=h.q8 n T an;have n:=c5;refine zz (f3 (Sr λ_ c3=>zg n rfl ?_));refine WL.call hasF154 rfl rfl (rQ (decide ((n1:Int)=1)) _ ws ((n2:Int)-4096) _ h oO c4) λv w5 h'=>?_;obtain ⟨l4,C⟩:=h';have d:=d.ta C;have b:=b.k0 C;have n:=n.k0 C;have j:=j.q5 C;have h:=h.q5 C;rcases l4 with ⟨r,d',a4,rfl,Z⟩|⟨a4,rfl⟩
  · have o4:=Z.one;refine zm rfl (zx rfl rfl (zx rfl rfl ?_));refine zAh rfl rfl d λb9 h6 F s J a2 d=>?_;have j:=j.q5 s;have h:=h.q5 s;have Z:=Z.q5 s;have b6:=zdd b.lt J;have b:=b.k0 s;have b5:=zdd n.lt J;have n:=n.k0 s;refine zss rfl rfl ao F rfl λn7 U H=>?_;(try simp only[qt] at U);have d:=d.s1 H;have b:=b.kq H;have n:=n.kq H;have j:=j.q8 F H an;have h:=h.q8 F H an;have Z:=Z.q8 F H an;have F:=U;refine za rfl (zz (c3 (zc λ_ c2=>Sr λ_ f2=>zm rfl (zT rfl (zm rfl (zw rfl (zg n rfl (zw rfl (zg F rfl (zw rfl ?_))))))))));refine WL.call hasF155 rfl rfl (r3Same_spec _ _ _ _ ws (wd d'.m) _ _ _ h Z) λv w6 h'=>?_;obtain ⟨rfl,C⟩:=h';have d:=d.ta C;have b:=b.k0 C;have n:=n.k0 C;have j:=j.q5 C;have h:=h.q5 C;refine zw rfl (zT rfl (ze rfl rfl (zz (f2 ?_))));refine zy rfl ?_ ?_<;>intro c8<;>try simp only[qs] at c8
    · have i8 : ¬((decide ((n1:Int)=1))=d'.neg/\((n2:Int)-4096)=d'.e/\ws=wd d'.m):=by have h9:=c8;simpa using h9
      have a8:(rdD o p bad).2.2.2.2=true:=Y.2 (λz=>by obtain ⟨_,l5,a9,e9⟩:=z;rw[a4] at a9;cases a9;exact i8 e9);refine zR λ_ e2=>?_;refine zm rfl (zP rfl (zf rfl ?_));obtain ⟨a,c,hb,hr,hp,c7,d5,d6⟩:=id j;refine WL.bJ rfl rfl rfl hb oS rfl λc6 O k=>?_;simp only[List.set_cons_succ,List.set_cons_zero] at O;have j:=j.set hb O k;have b:=b.kq k;have n:=n.kq k;have h:=h.q8 hb k (by intro v hv;simp only[List.mem_cons,List.not_mem_nil,or_false] at hv;rcases hv with rfl|rfl|rfl<;>rfl);have d:=d.step k (λy G=>.inl G);refine WL.nil (e2 _ _ _ (c2 ?_));refine Sr λ_ f1=>zg n rfl ?_;refine zss rfl rfl ao b rfl λn6 t a6=>?_;(try simp only[qt] at t);have d:=d.s1 a6;have j:=j.q8 b a6 an;have h:=h.q8 b a6 an;have b:=t;refine zz (f1 ?_);refine zr (k8.qJ rfl (aX.cell rfl (b.fX rfl rfl)) ?_);refine ⟨_,_,_,_,_,_,rfl,h,b4,j,?_,?_,d⟩
      · exact a8.symm
      intro z;cases z
    have g1:(decide ((n1:Int)=1))=d'.neg/\((n2:Int)-4096)=d'.e/\ws=wd d'.m:=by have h9:=c8;simpa using h9
    refine zkk (c2 (Sr λ_ f0=>zg n rfl ?_));refine zss rfl rfl ao b rfl λn5 t a5=>?_;(try simp only[qt] at t);have d:=d.s1 a5;have j:=j.q8 b a5 an;have h:=h.q8 b a5 an;have b:=t;refine zz (f0 ?_);refine zr (k8.qJ rfl (aX.cell rfl (b.fX rfl rfl)) ?_);refine ⟨_,_,_,_,_,_,rfl,h,b4,j,?_,?_,d⟩
    · cases hbd:bd with
      | true=>exact (Y.2 (λz=>by rw[hbd] at z;cases z.1)).symm
      | false=>rw[Y.1 ⟨hbd,d',a4,g1⟩]
    intro z;exact Y.1 ⟨z,d',a4,g1⟩
  refine zm rfl (zx rfl rfl (zx rfl rfl ?_));refine zAh rfl rfl d λb9 h6 F s J a2 d=>?_;have j:=j.q5 s;have h:=h.q5 s;have b6:=zdd b.lt J;have b:=b.k0 s;have b5:=zdd n.lt J;have n:=n.k0 s;refine zss rfl rfl ao F rfl λn0 U M=>?_;(try simp only[qt] at U);have d:=d.s1 M;have b:=b.kq M;have n:=n.kq M;have j:=j.q8 F M an;have h:=h.q8 F M an;refine za rfl (zz (c3 (zc λ_ e8=>Sr λ_ e7=>zm rfl (zT rfl (zm rfl (zv rfl (zv rfl (zv rfl (zv rfl (zt rfl rfl (zz (e7 ?_))))))))))));refine CW.nZ rfl ?_;have a8:(rdD o p bad).2.2.2.2=true:=Y.2 (λz=>by obtain ⟨_,l5,a9,_⟩:=z;rw[a4] at a9;cases a9);refine zR λ_ e1=>?_;refine zm rfl (zP rfl (zf rfl ?_));obtain ⟨a,c,hb,hr,hp,c7,d5,d6⟩:=id j;refine WL.bJ rfl rfl rfl hb oS rfl λc6 O k=>?_;simp only[List.set_cons_succ,List.set_cons_zero] at O;have j:=j.set hb O k;have b:=b.kq k;have n:=n.kq k;have h:=h.q8 hb k (by intro v hv;simp only[List.mem_cons,List.not_mem_nil,or_false] at hv;rcases hv with rfl|rfl|rfl<;>rfl);have d:=d.step k (λy G=>.inl G);refine WL.nil (e1 _ _ _ (e8 ?_));refine Sr λ_ e6=>zg n rfl ?_;refine zss rfl rfl ao b rfl λc6 t k=>?_;(try simp only[qt] at t);have d:=d.s1 k;have j:=j.q8 b k an;have h:=h.q8 b k an;have b:=t;refine zz (e6 ?_);refine zr (k8.qJ rfl (aX.cell rfl (b.fX rfl rfl)) ?_);refine ⟨_,_,_,_,_,_,rfl,h,b4,j,?_,?_,d⟩
  · exact a8.symm
  intro z;cases z
theorem cmpX_V(m:Nat)(e:Int)(n:Nat)(f:Int):c2x m e n f=btx m e n f:=rfl
theorem d3q(neg:Bool)(m:Nat):(sgD neg m=0/\m=0)\/(sgD neg m = -1/\m≠0)\/(sgD neg m=1/\m≠0):=by
  unfold sgD
  by_cases h:m=0
  · exact .inl ⟨if_pos h,h⟩
  · rw[if_neg h]
    cases neg
    · exact .inr (.inr ⟨rfl,h⟩)
    · exact .inr (.inl ⟨rfl,h⟩)
theorem cmpV_zero(e f:Int):btx 0 e 0 f=0:=by
  unfold btx
  rw[Nat.zero_mul,Nat.zero_mul]
  rfl
set_option exponentiation.threshold 5000
theorem top_eq{k:Nat}(a:k≠0)(h:k<=1099511627776):cQ false k 2048=fJ (cZ (k:Int)) axx:=by
  have e:=bfj (n:=(k:Int)) oO
  rw[show decide ((k:Int)<0)=false from decide_eq_false oO,show ((k:Int)).natAbs=k by omega] at e
  have g:=yJ a
  have f:bl k<=64:=uJ.2 oO
  have d:(wd (k/2^tz k)).length<=2:=aQ.2 (Nat.lt_of_le_of_lt (Nat.div_le_self _ _) oO)
  have b:=(akx a).1
  rw[sZ a oO] at e
  rw[sZ a oO]
  have c:=Option.some.inj e
  rw[<- c,cmq (x:=⟨false,k/2^tz k,0+(tz k:Int)⟩) (y:=axx) b oD (Nat.lt_of_le_of_lt (Nat.div_le_self _ _) (Nat.lt_of_lt_of_le (by omega:k<2^64) (Nat.pow_le_pow_right (by decide) (by decide)))) (Nat.lt_of_lt_of_le (by decide:axx.m<2^1) (Nat.pow_le_pow_right (by decide) (by decide))) (by dsimp only;omega) oD]
  simp only[axx,Nat.mul_one,bne_self_eq_false]
  congr 2
  omega
theorem r3Make_spec(neg:Bool)(v:Value)(l:List Nat)(e:Int)(w:World)(h:NU w v l)(A : -9223372036854775808<=e/\e<=9223372036854775807)(n:l.length<=34359738368):Ret Tryz.prog 158 [.bool neg,v,.int .i64 e] w λu w'=>DR w' u (cQ neg (val l) e)/\Chg [] w w':=by
 have a:=crf w;have C:=h;refine zE3 Tryz.func158 rfl ?_;refine Sr λ_ m=>?_;refine zAh rfl rfl a λG y b t s k a=>?_;refine za rfl (zz (m (Sr λ_ j=>zm rfl (zm rfl (zm rfl ?_)))));refine WL.call hasF164 rfl rfl (a1q neg v l e _ (C.q5 a) A n) λv F D=>?_;obtain ⟨B,x⟩:=D;have a:=a.ta x;have b:=b.k0 x;rcases B with ⟨r,d,o,rfl,g⟩|⟨o,rfl⟩
 ·have z:=g.one;refine zx rfl rfl (zx rfl rfl ?_);refine zss rfl rfl ao b rfl λq c f=>?_;(try simp only[qt] at c);have a:=a.s1 f;have g:=g.q8 b f an;have b:=c;refine za rfl (zz (j ?_));refine zr (k8.gJ rfl (aX.cell rfl (b.fX rfl rfl)) (aX.tmp rfl) ?_);exact ⟨.inl ⟨_,d,o,rfl,g⟩,a⟩
 refine zx rfl rfl (zx rfl rfl ?_);refine zss rfl rfl ao b rfl λp c i=>?_;(try simp only[qt] at c);have a:=a.s1 i;have b:=c;refine za rfl (zz (j ?_));refine zr (k8.gJ rfl (aX.cell rfl (b.fX rfl rfl)) (aX.tmp rfl) ?_);exact ⟨.inr ⟨o,rfl⟩,a⟩
theorem diq(I H:Bool)(Y X:Value)(k j:List Nat)(O M:Int)(w:World)(f:NU w Y k)(e:NU w X j)(G : -9223372036854775808<=O/\O<=9223372036854775807)(F : -9223372036854775808<=M/\M<=9223372036854775807)(A:k.length<=17179869184)(z:j.length<=17179869184):Ret Tryz.prog 160 [.agg [.bool I,Y,.int .i64 O].toArray,.agg [.bool H,X,.int .i64 M].toArray] w λu w'=>u = .int .i64 (bpx I (val k) O H (val j) M)/\Chg [] w w':=by
 have a:=crf w;have a5:=f.one;have a4:=e.one;refine zE2 Tryz.func160 rfl ?_;refine Sr λ_ V=>?_;refine zBh rfl rfl rfl a λb2 a1 b l Z C a=>?_;have f:=f.q5 l;have e:=e.q5 l;refine zBh rfl rfl rfl a λb3 a0 c h D B a=>?_;have f:=f.q5 h;have e:=e.q5 h;have J:=zdd b.lt D;have b:=b.k0 h;refine za rfl (zz (V (Sr λ_ U=>zg b rfl ?_)));refine WL.call hasF157 rfl rfl (bex _ _ _ _ _ f oO) λv w1 p=>?_;obtain ⟨rfl,d⟩:=p;have a3:=d3q I (val k);generalize hxa:sgD I (val k)=sa at *;have a:=a.ta d;have b:=b.k0 d;have c:=c.k0 d;have f:=f.q5 d;have e:=e.q5 d;refine za rfl (zz (U (Sr λ_ T=>zg c rfl ?_)));refine WL.call hasF157 rfl rfl (bex _ _ _ _ _ e oO) λv w2 p=>?_;obtain ⟨rfl,d⟩:=p;have a2:=d3q H (val j);generalize hxb:sgD H (val j)=sb at *;have a:=a.ta d;have b:=b.k0 d;have c:=c.k0 d;have f:=f.q5 d;have e:=e.q5 d;refine za rfl (zz (T (zc λ_ R=>CW.block (Sr λ_ Q=>zm rfl (zm rfl (zL rfl rfl (za rfl (zz (Q ?_)))))))));refine zy rfl ?_ ?_<;>intro o<;>try simp only[qs] at o
 ·have g:sa<sb:=o
  refine Sr λ_ y=>za rfl (zz (y ?_));refine zr (zr1 rfl rfl ?_);refine ⟨?_,a⟩;unfold bpx;rw[hxa,hxb,if_pos g]
 have g : ¬sa<sb:=by have:=o;omega
 refine Sr λ_ x=>zm rfl (zm rfl (zG rfl rfl (za rfl (zz (x ?_)))));refine zy rfl ?_ ?_<;>intro n<;>try simp only[qs] at n
 ·have i:sb<sa:=n
  refine Sr λ_ t=>za rfl (zz (t ?_));refine zr (zr1 rfl rfl ?_);refine ⟨?_,a⟩;unfold bpx;rw[hxa,hxb,if_neg g,if_pos i]
 have i : ¬sb<sa:=by have:=n;omega
 refine Sr λ_ s=>zm rfl (zL rfl rfl (za rfl (zz (s ?_))));refine zy rfl ?_ ?_<;>intro m<;>try simp only[qs] at m
 ·have hn:sa<0:=m
  refine Sr λ_ r=>zf rfl (zl c rfl rfl (zf rfl (zl c rfl rfl (zf rfl (zl b rfl rfl (zf rfl (zl b rfl rfl ?_)))))));refine WL.call hasF225 rfl rfl (zX _ _ j k _ _ _ e f F G z A) λv w3 p=>?_;obtain ⟨rfl,d⟩:=p;have a:=a.ta d;refine za rfl (zz (r ?_));refine zr (zr1 rfl rfl ?_);refine ⟨?_,a⟩;unfold bpx;rw[hxa,hxb,if_neg g,if_neg i,if_neg oO,show sa = -1 by omega,cmpX_V,<- cmpV_swap]
  congr 1;omega
 have hn : ¬sa<0:=by have:=m;omega
 refine zkk (R (Sr λ_ q=>zf rfl (zl b rfl rfl (zf rfl (zl b rfl rfl (zf rfl (zl c rfl rfl (zf rfl (zl c rfl rfl ?_)))))))));refine WL.call hasF225 rfl rfl (zX _ _ k j _ _ _ f e G F A z) λv w4 p=>?_;obtain ⟨rfl,d⟩:=p;have a:=a.ta d;refine za rfl (zz (q ?_));refine zr (zr1 rfl rfl ?_);refine ⟨?_,a⟩;unfold bpx;rw[hxa,hxb,if_neg g,if_neg i,cmpX_V]
 by_cases h0:sa=0
 · rw[if_pos h0,show val k=0 by omega,show val j=0 by omega,cmpV_zero]
 rw[if_neg h0,show sa=1 by omega,Int.one_mul]
theorem r21sums_spec(b:Nat)(S:Sh)(w:World)(o:ShM 148 w b S)(k1:S.s.le 1099511627776)(J:S.V.ok)(U:S.Q.ok)(n4:0<=S.pln):Ret Tryz.prog 92 [.pointer (some ⟨b,0,none⟩)] w λu w'=>u = .bool (decide (rJ S))/\Chg [] w w':=by
 obtain ⟨rv,rq,x,f,c⟩:=o;obtain ⟨i5,i4,i3,i2,i1,i0⟩:=k1;obtain ⟨⟨av,cv,h9,o0,n2⟩,-,n8⟩:=id f;obtain ⟨⟨aq,cq,i6,o2,n3⟩,-,n9⟩:=id c;subst h9 i6;have n0:=aqj (n:=S.V.m);have n1:=aqj (n:=S.Q.m);have a:=crf w;refine zE1 Tryz.func92 rfl ?_;refine Sr λ_ h8=>za rfl (zz (h8 (Sr λ_ h7=>zm rfl (zP rfl (zf rfl ?_)))));refine WL.ev (Ev.fQ (cs:=[.int .i64 (S.s.na:Int),.int .i64 (S.s.up:Int),.int .i64 (S.s.dn:Int),.int .i64 (S.s.mi:Int),.int .i64 (S.s.pl:Int),.int .i64 (S.s.al:Int)]) rfl rfl x rfl rfl) rfl ?_;refine WL.call hasF156 rfl rfl (b9j S.s _ ⟨i5,i4,i3,i2,i1,i0⟩) λv w1 h'=>?_;obtain ⟨rfl,r⟩:=h';obtain ⟨k,hk⟩ : ∃ k:Nat,S.pln=(k:Int):=⟨S.pln.toNat,by omega⟩;rw[show ((S.s.al:Int)-S.s.na-S.s.up-S.s.dn-S.s.mi-S.s.pl)=S.pln from rfl,hk];have k3:k<=1099511627776:=by unfold Sh.pln Sh.fin at hk;omega
 have n5:=f.one;have n7:=c.one;have a:=a.ta r;have x:=x.q5 r;have f:=f.q5 r;have c:=c.q5 r;refine za rfl (zz (h7 (zc λ_ h6=>Sr λ_ h5=>zm rfl (zq rfl rfl (zz (h5 ?_))))));refine zy rfl ?_ ?_<;>intro d8<;>try simp only[qs] at d8
 ·have h0:k=0:=by have:=d8;omega
  refine Sr λ_ e7=>zm rfl (zP rfl (zf rfl (zf rfl ?_)));refine WL.ev (Ev.load (v:=.slice av (wd S.V.m).length cv) rfl rfl (x.at_ rfl)) rfl ?_;refine zn rfl (zq rfl rfl (zm rfl ?_));refine zb ?_ ?_<;>intro l1<;>try simp only[qs] at l1
  ·refine zw rfl (zm rfl (zw rfl (zP rfl (zw rfl (zf rfl (zw rfl (zf rfl (zw rfl ?_))))))));refine WL.ev (Ev.load (v:=.slice aq (wd S.Q.m).length cq) rfl rfl (x.at_ rfl)) rfl ?_
   refine zw rfl (zn rfl (zw rfl (zq rfl rfl (zt rfl rfl (za rfl (zz (e7 ?_)))))));refine zr (zr1 rfl rfl ?_);refine ⟨congrArg Value.bool ?_,a⟩;have e:rJ S↔(S.V.m=0/\S.Q.m=0):=by unfold rJ;rw[hk,if_pos oO]
   first|exact decide_eq_decide.2 (by rw[e];omega)|exact (decide_eq_false (by rw[e];omega)).symm
  refine zv rfl (zv rfl (zv rfl (zv rfl (zv rfl (zv rfl (zv rfl (ze rfl rfl (za rfl (zz (e7 ?_))))))))));refine zr (zr1 rfl rfl ?_);refine ⟨congrArg Value.bool ?_,a⟩;have e:rJ S↔(S.V.m=0/\S.Q.m=0):=by unfold rJ;rw[hk,if_pos oO]
  first|exact decide_eq_decide.2 (by rw[e];omega)|exact (decide_eq_false (by rw[e];omega)).symm
 have h0:k≠0:=by have:=d8;omega
 have e4 : ¬((k:Int)=0):=by omega
 refine zkk (h6 (zc λ_ f1=>?_));refine CW.axj 64 (decide (sgD S.Q.neg S.Q.m<=0\/S.Q.e < -2148\/(S.V.m≠0/\S.V.e < -1074))) ?_ ?_
 ·intro Z;refine zS λ_ b0=>zm rfl (zP rfl (zf rfl ?_));refine WL.ev (Ev.fQ rfl rfl x rfl rfl) rfl ?_
  try simp only[oL]
  refine WL.call hasF157 rfl rfl (bex _ _ _ _ _ c (by have:=U.len;omega)) λv w2 h'=>?_;obtain ⟨rfl,r⟩:=h';rw[g6];have Z:=Z.ta r;have x:=x.q5 r;refine zQ rfl rfl (zm rfl ?_);refine zb ?_ ?_<;>intro l0<;>try simp only[qs] at l0
  ·refine zv rfl (zv rfl (zv rfl (zv rfl (zv rfl (zv rfl (zt rfl rfl (zm rfl (zv rfl (zv rfl (zv rfl (zv rfl (zv rfl (zv rfl (zv rfl (zv rfl (zu rfl (zu rfl (zu rfl (zu rfl (zu rfl (zu rfl (zv rfl (zt rfl rfl ?_)))))))))))))))))))))));refine zz (b0 ?_);refine ⟨rfl,Z,q9.g7 rfl ?_ ?_⟩
   ·exact AqE
   exact SMg
  refine zw rfl (zm rfl (zw rfl (zP rfl (zw rfl (zf rfl (zw rfl (zf rfl (zw rfl (zl x rfl rfl (zw rfl (zL rfl rfl (ze rfl rfl (zm rfl ?_)))))))))))));refine zb ?_ ?_<;>intro k5<;>try simp only[qs] at k5
  ·refine zv rfl (zv rfl (zv rfl (zv rfl (zv rfl (zv rfl (zv rfl (zv rfl (zu rfl (zu rfl (zu rfl (zu rfl (zu rfl (zu rfl (zv rfl (zt rfl rfl (zz (b0 ?_)))))))))))))))));refine ⟨rfl,Z,q9.g7 rfl ?_ ?_⟩
   ·exact AqE
   exact SMg
  refine zw rfl (zm rfl (zw rfl (zP rfl (zw rfl (zf rfl (zw rfl (zf rfl (zw rfl ?_))))))));refine WL.ev (Ev.load (v:=.slice av (wd S.V.m).length cv) rfl rfl (x.at_ rfl)) rfl ?_;refine zw rfl (zn rfl (zw rfl (zG rfl rfl (zw rfl (zm rfl ?_)))));refine zb ?_ ?_<;>intro k4<;>try simp only[qs] at k4
  ·refine zw rfl (zm rfl (zw rfl (zP rfl (zw rfl (zf rfl (zw rfl (zf rfl (zw rfl (zl x rfl rfl (zw rfl (zL rfl rfl (zw rfl (zt rfl rfl (ze rfl rfl (zz (b0 ?_))))))))))))))));refine ⟨rfl,Z,q9.g7 rfl ?_ ?_⟩
   ·exact AqE
   exact SMg
  refine zv rfl (zv rfl (zv rfl (zv rfl (zv rfl (zv rfl (zw rfl (ze rfl rfl (ze rfl rfl (zz (b0 ?_))))))))));refine ⟨rfl,Z,q9.g7 rfl ?_ ?_⟩
  ·exact AqE
  exact SMg
 intro wM Z;have a:=a.ta Z;have x:=x.q5 Z;have f:=f.q5 Z;have c:=c.q5 Z;refine zy rfl ?_ ?_<;>intro d7<;>try simp only[qs] at d7
 ·have h1:sgD S.Q.neg S.Q.m<=0\/S.Q.e < -2148\/(S.V.m≠0/\S.V.e < -1074):=by simpa using d7
  refine Sr λ_ f0=>za rfl (zz (f0 ?_));refine zr (zr1 rfl rfl ?_);refine ⟨congrArg Value.bool (decide_eq_false λz=>?_).symm,a⟩;unfold rJ at z;rw[hk,if_neg e4] at z;exact z.1 h1
 have h1 : ¬(sgD S.Q.neg S.Q.m<=0\/S.Q.e < -2148\/(S.V.m≠0/\S.V.e < -1074)):=by simpa using d7
 refine zkk (f1 (Sr λ_ e9=>zm rfl ?_));refine WL.call hasF109 rfl rfl (a8j (k:Int) _ oO) λv w3 h'=>?_;obtain ⟨⟨rn,rfl,i⟩,r⟩:=h';have f5:=i.one;have a1:(cZ (k:Int)).ok:=wZ oO;have a:=a.ta r;have x:=x.q5 r;have f:=f.q5 r;have c:=c.q5 r;refine zAh rfl rfl a λb4 m6 g b1 m3 f7 a=>?_;have f:=f.q5 b1;have c:=c.q5 b1;have i:=i.q5 b1;have i9:b≠b4:=by have:=x.lt;omega
 have x:=x.q5 b1;refine zss rfl rfl ao g rfl λl8 d2 Y=>?_;(try simp only[qt] at d2);have a:=a.s1 Y;have x:=x.kq Y;have f:=f.q8 g Y an;have c:=c.q8 g Y an;have i:=i.q8 g Y an;have g:=d2;refine zz (e9 (Sr λ_ e8=>zm rfl ?_));refine WL.ev (Ev.dZ rfl rfl (iZ oO)) rfl ?_;refine WL.call hasF159 rfl rfl (blj k _ oO) λv w4 h'=>?_;obtain ⟨e3,r,o3⟩:=h';have m2:=e3.one;have k2:(wd k).length<=34359738368:=by have:=e3.len;have:=(aQ (n:=k) (k:=2)).2 oO;omega
 have a:=a.ta r;have x:=x.q5 r;have g:=g.k0 r;have f:=f.q5 r;have c:=c.q5 r;have i:=i.q5 r;refine WL.call hasF158 rfl rfl (r3Make_spec false _ (wd k) 2048 _ e3 oO k2) λv w5 h'=>?_;obtain ⟨hD,r⟩:=h';rw[g6,top_eq h0 k3] at hD;obtain ⟨rt,kt,rfl,p⟩:=hD.bjx;have f2:=p.one;have a:=a.ta r;have x:=x.q5 r;have g:=g.k0 r;have f:=f.q5 r;have c:=c.q5 r;have i:=i.q5 r;refine zm rfl (zx rfl rfl (zx rfl rfl ?_));refine zAh rfl rfl a λb5 m5 j a2 f8 f6 a=>?_;have f:=f.q5 a2;have c:=c.q5 a2;have i:=i.q5 a2;have p:=p.q5 a2;have i8:b≠b5:=by have:=x.lt;omega
 have x:=x.q5 a2;have g5:=zdd g.lt f8;have g:=g.k0 a2;refine zss rfl rfl ao j rfl λl7 d1 T=>?_;(try simp only[qt] at d1);have a:=a.s1 T;have x:=x.kq T;have g:=g.kq T;have f:=f.q8 j T an;have c:=c.q8 j T an;have i:=i.q8 j T an;have p:=p.q8 j T an;have j:=d1;refine za rfl (zz (e8 ?_));refine CW.anx (λD s' w'=>D=[]/\∃ (b7:Nat) (rs:Value),BK w' b 148 [.int .i64 (S.s.na:Int),.int .i64 (S.s.up:Int),.int .i64 (S.s.dn:Int),.int .i64 (S.s.mi:Int),.int .i64 (S.s.pl:Int),.int .i64 (S.s.al:Int),.bool S.V.neg,.slice av (wd S.V.m).length cv,.int .i64 S.V.e,.bool S.Q.neg,.slice aq (wd S.Q.m).length cq,.int .i64 S.Q.e,.float .f64 S.lo,.float .f64 S.hi]/\NU w' (.slice av (wd S.V.m).length cv) (wd S.V.m)/\NU w' (.slice aq (wd S.Q.m).length cq) (wd S.Q.m)/\BK w' b4 89 [.bool (cZ (k:Int)).neg,rn,.int .i64 (cZ (k:Int)).e]/\NU w' rn (wd (cZ (k:Int)).m)/\BK w' b5 89 [.bool ((fJ (cZ (k:Int)) axx).getD Dy.zero).neg,rt,.int .i64 ((fJ (cZ (k:Int)) axx).getD Dy.zero).e]/\NU w' rt (wd ((fJ (cZ (k:Int)) axx).getD Dy.zero).m)/\BK w' b7 89 [.bool ((fJ S.V S.V).getD Dy.zero).neg,rs,.int .i64 ((fJ S.V S.V).getD Dy.zero).e]/\NU w' rs (wd ((fJ S.V S.V).getD Dy.zero).m)/\Chg [] w w'/\q9 [(0,.pointer (some ⟨b,0,none⟩)),(4,.pointer (some ⟨b4,0,none⟩)),(5,.pointer (some ⟨b5,0,none⟩)),(7,.pointer (some ⟨b7,0,none⟩))] s') ?_ ?_
 ·refine CW.bZ 15 rfl cJ λm1 c9 o A=>?_;have a:=a.ta A;have x:=x.q5 A;have g:=g.k0 A;have j:=j.k0 A;have f:=f.q5 A;have c:=c.q5 A;have i:=i.q5 A;have p:=p.q5 A;have a3:=x;refine wh 0 rfl o (eM rfl) (wh 1 rfl o (eP rfl) (wh 2 rfl o (eF rfl) (wh 3 rfl o (λ_ R=>Ev.fQ rfl rfl (a3.q5 R) rfl rfl) ?_)))
  try simp only[oL]
  refine wh 4 rfl o (eM rfl) (wh 5 rfl o (eP rfl) (wh 6 rfl o (eF rfl) (wh 7 rfl o (λ_ R=>Ev.fQ rfl rfl (a3.q5 R) rfl rfl) ?_)))
  try simp only[oL]
  refine WH.c2j 8 12 oR ?_ ?_
  ·refine ahj.call 8 rfl hasF96 rfl rfl (sX _ _ _ _ _ _ _ _ _ f f (aJ J) (aJ J) (by have:=J.len;omega) (by have:=J.len;omega)) λv w6 h'=>?_;obtain ⟨hD,r⟩:=h';rw[jX J J] at hD;obtain ⟨rs,h4,rfl,t⟩:=hD.bjx;have f4:=t.one;have a:=a.ta r;have x:=x.q5 r;have g:=g.k0 r;have j:=j.k0 r;have f:=f.q5 r;have c:=c.q5 r;have i:=i.q5 r;have p:=p.q5 r;have o:=o.trans r;refine ⟨o,?_⟩;refine wh 9 rfl o (eM rfl) (wh 10 rfl o (eX rfl rfl) (wh 11 rfl o (eX rfl rfl) ?_));refine WH.vZ (l:=[.bool false,.slice none 0 0,.int .i64 0]) 12 rfl oR o rfl rfl λb7 h2 q B X a8=>?_;have a7:=Nat.le_trans o.size X;have o:=a8;have c0:=Nat.le_trans a.size X;have a:=a.ta B;have f:=f.q5 B;have c:=c.q5 B;have i:=i.q5 B;have p:=p.q5 B;have t:=t.q5 B;have d5:b≠b7:=by have:=x.lt;omega
   have x:=x.q5 B;have c5:=zdd g.lt X;have g:=g.k0 B;have c3:=zdd j.lt X;have j:=j.k0 B;refine WH.sQ 13 rfl oR o a7 rfl rfl rfl ao q oS rfl λl6 a5 I o=>?_;(try simp only[qt] at a5);have a:=a.s1 I;have x:=x.kq I;have g:=g.kq I;have j:=j.kq I;have f:=f.q8 q I an;have c:=c.q8 q I an;have i:=i.q8 q I an;have p:=p.q8 q I an;have t:=t.q8 q I an;have q:=a5;refine wh 14 rfl o (eA rfl) ?_;refine WH.done oR (c9 _ _ _ ?_);exact ⟨rfl,b7,rs,x,f,c,g,i,j,p,q,t,a,by (repeat (first|exact q9.nil|refine q9.cons rfl ?_))⟩
  refine ahj.vZ (l:=[.bool false,.slice none 0 0,.int .i64 0]) 12 rfl o rfl rfl λb7 h2 q B X a8=>?_;have a7:=Nat.le_trans o.size X;have o:=a8;have c0:=Nat.le_trans a.size X;have a:=a.ta B;have f:=f.q5 B;have c:=c.q5 B;have i:=i.q5 B;have p:=p.q5 B;have d5:b≠b7:=by have:=x.lt;omega
  have x:=x.q5 B;have c5:=zdd g.lt X;have g:=g.k0 B;have c3:=zdd j.lt X;have j:=j.k0 B;refine WH.k6 8 rfl oR hasF96 rfl rfl (sX _ _ _ _ _ _ _ _ _ f f (aJ J) (aJ J) (by have:=J.len;omega) (by have:=J.len;omega)) λv w7 h'=>?_;obtain ⟨hD,r⟩:=h';rw[jX J J] at hD;obtain ⟨rs,h4,rfl,t⟩:=hD.bjx;have f4:=t.one;have a:=a.ta r;have x:=x.q5 r;have g:=g.k0 r;have j:=j.k0 r;have q:=q.k0 r;have f:=f.q5 r;have c:=c.q5 r;have i:=i.q5 r;have p:=p.q5 r;have o:=o.trans r;refine ⟨o,?_⟩;refine wh 9 rfl o (eM rfl) (wh 10 rfl o (eX rfl rfl) (wh 11 rfl o (eX rfl rfl) ?_));refine WH.sQ 13 rfl oR o a7 rfl rfl rfl ao q oS rfl λl5 a5 H o=>?_;(try simp only[qt] at a5);have a:=a.s1 H;have x:=x.kq H;have g:=g.kq H;have j:=j.kq H;have f:=f.q8 q H an;have c:=c.q8 q H an;have i:=i.q8 q H an;have p:=p.q8 q H an;have t:=t.q8 q H an;have q:=a5;refine wh 14 rfl o (eA rfl) ?_;refine WH.done oR (c9 _ _ _ ?_);exact ⟨rfl,b7,rs,x,f,c,g,i,j,p,q,t,a,by (repeat (first|exact q9.nil|refine q9.cons rfl ?_))⟩
 rintro _ s' wJ ⟨rfl,b7,rs,x,f,c,g,i,j,p,q,t,a,b6⟩;refine CW.sub b6 ?_;have f5:=i.one;have f2:=p.one;have i7:=t.one;refine CW.anx (λD s' w'=>D=[]/\∃ (b7:Nat) (rs:Value) (b9:Nat) (ru:Value),BK w' b 148 [.int .i64 (S.s.na:Int),.int .i64 (S.s.up:Int),.int .i64 (S.s.dn:Int),.int .i64 (S.s.mi:Int),.int .i64 (S.s.pl:Int),.int .i64 (S.s.al:Int),.bool S.V.neg,.slice av (wd S.V.m).length cv,.int .i64 S.V.e,.bool S.Q.neg,.slice aq (wd S.Q.m).length cq,.int .i64 S.Q.e,.float .f64 S.lo,.float .f64 S.hi]/\NU w' (.slice av (wd S.V.m).length cv) (wd S.V.m)/\NU w' (.slice aq (wd S.Q.m).length cq) (wd S.Q.m)/\BK w' b4 89 [.bool (cZ (k:Int)).neg,rn,.int .i64 (cZ (k:Int)).e]/\NU w' rn (wd (cZ (k:Int)).m)/\BK w' b5 89 [.bool ((fJ (cZ (k:Int)) axx).getD Dy.zero).neg,rt,.int .i64 ((fJ (cZ (k:Int)) axx).getD Dy.zero).e]/\NU w' rt (wd ((fJ (cZ (k:Int)) axx).getD Dy.zero).m)/\BK w' b7 89 [.bool ((fJ S.V S.V).getD Dy.zero).neg,rs,.int .i64 ((fJ S.V S.V).getD Dy.zero).e]/\NU w' rs (wd ((fJ S.V S.V).getD Dy.zero).m)/\BK w' b9 89 [.bool ((fJ (cZ (k:Int)) S.Q).getD Dy.zero).neg,ru,.int .i64 ((fJ (cZ (k:Int)) S.Q).getD Dy.zero).e]/\NU w' ru (wd ((fJ (cZ (k:Int)) S.Q).getD Dy.zero).m)/\Chg [] w w'/\q9 [(0,.pointer (some ⟨b,0,none⟩)),(4,.pointer (some ⟨b4,0,none⟩)),(5,.pointer (some ⟨b5,0,none⟩)),(7,.pointer (some ⟨b7,0,none⟩)),(9,.pointer (some ⟨b9,0,none⟩))] s') ?_ ?_
 ·refine CW.bZ 12 rfl cJ λm0 c8 o A=>?_;have a:=a.ta A;have x:=x.q5 A;have g:=g.k0 A;have j:=j.k0 A;have q:=q.k0 A;have f:=f.q5 A;have c:=c.q5 A;have i:=i.q5 A;have p:=p.q5 A;have t:=t.q5 A;have a3:=x;have e2:=g;refine wh 0 rfl o (λ_ R=>Ev.oQ rfl rfl (e2.q5 R) rfl) (wh 1 rfl o (eM rfl) (wh 2 rfl o (eP rfl) (wh 3 rfl o (eF rfl) (wh 4 rfl o (λ_ R=>Ev.fQ rfl rfl (a3.q5 R) rfl rfl) ?_))))
  try simp only[oL]
  refine WH.c2j 5 9 oR ?_ ?_
  ·refine ahj.call 5 rfl hasF96 rfl rfl (sX _ _ _ _ _ _ _ _ _ i c (aJ a1) (aJ U) (by have:=a1.len;omega) (by have:=U.len;omega)) λv w8 h'=>?_;obtain ⟨hD,r⟩:=h';rw[jX a1 U] at hD;obtain ⟨ru,h3,rfl,M⟩:=hD.bjx;have f3:=M.one;have a:=a.ta r;have x:=x.q5 r;have g:=g.k0 r;have j:=j.k0 r;have q:=q.k0 r;have f:=f.q5 r;have c:=c.q5 r;have i:=i.q5 r;have p:=p.q5 r;have t:=t.q5 r;have o:=o.trans r;refine ⟨o,?_⟩;refine wh 6 rfl o (eM rfl) (wh 7 rfl o (eX rfl rfl) (wh 8 rfl o (eX rfl rfl) ?_));refine WH.vZ (l:=[.bool false,.slice none 0 0,.int .i64 0]) 9 rfl oR o rfl rfl λb9 g9 C y O a8=>?_;have a6:=Nat.le_trans o.size O;have o:=a8;have b8:=Nat.le_trans a.size O;have a:=a.ta y;have f:=f.q5 y;have c:=c.q5 y;have i:=i.q5 y;have p:=p.q5 y;have t:=t.q5 y;have M:=M.q5 y;have d4:b≠b9:=by have:=x.lt;omega
   have x:=x.q5 y;have c4:=zdd g.lt O;have g:=g.k0 y;have c2:=zdd j.lt O;have j:=j.k0 y;have c1:=zdd q.lt O;have q:=q.k0 y;refine WH.sQ 10 rfl oR o a6 rfl rfl rfl ao C oS rfl λl4 a4 G o=>?_;(try simp only[qt] at a4);have a:=a.s1 G;have x:=x.kq G;have g:=g.kq G;have j:=j.kq G;have q:=q.kq G;have f:=f.q8 C G an;have c:=c.q8 C G an;have i:=i.q8 C G an;have p:=p.q8 C G an;have t:=t.q8 C G an;have M:=M.q8 C G an;have C:=a4;refine wh 11 rfl o (eA rfl) ?_;refine WH.done oR (c8 _ _ _ ?_);exact ⟨rfl,b7,rs,b9,ru,x,f,c,g,i,j,p,q,t,C,M,a,by (repeat (first|exact q9.nil|refine q9.cons rfl ?_))⟩
  refine ahj.vZ (l:=[.bool false,.slice none 0 0,.int .i64 0]) 9 rfl o rfl rfl λb9 g9 C y O a8=>?_;have a6:=Nat.le_trans o.size O;have o:=a8;have b8:=Nat.le_trans a.size O;have a:=a.ta y;have f:=f.q5 y;have c:=c.q5 y;have i:=i.q5 y;have p:=p.q5 y;have t:=t.q5 y;have d4:b≠b9:=by have:=x.lt;omega
  have x:=x.q5 y;have c4:=zdd g.lt O;have g:=g.k0 y;have c2:=zdd j.lt O;have j:=j.k0 y;have c1:=zdd q.lt O;have q:=q.k0 y;refine WH.k6 5 rfl oR hasF96 rfl rfl (sX _ _ _ _ _ _ _ _ _ i c (aJ a1) (aJ U) (by have:=a1.len;omega) (by have:=U.len;omega)) λv w9 h'=>?_;obtain ⟨hD,r⟩:=h';rw[jX a1 U] at hD;obtain ⟨ru,h3,rfl,M⟩:=hD.bjx;have f3:=M.one;have a:=a.ta r;have x:=x.q5 r;have g:=g.k0 r;have j:=j.k0 r;have q:=q.k0 r;have C:=C.k0 r;have f:=f.q5 r;have c:=c.q5 r;have i:=i.q5 r;have p:=p.q5 r;have t:=t.q5 r;have o:=o.trans r;refine ⟨o,?_⟩;refine wh 6 rfl o (eM rfl) (wh 7 rfl o (eX rfl rfl) (wh 8 rfl o (eX rfl rfl) ?_));refine WH.sQ 10 rfl oR o a6 rfl rfl rfl ao C oS rfl λl3 a4 F o=>?_;(try simp only[qt] at a4);have a:=a.s1 F;have x:=x.kq F;have g:=g.kq F;have j:=j.kq F;have q:=q.kq F;have f:=f.q8 C F an;have c:=c.q8 C F an;have i:=i.q8 C F an;have p:=p.q8 C F an;have t:=t.q8 C F an;have M:=M.q8 C F an;have C:=a4;refine wh 11 rfl o (eA rfl) ?_;refine WH.done oR (c8 _ _ _ ?_);exact ⟨rfl,b7,rs,b9,ru,x,f,c,g,i,j,p,q,t,C,M,a,by (repeat (first|exact q9.nil|refine q9.cons rfl ?_))⟩
 rintro _ s' wJ ⟨rfl,b7,rs,b9,ru,x,f,c,g,i,j,p,q,t,C,M,a,b6⟩;refine CW.sub b6 ?_;have f5:=i.one;have f2:=p.one;have i7:=t.one;have n6:=M.one;refine zc λ_ d0=>?_;refine CW.bZ 14 rfl cJ λl9 c7 o A=>?_;have a:=a.ta A;have x:=x.q5 A;have j:=j.k0 A;have q:=q.k0 A;have C:=C.k0 A;have c:=c.q5 A;have p:=p.q5 A;have t:=t.q5 A;have M:=M.q5 A;have a3:=x;have e1:=j;have e0:=q;have d9:=C;refine wh 0 rfl o (eM rfl) (wh 1 rfl o (eP rfl) (wh 2 rfl o (eF rfl) (wh 3 rfl o (λ_ R=>Ev.fQ rfl rfl (a3.q5 R) rfl rfl) ?_)))
 try simp only[oL]
 refine wh 4 rfl o (λ_ R=>Ev.oQ rfl rfl (e1.q5 R) rfl) ?_;refine WH.k6 5 rfl oR hasF160 rfl rfl (diq _ _ _ _ _ _ _ _ _ c p (aJ U) (aJ (tX λd h=>mQ h:((fJ (cZ (k:Int)) axx).getD Dy.zero).ok)) (by have:=(U:Dy.ok _).len;omega) (by have:=((tX λd h=>mQ h:((fJ (cZ (k:Int)) axx).getD Dy.zero).ok):Dy.ok _).len;omega)) λv m9 h'=>?_;obtain ⟨rfl,r⟩:=h';rw[g6,g6];have a:=a.ta r;have t:=t.q5 r;have M:=M.q5 r;have o:=o.trans r;refine ⟨o,?_⟩
 by_cases hq100:cmpY S.Q ((fJ (cZ (k:Int)) axx).getD Dy.zero)<0
 ·refine wh 6 rfl o (λ_ _=>Ev.lss rfl rfl) ?_;rw[show decide (bpx _ _ _ _ _ _<0)=true from decide_eq_true hq100];refine wh 7 rfl o (eM rfl) (wg 8 rfl rfl rfl rfl rfl o (λ_ R=>Ev.oQ rfl rfl (e0.q5 R) rfl) (wg 9 rfl rfl rfl rfl rfl o (λ_ R=>Ev.oQ rfl rfl (d9.q5 R) rfl) ?_));refine WH.rX 10 rfl oR rfl rfl rfl rfl hasF160 rfl rfl (diq _ _ _ _ _ _ _ _ _ t M (aJ (tX λd h=>mQ h:((fJ S.V S.V).getD Dy.zero).ok)) (aJ (tX λd h=>mQ h:((fJ (cZ (k:Int)) S.Q).getD Dy.zero).ok)) (by have:=((tX λd h=>mQ h:((fJ S.V S.V).getD Dy.zero).ok):Dy.ok _).len;omega) (by have:=((tX λd h=>mQ h:((fJ (cZ (k:Int)) S.Q).getD Dy.zero).ok):Dy.ok _).len;omega)) λv m8 h'=>?_;obtain ⟨rfl,r⟩:=h';rw[g6,g6];have a:=a.ta r;have o:=o.trans r;refine ⟨o,?_⟩;refine wg 11 rfl rfl rfl rfl rfl o (λ_ _=>Ev.leq rfl rfl) (wh 12 rfl o (λ_ _=>Ev.aex rfl rfl rfl) (wh 13 rfl o (eA rfl) ?_));refine WH.done oR (c7 _ _ _ ?_);refine d0 ?_;refine zr (zr1 rfl rfl ?_);refine ⟨congrArg Value.bool (decide_eq_decide.2 ?_),a⟩;unfold rJ;rw[hk,if_neg e4];exact ⟨λz=>⟨h1,hq100,z⟩,λz=>z.2.2⟩
 refine wh 6 rfl o (λ_ _=>Ev.lss rfl rfl) ?_;rw[show decide (bpx _ _ _ _ _ _<0)=false from decide_eq_false hq100];refine wh 7 rfl o (eM rfl) (wp 8 rfl rfl rfl rfl rfl o (wp 9 rfl rfl rfl rfl rfl o ?_));refine WH.ayj 10 rfl oR rfl rfl rfl rfl o rfl ?_;refine wp 11 rfl rfl rfl rfl rfl o (wh 12 rfl o (λ_ _=>Ev.anq rfl rfl rfl) (wh 13 rfl o (eA rfl) ?_));refine WH.done oR (c7 _ _ _ ?_);refine d0 ?_;refine zr (zr1 rfl rfl ?_);refine ⟨congrArg Value.bool (decide_eq_false λz=>?_).symm,a⟩;unfold rJ at z;rw[hk,if_neg e4] at z;exact hq100 z.2.1
theorem inf_m{x:Nat}: kJ x (-1)↔x=18442240474082181120:=by simp[kJ]
theorem inf_p{x:Nat}: kJ x 1↔x=9218868437227405312:=by simp[kJ]
theorem inf_0{x:Nat}: kJ x 0↔x%9223372036854775808=9218868437227405312:=by simp[kJ]
theorem k_le5(x:Nat):k7 x<=5:=by
  unfold k7
  repeat' split
  all_goals omega
theorem end_lo{S:Sh}(a:S.lo<18446744073709551616)(c:cX S.s)(b:S.some)(m:k7 S.lo≠5):apj S.lo (-1) S.s.dn S.s.up S.s.mi S↔(if 0<S.s.dn then k7 S.lo=4 else if S.fin=0 then k7 S.lo=3 else if S.pln=0/\0<S.s.mi then k7 S.lo=1 else if S.pln=0 then k7 S.lo=2 else k7 S.lo<=2):=by
  obtain ⟨d,e,g,i,h⟩:=kd a
  have k:=k_le5 S.lo
  unfold cX at c
  unfold Sh.some at b
  have l:S.fin=(S.s.al:Int)-S.s.na-S.s.up-S.s.dn:=rfl
  have j:S.pln=S.fin-S.s.mi-S.s.pl:=rfl
  unfold apj
  simp only[inf_m,show (-(-1:Int))=1 from rfl,inf_p,inf_0]
  generalize S.fin=f at *
  generalize S.pln=p at *
  generalize S.lo=x at *
  by_cases a1:0<S.s.dn
  · rw[if_pos a1,if_pos a1];omega
  rw[if_neg a1,if_neg a1]
  by_cases a2:f=0
  · rw[if_pos a2,if_pos a2];omega
  rw[if_neg a2,if_neg a2]
  by_cases a3:p=0
  · by_cases a4:0<S.s.mi
    · rw[if_pos (show p=0/\0<S.s.mi from ⟨a3,a4⟩)]
      split
      · simp only[false_iff];omega
      · rw[if_neg oO];simp only[a4,iff_true];omega
    · rw[if_neg (show ¬(p=0/\0<S.s.mi) by omega),if_pos a3]
      split
      · simp only[false_iff];omega
      · rw[if_neg oO];simp only[a4,iff_false];omega
  · rw[if_neg (show ¬(p=0/\0<S.s.mi) by omega),if_neg a3]
    split
    · simp only[false_iff];omega
    · rw[if_pos oO];simp only[true_iff];omega
theorem end_hi{S:Sh}(a:S.hi<18446744073709551616)(c:cX S.s)(b:S.some)(m:k7 S.hi≠5):apj S.hi 1 S.s.up S.s.dn S.s.pl S↔(if 0<S.s.up then k7 S.hi=3 else if S.fin=0 then k7 S.hi=4 else if S.pln=0/\0<S.s.pl then k7 S.hi=2 else if S.pln=0 then k7 S.hi=1 else k7 S.hi<=2):=by
  obtain ⟨d,e,g,i,h⟩:=kd a
  have k:=k_le5 S.hi
  unfold cX at c
  unfold Sh.some at b
  have l:S.fin=(S.s.al:Int)-S.s.na-S.s.up-S.s.dn:=rfl
  have j:S.pln=S.fin-S.s.mi-S.s.pl:=rfl
  unfold apj
  simp only[inf_p,inf_m,inf_0]
  generalize S.fin=f at *
  generalize S.pln=p at *
  generalize S.hi=x at *
  by_cases a1:0<S.s.up
  · rw[if_pos a1,if_pos a1];omega
  rw[if_neg a1,if_neg a1]
  by_cases a2:f=0
  · rw[if_pos a2,if_pos a2];omega
  rw[if_neg a2,if_neg a2]
  by_cases a3:p=0
  · by_cases a4:0<S.s.pl
    · rw[if_pos (show p=0/\0<S.s.pl from ⟨a3,a4⟩)]
      split
      · simp only[false_iff];omega
      · rw[if_neg oO];simp only[a4,iff_true];omega
    · rw[if_neg (show ¬(p=0/\0<S.s.pl) by omega),if_pos a3]
      split
      · simp only[false_iff];omega
      · rw[if_neg oO];simp only[a4,iff_false];omega
  · rw[if_neg (show ¬(p=0/\0<S.s.pl) by omega),if_neg a3]
    split
    · simp only[false_iff];omega
    · rw[if_pos oO];simp only[true_iff];omega
theorem r21ends_spec(b:Nat)(S:Sh)(w:World)(c:ShM 148 w b S)(e7:S.s.le 1099511627776)(n:S.lo<18446744073709551616)(o:S.hi<18446744073709551616)(d7:cX S.s)(d0:S.some):Ret Tryz.prog 93 [.pointer (some ⟨b,0,none⟩)] w λu w'=>u = .bool (decide (vQ S))/\Chg [] w w':=by
  obtain ⟨rv,rq,g,d,f⟩:=c;obtain ⟨d6,d5,d4,d3,d2,d1⟩:=e7;have a:=crf w;refine zE1 Tryz.func93 rfl ?_;refine Sr λ_ e6=>za rfl (zz (e6 (Sr λ_ e5=>zm rfl (zP rfl (zf rfl ?_)))));refine WL.ev (Ev.fQ (cs:=[.int .i64 (S.s.na:Int),.int .i64 (S.s.up:Int),.int .i64 (S.s.dn:Int),.int .i64 (S.s.mi:Int),.int .i64 (S.s.pl:Int),.int .i64 (S.s.al:Int)]) rfl rfl g rfl rfl) rfl ?_;refine WL.call hasF107 rfl rfl (avx S.s _ ⟨d6,d5,d4,d3,d2,d1⟩) λv w1 B=>?_;obtain ⟨rfl,A⟩:=B;rw[show ((S.s.al:Int)-S.s.na-S.s.up-S.s.dn)=S.fin from rfl];have a:=a.ta A;have g:=g.q5 A;have d:=d.q5 A;have f:=f.q5 A;refine za rfl (zz (e5 (Sr λ_ e4=>zm rfl (zP rfl (zf rfl (zl g rfl rfl ?_))))));refine WL.call hasF161 rfl rfl (byx S.lo _ n) λv w2 B=>?_;obtain ⟨rfl,rfl⟩:=B;refine za rfl (zz (e4 (Sr λ_ e3=>zm rfl (zP rfl (zf rfl (zl g rfl rfl ?_))))));refine WL.call hasF161 rfl rfl (byx S.hi _ o) λv w3 B=>?_;obtain ⟨rfl,rfl⟩:=B;refine za rfl (zz (e3 (zc λ_ e2=>?_)));refine CW.axj 41 (decide (isNaN S.lo=true\/isNaN S.hi=true\/key S.hi<key S.lo)) ?_ ?_
  · intro l;refine CW.bZ 18 rfl cJ λf2 p c d9=>?_;have l:=l.ta d9;have g:=g.q5 d9;have H:=g;refine wh 0 rfl c (eM rfl) (wh 1 rfl c (λ_ _=>Ev.eql rfl rfl) ?_)
    by_cases h:isNaN S.lo=true
    · rw[decide_eq_true (show (k7 S.lo:Int)=5 by have:=(aeq n).1 h;omega)];refine wh 2 rfl c (eM rfl) (wp 3 rfl rfl rfl rfl rfl c (wp 4 rfl rfl rfl rfl rfl c (wh 5 rfl c (λ_ _=>Ev.aex rfl rfl rfl) (wh 6 rfl c (eM rfl) (wp 7 rfl rfl rfl rfl rfl c (wp 8 rfl rfl rfl rfl rfl c (wp 9 rfl rfl rfl rfl rfl c (wp 10 rfl rfl rfl rfl rfl c (wp 11 rfl rfl rfl rfl rfl c (wp 12 rfl rfl rfl rfl rfl c (wp 13 rfl rfl rfl rfl rfl c (wp 14 rfl rfl rfl rfl rfl c ?_))))))))))));refine WH.ayj 15 rfl oR rfl rfl rfl rfl c rfl ?_;refine wp 16 rfl rfl rfl rfl rfl c (wh 17 rfl c (λ_ _=>Ev.aex rfl rfl rfl) ?_);refine WH.done oR (p _ _ _ ?_);refine ⟨rfl,l,q9.g7 rfl ?_ ?_⟩
      · first|(refine (decide_eq_true ?_).symm;exact .inl h)|(refine (decide_eq_true ?_).symm;exact .inr (.inl i))|(refine decide_eq_decide.2 ?_;rw[afx];exact ⟨λz=>.inr (.inr z),λz=>(z.resolve_left h).resolve_left i⟩)
      exact SMg
    rw[decide_eq_false (show ¬(k7 S.lo:Int)=5 by have : ¬k7 S.lo=5:=λz=>h ((aeq n).2 z);omega)];refine wh 2 rfl c (eM rfl) (wg 3 rfl rfl rfl rfl rfl c (eM rfl) (wg 4 rfl rfl rfl rfl rfl c (λ_ _=>Ev.eql rfl rfl) ?_))
    by_cases i:isNaN S.hi=true
    · rw[decide_eq_true (show (k7 S.hi:Int)=5 by have:=(aeq o).1 i;omega)];refine wh 5 rfl c (λ_ _=>Ev.anq rfl rfl rfl) (wh 6 rfl c (eM rfl) (wp 7 rfl rfl rfl rfl rfl c (wp 8 rfl rfl rfl rfl rfl c (wp 9 rfl rfl rfl rfl rfl c (wp 10 rfl rfl rfl rfl rfl c (wp 11 rfl rfl rfl rfl rfl c (wp 12 rfl rfl rfl rfl rfl c (wp 13 rfl rfl rfl rfl rfl c (wp 14 rfl rfl rfl rfl rfl c ?_)))))))));refine WH.ayj 15 rfl oR rfl rfl rfl rfl c rfl ?_;refine wp 16 rfl rfl rfl rfl rfl c (wh 17 rfl c (λ_ _=>Ev.aex rfl rfl rfl) ?_);refine WH.done oR (p _ _ _ ?_);refine ⟨rfl,l,q9.g7 rfl ?_ ?_⟩
      · first|(refine (decide_eq_true ?_).symm;exact .inl h)|(refine (decide_eq_true ?_).symm;exact .inr (.inl i))|(refine decide_eq_decide.2 ?_;rw[afx];exact ⟨λz=>.inr (.inr z),λz=>(z.resolve_left h).resolve_left i⟩)
      exact SMg
    rw[decide_eq_false (show ¬(k7 S.hi:Int)=5 by have : ¬k7 S.hi=5:=λz=>i ((aeq o).2 z);omega)];refine wh 5 rfl c (λ_ _=>Ev.anq rfl rfl rfl) (wh 6 rfl c (eM rfl) (wg 7 rfl rfl rfl rfl rfl c (eM rfl) (wg 8 rfl rfl rfl rfl rfl c (eP rfl) (wg 9 rfl rfl rfl rfl rfl c (eF rfl) (wg 10 rfl rfl rfl rfl rfl c (λ_ I=>Ev.load rfl rfl ((H.q5 I).at_ rfl)) (wg 11 rfl rfl rfl rfl rfl c (eM rfl) (wg 12 rfl rfl rfl rfl rfl c (eP rfl) (wg 13 rfl rfl rfl rfl rfl c (eF rfl) (wg 14 rfl rfl rfl rfl rfl c (λ_ I=>Ev.load rfl rfl ((H.q5 I).at_ rfl)) ?_)))))))));refine WH.rX 15 rfl oR rfl rfl rfl rfl hasF99 rfl rfl (kZ S.lo S.hi n o _) λv w4 B=>?_;obtain ⟨rfl,rfl⟩:=B;rw[asx (Bool.eq_false_iff.2 h),asx (Bool.eq_false_iff.2 i)];refine ⟨c,?_⟩;refine wg 16 rfl rfl rfl rfl rfl c (λ_ _=>Ev.gtr rfl rfl) (wh 17 rfl c (λ_ _=>Ev.anq rfl rfl rfl) ?_);refine WH.done oR (p _ _ _ ?_);refine ⟨rfl,l,q9.g7 rfl ?_ ?_⟩
    · first|(refine (decide_eq_true ?_).symm;exact .inl h)|(refine (decide_eq_true ?_).symm;exact .inr (.inl i))|(refine decide_eq_decide.2 ?_;rw[afx];exact ⟨λz=>.inr (.inr z),λz=>(z.resolve_left h).resolve_left i⟩)
    exact SMg
  intro wM l;have a:=a.ta l;have g:=g.q5 l;have d:=d.q5 l;have f:=f.q5 l;refine zy rfl ?_ ?_<;>intro Z<;>try simp only[qs] at Z
  · have hn:isNaN S.lo=true\/isNaN S.hi=true\/key S.hi<key S.lo:=Z
    refine Sr λ_ c9=>za rfl (zz (c9 ?_));refine zr (zr1 rfl rfl ?_);refine ⟨congrArg Value.bool (decide_eq_false λz=>z.1 hn).symm,a⟩
  have hn : ¬(isNaN S.lo=true\/isNaN S.hi=true\/key S.hi<key S.lo):=Z;have h:k7 S.lo≠5:=λz=>hn (.inl ((aeq n).2 z));have i:k7 S.hi≠5:=λz=>hn (.inr (.inl ((aeq o).2 z)));have j:=end_lo n d7 d0 h;have k:=end_hi o d7 d0 i;refine zkk (e2 (Sr λ_ c8=>zm rfl (zQ rfl rfl (za rfl (zz (c8 (Sr λ_ c7=>zm rfl (zQ rfl rfl (za rfl (zz (c7 (Sr λ_ c6=>zm rfl (zP rfl (zf rfl ?_))))))))))))));refine WL.ev (Ev.fQ (cs:=[.int .i64 (S.s.na:Int),.int .i64 (S.s.up:Int),.int .i64 (S.s.dn:Int),.int .i64 (S.s.mi:Int),.int .i64 (S.s.pl:Int),.int .i64 (S.s.al:Int)]) rfl rfl g rfl rfl) rfl ?_;refine WL.call hasF156 rfl rfl (b9j S.s _ ⟨d6,d5,d4,d3,d2,d1⟩) λv w5 B=>?_;obtain ⟨rfl,A⟩:=B;rw[show ((S.s.al:Int)-S.s.na-S.s.up-S.s.dn-S.s.mi-S.s.pl)=S.pln from rfl];have a:=a.ta A;have g:=g.q5 A;have d:=d.q5 A;have f:=f.q5 A;refine zq rfl rfl (za rfl (zz (c6 ?_)));refine CW.anx (λD s' w'=>D=[]/\BK w' b 148 [.int .i64 (S.s.na:Int),.int .i64 (S.s.up:Int),.int .i64 (S.s.dn:Int),.int .i64 (S.s.mi:Int),.int .i64 (S.s.pl:Int),.int .i64 (S.s.al:Int),.bool S.V.neg,rv,.int .i64 S.V.e,.bool S.Q.neg,rq,.int .i64 S.Q.e,.float .f64 S.lo,.float .f64 S.hi]/\NU w' rv (wd S.V.m)/\NU w' rq (wd S.Q.m)/\Chg [] w w'/\q9 [(6,.bool (decide (apj S.lo (-1) S.s.dn S.s.up S.s.mi S))),(0,.pointer (some ⟨b,0,none⟩)),(3,.int .i64 S.fin),(4,.int .i64 (k7 S.lo:Int)),(5,.int .i64 (k7 S.hi:Int)),(8,.bool (decide (S.pln=0))),(7,.bool (decide ((k7 S.hi:Int)<=2)))] s') ?_ ?_
  · refine CW.block (Sr λ_ c5=>zm rfl (zP rfl (zf rfl (zf rfl (zl g rfl rfl (zG rfl rfl (za rfl (zz (c5 ?_)))))))));refine zy rfl ?_ ?_<;>intro Y<;>try simp only[qs] at Y
    · have a1:0<S.s.dn:=by have:=Y;omega
      refine zS λ_ b7=>zm rfl (zq rfl rfl (za rfl (zz (b7 ?_))));refine ⟨rfl,g,d,f,a,q9.g7 rfl ?_ ?_⟩
      · refine decide_eq_decide.2 ?_
        rw[j]
        first|(rw[if_pos oA];omega)|(rw[if_neg oA,if_pos oA];omega)|(rw[if_neg oA,if_neg oA,if_pos oO];omega)|(rw[if_neg oA,if_neg oA,if_neg oO,if_pos oO];omega)|(rw[if_neg oA,if_neg oA,if_neg oO,if_neg oO];omega)
      (repeat (first|exact q9.nil|refine q9.cons rfl ?_))
    have a1 : ¬0<S.s.dn:=by have:=Y;omega
    refine Sr λ_ c4=>zm rfl (zq rfl rfl (za rfl (zz (c4 ?_))));refine zy rfl ?_ ?_<;>intro X<;>try simp only[qs] at X
    · have a2:S.fin=0:=X
      refine zS λ_ b6=>zm rfl (zq rfl rfl (za rfl (zz (b6 ?_))));refine ⟨rfl,g,d,f,a,q9.g7 rfl ?_ ?_⟩
      · refine decide_eq_decide.2 ?_
        rw[j]
        first|(rw[if_pos oA];omega)|(rw[if_neg oA,if_pos oA];omega)|(rw[if_neg oA,if_neg oA,if_pos oO];omega)|(rw[if_neg oA,if_neg oA,if_neg oO,if_pos oO];omega)|(rw[if_neg oA,if_neg oA,if_neg oO,if_neg oO];omega)
      (repeat (first|exact q9.nil|refine q9.cons rfl ?_))
    have a2 : ¬S.fin=0:=X;refine Sr λ_ G=>zm rfl (zm rfl ?_);refine zb ?_ ?_<;>intro J<;>try simp only[qs] at J
    · have a3:S.pln=0:=by simpa using J
      refine zw rfl (zm rfl (zw rfl (zP rfl (zw rfl (zf rfl (zw rfl (zf rfl (zw rfl (zl g rfl rfl (zw rfl (zG rfl rfl (zt rfl rfl (za rfl (zz (G ?_)))))))))))))));refine zy rfl ?_ ?_<;>intro U<;>try simp only[qs] at U
      · have a4:0<S.s.mi:=by have:=U;omega
        refine zS λ_ b5=>zm rfl (zq rfl rfl (za rfl (zz (b5 ?_))));refine ⟨rfl,g,d,f,a,q9.g7 rfl ?_ ?_⟩
        · refine decide_eq_decide.2 ?_
          rw[j]
          first|(rw[if_pos oA];omega)|(rw[if_neg oA,if_pos oA];omega)|(rw[if_neg oA,if_neg oA,if_pos oO];omega)|(rw[if_neg oA,if_neg oA,if_neg oO,if_pos oO];omega)|(rw[if_neg oA,if_neg oA,if_neg oO,if_neg oO];omega)
        (repeat (first|exact q9.nil|refine q9.cons rfl ?_))
      have a4:=U;refine Sr λ_ c3=>zm rfl (za rfl (zz (c3 ?_)));refine zy rfl ?_ ?_<;>intro T<;>try simp only[qs] at T
      · have a5:S.pln=0:=by simpa using T
        refine zS λ_ b4=>zm rfl (zq rfl rfl (za rfl (zz (b4 ?_))));refine ⟨rfl,g,d,f,a,q9.g7 rfl ?_ ?_⟩
        · refine decide_eq_decide.2 ?_
          rw[j]
          first|(rw[if_pos oA];omega)|(rw[if_neg oA,if_pos oA];omega)|(rw[if_neg oA,if_neg oA,if_pos oO];omega)|(rw[if_neg oA,if_neg oA,if_neg oO,if_pos oO];omega)|(rw[if_neg oA,if_neg oA,if_neg oO,if_neg oO];omega)
        (repeat (first|exact q9.nil|refine q9.cons rfl ?_))
      have a5 : ¬S.pln=0:=by simpa using T
      refine zkk ?_;refine ⟨rfl,g,d,f,a,q9.g7 rfl ?_ ?_⟩
      · refine decide_eq_decide.2 ?_
        rw[j]
        first|(rw[if_pos oA];omega)|(rw[if_neg oA,if_pos oA];omega)|(rw[if_neg oA,if_neg oA,if_pos oO];omega)|(rw[if_neg oA,if_neg oA,if_neg oO,if_pos oO];omega)|(rw[if_neg oA,if_neg oA,if_neg oO,if_neg oO];omega)
      (repeat (first|exact q9.nil|refine q9.cons rfl ?_))
    have a3 : ¬S.pln=0:=by simpa using J
    refine zv rfl (zv rfl (zv rfl (zv rfl (zv rfl (zv rfl (ze rfl rfl (za rfl (zz (G ?_)))))))));refine CW.oX rfl ?_;refine Sr λ_ c2=>zm rfl (za rfl (zz (c2 ?_)));refine zy rfl ?_ ?_<;>intro R<;>try simp only[qs] at R
    · have a5:S.pln=0:=by simpa using R
      refine zS λ_ b3=>zm rfl (zq rfl rfl (za rfl (zz (b3 ?_))));refine ⟨rfl,g,d,f,a,q9.g7 rfl ?_ ?_⟩
      · refine decide_eq_decide.2 ?_
        rw[j]
        first|(rw[if_pos oA];omega)|(rw[if_neg oA,if_pos oA];omega)|(rw[if_neg oA,if_neg oA,if_pos oO];omega)|(rw[if_neg oA,if_neg oA,if_neg oO,if_pos oO];omega)|(rw[if_neg oA,if_neg oA,if_neg oO,if_neg oO];omega)
      (repeat (first|exact q9.nil|refine q9.cons rfl ?_))
    have a5 : ¬S.pln=0:=by simpa using R
    refine zkk ?_;refine ⟨rfl,g,d,f,a,q9.g7 rfl ?_ ?_⟩
    · refine decide_eq_decide.2 ?_
      rw[j]
      first|(rw[if_pos oA];omega)|(rw[if_neg oA,if_pos oA];omega)|(rw[if_neg oA,if_neg oA,if_pos oO];omega)|(rw[if_neg oA,if_neg oA,if_neg oO,if_pos oO];omega)|(rw[if_neg oA,if_neg oA,if_neg oO,if_neg oO];omega)
    (repeat (first|exact q9.nil|refine q9.cons rfl ?_))
  rintro _ s' wJ ⟨rfl,g,d,f,a,q⟩;refine CW.sub q ?_;refine CW.anx (λD s' w'=>D=[]/\BK w' b 148 [.int .i64 (S.s.na:Int),.int .i64 (S.s.up:Int),.int .i64 (S.s.dn:Int),.int .i64 (S.s.mi:Int),.int .i64 (S.s.pl:Int),.int .i64 (S.s.al:Int),.bool S.V.neg,rv,.int .i64 S.V.e,.bool S.Q.neg,rq,.int .i64 S.Q.e,.float .f64 S.lo,.float .f64 S.hi]/\NU w' rv (wd S.V.m)/\NU w' rq (wd S.Q.m)/\Chg [] w w'/\q9 [(7,.bool (decide (apj S.hi 1 S.s.up S.s.dn S.s.pl S))),(0,.pointer (some ⟨b,0,none⟩)),(3,.int .i64 S.fin),(4,.int .i64 (k7 S.lo:Int)),(5,.int .i64 (k7 S.hi:Int)),(8,.bool (decide (S.pln=0))),(6,.bool (decide (apj S.lo (-1) S.s.dn S.s.up S.s.mi S)))] s') ?_ ?_
  · refine CW.block (Sr λ_ c1=>zm rfl (zP rfl (zf rfl (zf rfl (zl g rfl rfl (zG rfl rfl (za rfl (zz (c1 ?_)))))))));refine zy rfl ?_ ?_<;>intro O<;>try simp only[qs] at O
    · have a1:0<S.s.up:=by have:=O;omega
      refine zS λ_ b2=>zm rfl (zq rfl rfl (za rfl (zz (b2 ?_))));refine ⟨rfl,g,d,f,a,q9.g7 rfl ?_ ?_⟩
      · refine decide_eq_decide.2 ?_
        rw[k]
        first|(rw[if_pos oA];omega)|(rw[if_neg oA,if_pos oA];omega)|(rw[if_neg oA,if_neg oA,if_pos oO];omega)|(rw[if_neg oA,if_neg oA,if_neg oO,if_pos oO];omega)|(rw[if_neg oA,if_neg oA,if_neg oO,if_neg oO];omega)
      (repeat (first|exact q9.nil|refine q9.cons rfl ?_))
    have a1 : ¬0<S.s.up:=by have:=O;omega
    refine Sr λ_ c0=>zm rfl (zq rfl rfl (za rfl (zz (c0 ?_))));refine zy rfl ?_ ?_<;>intro M<;>try simp only[qs] at M
    · have a2:S.fin=0:=M
      refine zS λ_ b1=>zm rfl (zq rfl rfl (za rfl (zz (b1 ?_))));refine ⟨rfl,g,d,f,a,q9.g7 rfl ?_ ?_⟩
      · refine decide_eq_decide.2 ?_
        rw[k]
        first|(rw[if_pos oA];omega)|(rw[if_neg oA,if_pos oA];omega)|(rw[if_neg oA,if_neg oA,if_pos oO];omega)|(rw[if_neg oA,if_neg oA,if_neg oO,if_pos oO];omega)|(rw[if_neg oA,if_neg oA,if_neg oO,if_neg oO];omega)
      (repeat (first|exact q9.nil|refine q9.cons rfl ?_))
    have a2 : ¬S.fin=0:=M;refine Sr λ_ F=>zm rfl (zm rfl ?_);refine zb ?_ ?_<;>intro r<;>try simp only[qs] at r
    · have a3:S.pln=0:=by simpa using r
      refine zw rfl (zm rfl (zw rfl (zP rfl (zw rfl (zf rfl (zw rfl (zf rfl (zw rfl (zl g rfl rfl (zw rfl (zG rfl rfl (zt rfl rfl (za rfl (zz (F ?_)))))))))))))));refine zy rfl ?_ ?_<;>intro y<;>try simp only[qs] at y
      · have a4:0<S.s.pl:=by have:=y;omega
        refine zS λ_ b0=>zm rfl (zq rfl rfl (za rfl (zz (b0 ?_))));refine ⟨rfl,g,d,f,a,q9.g7 rfl ?_ ?_⟩
        · refine decide_eq_decide.2 ?_
          rw[k]
          first|(rw[if_pos oA];omega)|(rw[if_neg oA,if_pos oA];omega)|(rw[if_neg oA,if_neg oA,if_pos oO];omega)|(rw[if_neg oA,if_neg oA,if_neg oO,if_pos oO];omega)|(rw[if_neg oA,if_neg oA,if_neg oO,if_neg oO];omega)
        (repeat (first|exact q9.nil|refine q9.cons rfl ?_))
      have a4:=y;refine Sr λ_ b9=>zm rfl (za rfl (zz (b9 ?_)));refine zy rfl ?_ ?_<;>intro x<;>try simp only[qs] at x
      · have a5:S.pln=0:=by simpa using x
        refine zS λ_ a9=>zm rfl (zq rfl rfl (za rfl (zz (a9 ?_))));refine ⟨rfl,g,d,f,a,q9.g7 rfl ?_ ?_⟩
        · refine decide_eq_decide.2 ?_
          rw[k]
          first|(rw[if_pos oA];omega)|(rw[if_neg oA,if_pos oA];omega)|(rw[if_neg oA,if_neg oA,if_pos oO];omega)|(rw[if_neg oA,if_neg oA,if_neg oO,if_pos oO];omega)|(rw[if_neg oA,if_neg oA,if_neg oO,if_neg oO];omega)
        (repeat (first|exact q9.nil|refine q9.cons rfl ?_))
      have a5 : ¬S.pln=0:=by simpa using x
      refine zkk ?_;refine ⟨rfl,g,d,f,a,q9.g7 rfl ?_ ?_⟩
      · refine decide_eq_decide.2 ?_
        rw[k]
        first|(rw[if_pos oA];omega)|(rw[if_neg oA,if_pos oA];omega)|(rw[if_neg oA,if_neg oA,if_pos oO];omega)|(rw[if_neg oA,if_neg oA,if_neg oO,if_pos oO];omega)|(rw[if_neg oA,if_neg oA,if_neg oO,if_neg oO];omega)
      (repeat (first|exact q9.nil|refine q9.cons rfl ?_))
    have a3 : ¬S.pln=0:=by simpa using r
    refine zv rfl (zv rfl (zv rfl (zv rfl (zv rfl (zv rfl (ze rfl rfl (za rfl (zz (F ?_)))))))));refine CW.oX rfl ?_;refine Sr λ_ b8=>zm rfl (za rfl (zz (b8 ?_)));refine zy rfl ?_ ?_<;>intro t<;>try simp only[qs] at t
    · have a5:S.pln=0:=by simpa using t
      refine zS λ_ a8=>zm rfl (zq rfl rfl (za rfl (zz (a8 ?_))));refine ⟨rfl,g,d,f,a,q9.g7 rfl ?_ ?_⟩
      · refine decide_eq_decide.2 ?_
        rw[k]
        first|(rw[if_pos oA];omega)|(rw[if_neg oA,if_pos oA];omega)|(rw[if_neg oA,if_neg oA,if_pos oO];omega)|(rw[if_neg oA,if_neg oA,if_neg oO,if_pos oO];omega)|(rw[if_neg oA,if_neg oA,if_neg oO,if_neg oO];omega)
      (repeat (first|exact q9.nil|refine q9.cons rfl ?_))
    have a5 : ¬S.pln=0:=by simpa using t
    refine zkk ?_;refine ⟨rfl,g,d,f,a,q9.g7 rfl ?_ ?_⟩
    · refine decide_eq_decide.2 ?_
      rw[k]
      first|(rw[if_pos oA];omega)|(rw[if_neg oA,if_pos oA];omega)|(rw[if_neg oA,if_neg oA,if_pos oO];omega)|(rw[if_neg oA,if_neg oA,if_neg oO,if_pos oO];omega)|(rw[if_neg oA,if_neg oA,if_neg oO,if_neg oO];omega)
    (repeat (first|exact q9.nil|refine q9.cons rfl ?_))
  rintro _ s' wJ ⟨rfl,g,d,f,a,q⟩;refine CW.sub q ?_;refine Sr λ_ C=>zm rfl (zm rfl ?_);refine zb ?_ ?_<;>intro d8<;>try simp only[qs] at d8
  · refine zw rfl (zm rfl (zt rfl rfl (za rfl (zz (C ?_)))));refine zr (zr1 rfl rfl ?_);refine ⟨congrArg Value.bool ?_,a⟩;have e:vQ S↔(apj S.lo (-1) S.s.dn S.s.up S.s.mi S/\apj S.hi 1 S.s.up S.s.dn S.s.pl S):=⟨λz=>z.2,λz=>⟨hn,z⟩⟩
    first|exact decide_eq_decide.2 (by rw[e];simp_all)|exact (decide_eq_false (by rw[e];simp_all)).symm|(rw[decide_eq_decide.2 e];simp_all;done)
  refine zv rfl (ze rfl rfl (za rfl (zz (C ?_))));refine zr (zr1 rfl rfl ?_);refine ⟨congrArg Value.bool ?_,a⟩;have e:vQ S↔(apj S.lo (-1) S.s.dn S.s.up S.s.mi S/\apj S.hi 1 S.s.up S.s.dn S.s.pl S):=⟨λz=>z.2,λz=>⟨hn,z⟩⟩
  first|exact decide_eq_decide.2 (by rw[e];simp_all)|exact (decide_eq_false (by rw[e];simp_all)).symm|(rw[decide_eq_decide.2 e];simp_all;done)
set_option exponentiation.threshold 9000
theorem sq_nn(a:Int):0<=a*a:=by
  rcases Int.le_total 0 a with h|h
  · exact Int.mul_nonneg h h
  · rw[<- Int.neg_mul_neg];exact Int.mul_nonneg oO oO
theorem amgm{A B k t j u:Int}(b:0<=k)(a:0<=t)(e:0<=j)(c:0<=u)(g:A*A<=k*t)(f:B*B<=j*u):2*(A*B)<=k*u+j*t:=by
  refine Int.not_lt.1 λh=>?_
  have p:0<=k*u:=Int.mul_nonneg b c
  have o:0<=j*t:=Int.mul_nonneg e a
  generalize hX:k*u=x at *
  generalize hY:j*t=y at *
  have d:0<=x+y:=by omega
  have w:(x+y)*(x+y)<=(x+y)*(2*(A*B)):=Int.mul_le_mul_of_nonneg_left oO d
  have v:(x+y)*(2*(A*B))<(2*(A*B))*(2*(A*B)):=Int.mul_lt_mul_of_pos_right h oO
  have l:(A*A)*(B*B)<=(k*t)*(j*u):=Int.mul_le_mul g f (sq_nn B) (Int.mul_nonneg b a)
  have s:(2*(A*B))*(2*(A*B))=4*((A*A)*(B*B)):=by
    have:(A*A)*(B*B)=(A*B)*(A*B):=by ac_rfl
    rw[this,Int.mul_assoc,Int.mul_left_comm (A*B) 2,<- Int.mul_assoc 2 2];rfl
  have i:(k*t)*(j*u)=x*y:=by rw[<- hX,<- hY];ac_rfl
  have r:0<=(x-y)*(x-y):=sq_nn _
  have q:(x+y)*(x+y)=(x-y)*(x-y)+4*(x*y):=by
    have n:(x+y)*(x+y)=x*x+y*y+2*(x*y):=by rw[Int.add_mul,Int.mul_add,Int.mul_add,Int.mul_comm y x];omega
    have m:(x-y)*(x-y)=x*x+y*y-2*(x*y):=by rw[Int.sub_mul,Int.mul_sub,Int.mul_sub,Int.mul_comm y x];omega
    rw[n,m];omega
  rw[i] at l
  omega
structure Nm(k:Nat)(A T:Int):Prop where
  dv : ∀ a,a=1074->∃ z:Int,A=z*((2^a:Nat):Int)
  t0:0<=T
  z:k=0->T=0/\A=0
  p:0<k->0<T
  lt:0<k->T<(k:Int)*((2^4196:Nat):Int)
  cs:A*A<=(k:Int)*(T*((2^2148:Nat):Int))
theorem Nm.zero:Nm 0 0 0:=⟨λa _=>⟨0,by simp⟩,Int.le_refl _,λ_=>⟨rfl,rfl⟩,λh=>absurd h oD,λh=>absurd h oD,by simp⟩
theorem Nm.add{k j:Nat}{A B T U:Int}(h:Nm k A T)(g:Nm j B U):Nm (k+j) (A+B) (T+U):=by
  have i:(0:Int)<=((2^2148:Nat):Int):=Int.natCast_nonneg _
  have D:(0:Int)<((2^4196:Nat):Int):=by have:=Nat.two_pow_pos 4196;omega
  refine ⟨λa f=>?_,by have:=h.t0;have:=g.t0;omega,λe=>?_,λe=>?_,λe=>?_,?_⟩
  · obtain ⟨y,o⟩:=h.dv a f
    obtain ⟨z,n⟩:=g.dv a f
    exact ⟨y+z,by rw[o,n,Int.add_mul]⟩
  · have G:=h.z oO;have F:=g.z oO;omega
  · have:=h.t0;have:=g.t0
    by_cases q:0<k
    · have:=h.p q;omega
    · have:=g.p oO;omega
  · have m:T<=(k:Int)*((2^4196:Nat):Int):=by
      by_cases q:0<k
      · have:=h.lt q;omega
      · have b:k=0:=by omega
        rw[(h.z b).1,b];simp
    have l:U<=(j:Int)*((2^4196:Nat):Int):=by
      by_cases q:0<j
      · have:=g.lt q;omega
      · have b:j=0:=by omega
        rw[(g.z b).1,b];simp
    rw[Int.natCast_add,Int.add_mul]
    by_cases q:0<k
    · have:=h.lt q;omega
    · have:=g.lt oO;omega
  · have m:=h.cs
    have l:=g.cs
    have s:=h.t0
    have r:=g.t0
    have d:0<=T*((2^2148:Nat):Int):=Int.mul_nonneg s i
    have c:0<=U*((2^2148:Nat):Int):=Int.mul_nonneg r i
    have v:(0:Int)<=(k:Int):=Int.natCast_nonneg _
    have w:(0:Int)<=(j:Int):=Int.natCast_nonneg _
    have key:=amgm v d w c m l
    rw[Int.natCast_add,Int.add_mul T U]
    generalize T*((2^2148:Nat):Int)=t at *
    generalize U*((2^2148:Nat):Int)=u at *
    have C:(A+B)*(A+B)=A*A+B*B+2*(A*B):=by rw[Int.add_mul,Int.mul_add,Int.mul_add,Int.mul_comm B A];omega
    have x:((k:Int)+j)*(t+u)=k*t+j*u+(k*u+j*t):=by rw[Int.add_mul,Int.mul_add,Int.mul_add];omega
    rw[C,x];omega
theorem Nm.of{L:List Nat}(a : ∀ x∈L,x<18446744073709551616):Nm (abx 0 L) (axq L) (sqS L):=by
  obtain ⟨f,e,d,c,b⟩:=sq_bounds a
  exact ⟨sumI_dvd a,f,λh=>d h,e,c,b⟩
theorem Nm.inT{k:Nat}{A T:Int}(h:Nm k A T)(e:k<=1099511627776):InB T:=by
  have a:=pow4236 4196 rfl
  have c:((16384*BB:Nat):Int)=4398046511104*((2^4196:Nat):Int):=by
    have d:(16384*BB:Nat)=4398046511104*2^4196:=by rw[b2q]<;>exact a
    rw[d,Int.natCast_mul]<;>rfl
  have f:(0:Int)<((2^4196:Nat):Int):=by have:=Nat.two_pow_pos 4196;omega
  have i:=h.t0
  unfold InB
  rw[c]
  by_cases q:0<k
  · have b:=h.lt q
    generalize ((2^4196:Nat):Int)=M at *
    have g:M*(k:Int)<=M*1099511627776:=Int.mul_le_mul_of_nonneg_left oO oO
    rw[Int.mul_comm] at b
    omega
  · have:=(h.z oO).1;omega
theorem Nm.inA{k:Nat}{A T:Int}(h:Nm k A T)(d:k<=1099511627776):InB A:=by
  have b:=h.inT d
  unfold InB at b ⊢
  generalize hBd:((16384*BB:Nat):Int)=D at *
  have g:(1099511627776:Int)*((2^2148:Nat):Int)<=D:=by
    rw[<- hBd]
    have l:1099511627776*2^2148<=16384*BB:=by
      rw[b2q,show (1099511627776:Nat)=2^40 from rfl,<- Nat.pow_add]
      exact Nat.pow_le_pow_right oD oD
    have j:((1099511627776*2^2148:Nat):Int)<=((16384*BB:Nat):Int):=Int.ofNat_le.2 l
    rwa [Int.natCast_mul] at j
  have c:=h.t0
  have m:(0:Int)<((2^2148:Nat):Int):=by have:=Nat.two_pow_pos 2148;omega
  have e:=h.cs
  generalize ((2^2148:Nat):Int)=M at *
  have r:(k:Int)*(T*M)<=1099511627776*(T*M):=Int.mul_le_mul_of_nonneg_right oO (Int.mul_nonneg c oO)
  have p:(1099511627776:Int)*(T*M)=T*(1099511627776*M):=by ac_rfl
  have o:T*(1099511627776*M)<=T*D:=Int.mul_le_mul_of_nonneg_left g c
  have a:0<D:=by omega
  have n:T*D<D*D\/T*D=0:=by
    by_cases q:T=0
    · exact .inr (by rw[q,Int.zero_mul])
    · exact .inl (Int.mul_lt_mul_of_pos_right b.2 a)
  have f:0<D*D:=Int.mul_pos a a
  have i:A*A<D*D:=by omega
  constructor
  · refine Int.not_le.1 λq=>?_
    have:D*D<=(-A)*(-A):=Int.mul_le_mul oO oO oO oO
    rw[Int.neg_mul_neg] at this;omega
  · refine Int.not_le.1 λq=>?_
    have:D*D<=A*A:=Int.mul_le_mul q q oO oO
    omega
theorem Nm.sums{S:Sh}{k:Nat}{A T:Int}(f:Nm k A T)(hn:k<=1099511627776)(U:S.V=dJ A)(X:S.Q=dJ T)(f2:S.pln=(k:Int)):rJ S:=by
  have i1:=f.t0
  have i2:=f.p
  have i3:=f.z
  have i4:=f.lt
  have i5:=f.cs
  have hV:=f.inA hn
  have x:InB A:=hV
  have hQ:=f.inT hn
  unfold rJ
  rw[f2,U,X]
  by_cases h0:((k:Nat):Int)=0
  · rw[if_pos h0]
    obtain ⟨D,C⟩:=i3 oO
    rw[D,C]
    exact ⟨rfl,rfl⟩
  · rw[if_neg h0]
    have v:0<k:=by omega
    have q0:=i2 v
    obtain ⟨b,b1,b2,b3,j,b5,b6⟩:=b3j hQ oO
    have d:(dJ (T)).neg=false:=by rw[b3];exact decide_eq_false oO
    have r:sgD (dJ (T)).neg (dJ (T)).m=1:=by
      unfold sgD
      rw[if_neg (λe=>by rw[e] at j;cases j),d];rfl
    refine ⟨?_,?_,?_⟩
    · rw[r]
      rintro (q|q|⟨q1,q2⟩)
      · omega
      · omega
      · have J:A≠0:=λe=>q1 (by rw[e];rfl)
        have:=sumD_low x J (f.dv)
        omega
    · have hp:=pow4236 4196 rfl
      have hb:((16384*BB:Nat):Int)=4398046511104*((2^4196:Nat):Int):=by
        have h1:(16384*BB:Nat)=4398046511104*2^4196:=by rw[b2q]<;>exact hp
        rw[h1,Int.natCast_mul]<;>rfl
      have ht:=topD_sum 4196 rfl
      have O:=i4 v
      have hM:(0:Int)<((2^4196:Nat):Int):=by have:=Nat.two_pow_pos 4196;omega
      generalize ((2^4196:Nat):Int)=M at *
      have h2:M*((k:Nat):Int)<=M*1099511627776:=Int.mul_le_mul_of_nonneg_left oO oO
      have h3:0<=M*((k:Nat):Int):=Int.mul_nonneg oO oO
      have y:InB M:=by unfold InB;rw[hb];omega
      have g:InB (M*((k:Nat):Int)):=by unfold InB;rw[hb];omega
      rw[ht,d5q,mulD_int y oO oO g,Option.getD_some,cmpY_sum hQ g,if_pos (by rw[Int.mul_comm];exact O)]
      decide
    · obtain ⟨t,F,t2,t3⟩:=cvx (n:=k) oO oO
      have I:=wZ (n:=((k:Nat):Int)) oO
      have i:(cZ ((k:Nat):Int)).m≠0:=λe=>by rw[e,Nat.zero_mul] at F;omega
      have R:=I.odd i
      have H:=Nat.two_pow_pos t
      have u:(cZ ((k:Nat):Int)).m<=k:=by
        conv=>rhs;rw[F]
        exact Nat.le_mul_of_pos_right _ H
      have o:2^t<=k:=by
        conv=>rhs;rw[F]
        exact Nat.le_mul_of_pos_left _ oO
      have a7:t<41:=by
        have Z:k<2^41:=by omega
        exact (Nat.pow_lt_pow_iff_right (by omega:1<2)).1 (Nat.lt_of_le_of_lt o Z)
      have w : ∀ c,c=4300->2^4238<2^c/\k<2^c:=by
        intro c hc
        subst hc
        have Y:k<2^42:=by omega
        exact ⟨Nat.pow_lt_pow_right oO oO,Nat.lt_trans Y (Nat.pow_lt_pow_right oO oO)⟩
      obtain ⟨g1,g2⟩:=w 4300 rfl
      rw[cmq R j (Nat.lt_of_le_of_lt u g2) (Nat.lt_trans b5 g1) oO oO,Option.getD_some,t3,d]
      by_cases hA:A=0
      · rw[hA,d1j]
        have e:(fJ Dy.zero Dy.zero).getD Dy.zero=Dy.zero:=by unfold fJ;rw[show Dy.zero.m*Dy.zero.m=0 from rfl,jJ];split<;>rfl
        rw[e]
        unfold cmpY bpx
        have D:sgD Dy.zero.neg Dy.zero.m=0:=rfl
        have C:sgD (false != false) ((cZ ((k:Nat):Int)).m*(dJ (T)).m)=1:=by
          unfold sgD
          rw[if_neg (Nat.mul_ne_zero i (λe=>by rw[e] at j;cases j))];rfl
        dsimp only
        rw[D,C,if_pos oD]
        decide
      · obtain ⟨a,a1,a2,a3,G,a5,a6⟩:=b3j x hA
        rw[cmq G G (Nat.lt_trans a5 g1) (Nat.lt_trans a5 g1) oO oO,Option.getD_some]
        have l:(dJ (A)).m≠0:=λe=>by rw[e] at G;cases G
        have s:((dJ (A)).neg != (dJ (A)).neg)=false:=by cases (dJ (A)).neg<;>rfl
        unfold cmpY bpx
        dsimp only
        rw[s]
        have D:sgD false ((dJ (A)).m*(dJ (A)).m)=1:=by
          unfold sgD
          rw[if_neg (Nat.mul_ne_zero l l)];rfl
        have C:sgD (false != false) ((cZ ((k:Nat):Int)).m*(dJ (T)).m)=1:=by
          unfold sgD
          rw[if_neg (Nat.mul_ne_zero i (λe=>by rw[e] at j;cases j))];rfl
        rw[D,C,if_neg oD,if_neg oD,if_neg oD,Int.one_mul]
        refine cmpV_le (c:=4296) (A:=a+a) (B:=t+b+2148) oO oO ?_
        -- from the bound on the squares
        have h:(A).natAbs*(A).natAbs<=k*((T).natAbs*2^2148):=by
          have w1:(((A).natAbs*(A).natAbs:Nat):Int)=A*A:=by rw[Int.natCast_mul,Int.natAbs_mul_self']
          have w2:(((T).natAbs:Nat):Int)=T:=by omega
          have w3:((k*((T).natAbs*2^2148):Nat):Int)=(k:Int)*(T*((2^2148:Nat):Int)):=by rw[Int.natCast_mul,Int.natCast_mul,w2]
          have:=i5
          rw[<- w1,<- w3] at this
          exact Int.ofNat_le.1 this
        rw[a1,b1] at h
        generalize hvM:(dJ (A)).m=vm at *
        generalize hqM:(dJ (T)).m=qm at *
        generalize hkM:(cZ ((k:Nat):Int)).m=km at *
        have r1:vm*2^a*(vm*2^a)=vm*vm*2^(a+a):=by rw[Nat.pow_add];ac_rfl
        have r2:=sh2 km qm t b 2148
        rw[r1] at h
        rw[<- r2,<- F]
        exact h
end
section
open Go Sx Wd Fl
set_option exponentiation.threshold 9000
def KLn(k a:Nat)(fin pln:Int)(o:Nat)(kI kF k0 k1:Nat):Prop:=
  (0<a->k=kI)/\(a=0/\fin=0->k=kF)/\(a=0/\fin≠0/\pln=0/\0<o->k=k0)/\(a=0/\fin≠0/\pln=0/\o=0->k=k1)/\(a=0/\fin≠0/\pln≠0->k<=2)
theorem kl_iff{k a:Nat}{fin pln:Int}{o b c k0 d:Nat}: (if 0<a then k=b else if fin=0 then k=c else if pln=0/\0<o then k=k0 else if pln=0 then k=d else k<=2)↔KLn k a fin pln o b c k0 d:=by
  unfold KLn
  by_cases h1:0<a
  · rw[if_pos h1];omega
  rw[if_neg h1]
  by_cases h2:fin=0
  · rw[if_pos h2];omega
  rw[if_neg h2]
  by_cases h3:pln=0/\0<o
  · rw[if_pos h3];omega
  rw[if_neg h3]
  by_cases h4:pln=0
  · rw[if_pos h4];omega
  · rw[if_neg h4];omega
theorem cnx{x:Nat}(b:x<18446744073709551616)(d:k7 x≠5):(k7 x=4->key x = -9218868437227405313)/\(k7 x=3->key x=9218868437227405312)/\(k7 x=1->key x = -1)/\(k7 x=2->key x=0)/\(k7 x=0->-9218868437227405313<key x/\key x<9218868437227405312/\key x≠-1/\key x≠0)/\k7 x<=4:=by
  obtain ⟨e,f,g,i,h⟩:=kd b
  have j:=k_le5 x
  have c:isNaN x=false:=by cases z:isNaN x with|false=>rfl|true=>exact absurd ((aeq b).1 z) d
  have a:key x=if 9223372036854775808<=x then -1-((x:Int)-9223372036854775808) else x:=by unfold key;rw[c];rfl
  rw[a]
  split<;>omega
structure Gn(S:Sh):Prop where
  mb:cX S.s
  lo:S.lo<18446744073709551616
  hi:S.hi<18446744073709551616
  nm : ∃ A T,S.V=dJ A/\S.Q=dJ T/\Nm S.pln.toNat A T
  en:S.some->vQ S
theorem Gn.p0{S:Sh}(h:Gn S):0<=S.pln/\S.pln<=1099511627776/\0<=S.fin/\S.fin<=1099511627776/\(S.s.mi:Int)+S.s.pl<=S.fin:=by
  have:=h.mb
  unfold cX at this
  unfold Sh.pln Sh.fin
  omega
theorem Gn.sums{S:Sh}(h:Gn S):rJ S:=by
  obtain ⟨A,T,c,b,a⟩:=h.nm
  have:=h.p0
  exact Nm.sums a oO c b oO
theorem Gn.wf{S:Sh}(h:Gn S):S.wf:=by
  obtain ⟨A,T,d,c,a⟩:=h.nm
  have:=h.p0
  have b:=h.mb
  unfold cX at b
  refine ⟨⟨by omega,by omega,by omega,by omega,by omega,by omega⟩,?_,?_,h.lo,h.hi⟩
  · rw[d];exact a1x (a.inA oO)
  · rw[c];exact a1x (a.inT oO)
theorem Gn.ex{S:Sh}(h:Gn S):S.ex:=by
  obtain ⟨A,T,e,d,c⟩:=h.nm
  have:=h.p0
  have b:=ex_of (c.inA oO)
  have a:=ex_of (c.inT oO)
  rw[<- e] at b
  rw[<- d] at a
  exact ⟨b.1,a.1,b.2,a.2⟩
theorem Gn.back{S:Sh}(h:Gn S)(a:S.noE):S.back:=⟨h.wf,h.ex,a,h.p0.2.2.2.2,h.sums,h.en⟩
theorem Gn.dec{S:Sh}(h:Gn S)(a:S.noE):akj (adx S)=some S:=decS_encS (h.back a)
theorem Gn.num{S:Sh}(h:Gn S):S.num:=λhs=>by
  have:=(h.en hs).1
  simp only[not_or] at this
  exact ⟨by simpa using this.1,by simpa using this.2.1⟩
theorem Gn.of{S:Sh}{L:List Nat}(h:Mk S L)(a:S.lo<18446744073709551616)(b:S.hi<18446744073709551616):Gn S:=by
  obtain ⟨e,c⟩:=h.fin
  have d:=dsq L
  refine ⟨?_,a,b,⟨axq L,sqS L,h.V,h.Q,?_⟩,h.ends⟩
  · unfold cX;rw[h.s];dsimp only;have:=h.n;omega
  · rw[c,Int.toNat_natCast];exact Nm.of h.w
theorem Gn.zero:Gn Sh.zero:=Gn.of Mk.zero oD oD
theorem Gn.one{x:Nat}(a:x<18446744073709551616):Gn (Sh.one x):=Gn.of (Mk.one a) a a
theorem kl_lo{b a i q p o1 g c1 c2:Nat}{l k f e d c m:Int}
    (o:(b=4->d = -9218868437227405313)/\(b=3->d=9218868437227405312)/\(b=1->d = -1)/\(b=2->d=0)/\(b=0->-9218868437227405313<d/\d<9218868437227405312/\d≠-1/\d≠0)/\b<=4)
    (n:(a=4->c = -9218868437227405313)/\(a=3->c=9218868437227405312)/\(a=1->c = -1)/\(a=2->c=0)/\(a=0->-9218868437227405313<c/\c<9218868437227405312/\c≠-1/\c≠0)/\a<=4)
    (j:(i=b/\m=d/\d<=c)\/(i=a/\m=c/\c<=d)) (w:KLn b q l f o1 4 3 1 2) (v:KLn a p k e g 4 3 1 2)
    (u:0<=f) (t:0<=e) (y:l=f+o1+c1) (x:k=e+g+c2):KLn i (q+p) (l+k) (f+e) (o1+g) 4 3 1 2:=by
  unfold KLn at *
  have s:b=0\/b=1\/b=2\/b=3\/b=4:=by have:=o.2.2.2.2.2;omega
  have r:a=0\/a=1\/a=2\/a=3\/a=4:=by have:=n.2.2.2.2.2;omega
  rcases s with rfl|rfl|rfl|rfl|rfl<;>rcases r with rfl|rfl|rfl|rfl|rfl<;>simp at o n w v<;>rcases j with ⟨rfl,rfl,j⟩|⟨rfl,rfl,j⟩<;>refine ⟨λh=>?_,λh=>?_,λh=>?_,λh=>?_,λh=>?_⟩<;>omega
theorem kl_hi{b a i q p o1 g c1 c2:Nat}{l k f e d c m:Int}
    (o:(b=4->d = -9218868437227405313)/\(b=3->d=9218868437227405312)/\(b=1->d = -1)/\(b=2->d=0)/\(b=0->-9218868437227405313<d/\d<9218868437227405312/\d≠-1/\d≠0)/\b<=4)
    (n:(a=4->c = -9218868437227405313)/\(a=3->c=9218868437227405312)/\(a=1->c = -1)/\(a=2->c=0)/\(a=0->-9218868437227405313<c/\c<9218868437227405312/\c≠-1/\c≠0)/\a<=4)
    (j:(i=b/\m=d/\c<=d)\/(i=a/\m=c/\d<=c)) (w:KLn b q l f o1 3 4 2 1) (v:KLn a p k e g 3 4 2 1)
    (u:0<=f) (t:0<=e) (y:l=f+o1+c1) (x:k=e+g+c2):KLn i (q+p) (l+k) (f+e) (o1+g) 3 4 2 1:=by
  unfold KLn at *
  have s:b=0\/b=1\/b=2\/b=3\/b=4:=by have:=o.2.2.2.2.2;omega
  have r:a=0\/a=1\/a=2\/a=3\/a=4:=by have:=n.2.2.2.2.2;omega
  rcases s with rfl|rfl|rfl|rfl|rfl<;>rcases r with rfl|rfl|rfl|rfl|rfl<;>simp at o n w v<;>rcases j with ⟨rfl,rfl,j⟩|⟨rfl,rfl,j⟩<;>refine ⟨λh=>?_,λh=>?_,λh=>?_,λh=>?_,λh=>?_⟩<;>omega
end
section
open Go Sx Wd Fl
set_option exponentiation.threshold 9000
theorem c6j{S:Sh}(g:S.lo<18446744073709551616)(h:S.hi<18446744073709551616)(f:cX S.s)(e:S.some):
    vQ S↔k7 S.lo≠5/\k7 S.hi≠5/\key S.lo<=key S.hi/\KLn (k7 S.lo) S.s.dn S.fin S.pln S.s.mi 4 3 1 2/\KLn (k7 S.hi) S.s.up S.fin S.pln S.s.pl 3 4 2 1:=by
  unfold vQ
  constructor
  · rintro ⟨i,k,j⟩
    simp only[not_or] at i
    have d:k7 S.lo≠5:=λz=>i.1 ((aeq g).2 z)
    have c:k7 S.hi≠5:=λz=>i.2.1 ((aeq h).2 z)
    exact ⟨d,c,by have:=i.2.2;omega,kl_iff.1 ((end_lo g f e d).1 k),kl_iff.1 ((end_hi h f e c).1 j)⟩
  · rintro ⟨d,c,l,a,b⟩
    refine ⟨?_,(end_lo g f e d).2 (kl_iff.2 a),(end_hi h f e c).2 (kl_iff.2 b)⟩
    simp only[not_or]
    exact ⟨λz=>d ((aeq g).1 z),λz=>c ((aeq h).1 z),by omega⟩
theorem Gn.merge{S U:Sh}(h:Gn S)(g:Gn U)(hn:S.s.al+U.s.al<=1099511627776):Gn (S.merge U):=by
  obtain ⟨A,T,h1,h2,n⟩:=h.nm
  obtain ⟨B,R,g1,g2,r⟩:=g.nm
  have C:=h.p0
  have F:=g.p0
  have D:=h.mb
  have p:=g.mb
  have l:=D
  have o:=p
  unfold cX at l o
  have H:(S.merge U).fin=S.fin+U.fin:=by
    show ((S.s.al+U.s.al:Nat):Int)-((S.s.na+U.s.na:Nat):Int)-((S.s.up+U.s.up:Nat):Int)-((S.s.dn+U.s.dn:Nat):Int)=_
    unfold Sh.fin;omega
  have G:(S.merge U).pln=S.pln+U.pln:=by
    have e:(S.merge U).pln=(S.merge U).fin-((S.s.mi+U.s.mi:Nat):Int)-((S.s.pl+U.s.pl:Nat):Int):=rfl
    have e1:S.pln=S.fin-(S.s.mi:Int)-(S.s.pl:Int):=rfl
    have e2:U.pln=U.fin-(U.s.mi:Int)-(U.s.pl:Int):=rfl
    rw[e,H,e1,e2];omega
  have eS:S.fin=S.pln+S.s.mi+S.s.pl:=by unfold Sh.pln;omega
  have eU:U.fin=U.pln+U.s.mi+U.s.pl:=by unfold Sh.pln;omega
  have c:cX (S.merge U).s:=by
    show S.s.na+U.s.na+(S.s.up+U.s.up)+(S.s.dn+U.s.dn)+(S.s.mi+U.s.mi)+(S.s.pl+U.s.pl)<=S.s.al+U.s.al/\S.s.al+U.s.al<=1099511627776
    omega
  have d:(S.merge U).lo<18446744073709551616:=by
    show (if U.some/\(¬S.some\/key U.lo<key S.lo) then U.lo else S.lo)<_
    split
    · exact g.lo
    · exact h.lo
  have i:(S.merge U).hi<18446744073709551616:=by
    show (if U.some/\(¬S.some\/key S.hi<key U.hi) then U.hi else S.hi)<_
    split
    · exact g.hi
    · exact h.hi
  have m:=n.add r
  have et:(S.merge U).pln.toNat=S.pln.toNat+U.pln.toNat:=by rw[G];omega
  have b7:S.pln<=S.s.al:=by unfold Sh.pln Sh.fin;omega
  have Z:U.pln<=U.s.al:=by unfold Sh.pln Sh.fin;omega
  refine ⟨c,d,i,⟨A+B,T+R,?_,?_,?_⟩,λx=>?_⟩
  · show (xX S.V U.V).getD Dy.zero=_
    rw[h1,g1,addD_sum (n.inA oO) (r.inA oO) (m.inA oO)];rfl
  · show (xX S.Q U.Q).getD Dy.zero=_
    rw[h2,g2,addD_sum (n.inT oO) (r.inT oO) (m.inT oO)];rfl
  · rw[et];exact m
  · refine (c6j d i c x).2 ?_
    rw[H,G]
    by_cases hS:S.some
    · obtain ⟨X,O,a3,M,J⟩:=(c6j h.lo h.hi D hS).1 (h.en hS)
      by_cases a:U.some
      · obtain ⟨w,v,I,u,t⟩:=(c6j g.lo g.hi p a).1 (g.en a)
        have f:(S.merge U).lo=if key U.lo<key S.lo then U.lo else S.lo:=by
          show (if U.some/\(¬S.some\/key U.lo<key S.lo) then U.lo else S.lo)=_
          by_cases q:key U.lo<key S.lo
          · rw[if_pos ⟨a,.inr q⟩,if_pos q]
          · rw[if_neg (λz=>z.2.elim (λy=>y hS) q),if_neg q]
        have j:(S.merge U).hi=if key S.hi<key U.hi then U.hi else S.hi:=by
          show (if U.some/\(¬S.some\/key S.hi<key U.hi) then U.hi else S.hi)=_
          by_cases q:key S.hi<key U.hi
          · rw[if_pos ⟨a,.inr q⟩,if_pos q]
          · rw[if_neg (λz=>z.2.elim (λy=>y hS) q),if_neg q]
        have zl:(k7 (S.merge U).lo=k7 S.lo/\key (S.merge U).lo=key S.lo/\key S.lo<=key U.lo)\/(k7 (S.merge U).lo=k7 U.lo/\key (S.merge U).lo=key U.lo/\key U.lo<=key S.lo):=by
          rw[f];split
          · exact .inr ⟨rfl,rfl,by omega⟩
          · exact .inl ⟨rfl,rfl,by omega⟩
        have k:(k7 (S.merge U).hi=k7 S.hi/\key (S.merge U).hi=key S.hi/\key U.hi<=key S.hi)\/(k7 (S.merge U).hi=k7 U.hi/\key (S.merge U).hi=key U.hi/\key S.hi<=key U.hi):=by
          rw[j];split
          · exact .inr ⟨rfl,rfl,by omega⟩
          · exact .inl ⟨rfl,rfl,by omega⟩
        refine ⟨?_,?_,?_,kl_lo (cnx h.lo X) (cnx g.lo w) zl M u C.1 F.1 eS eU,kl_hi (c1:=S.s.mi) (c2:=U.s.mi) (cnx h.hi O) (cnx g.hi v) k J t C.1 F.1 oO oO⟩
        · rcases zl with z|z<;>rw[z.1]<;>assumption
        · rcases k with z|z<;>rw[z.1]<;>assumption
        · rcases zl with z|z<;>rcases k with y|y<;>rw[z.2.1,y.2.1]<;>omega
      · have f:(S.merge U).lo=S.lo:=if_neg λz=>a z.1
        have j:(S.merge U).hi=S.hi:=if_neg λz=>a z.1
        have b:U.s.up=0/\U.s.dn=0/\U.s.mi=0/\U.s.pl=0/\U.s.na=U.s.al:=by unfold Sh.some at a;omega
        have Y:U.fin=0:=by unfold Sh.fin;omega
        have up:U.pln=0:=by omega
        rw[f,j,Y,up]
        refine ⟨X,O,a3,?_,?_⟩
        · show KLn (k7 S.lo) (S.s.dn+U.s.dn) (S.fin+0) (S.pln+0) (S.s.mi+U.s.mi) 4 3 1 2
          rw[b.2.1,b.2.2.1,Int.add_zero,Int.add_zero];exact M
        · show KLn (k7 S.hi) (S.s.up+U.s.up) (S.fin+0) (S.pln+0) (S.s.pl+U.s.pl) 3 4 2 1
          rw[b.1,b.2.2.2.1,Int.add_zero,Int.add_zero];exact J
    · have b:S.s.up=0/\S.s.dn=0/\S.s.mi=0/\S.s.pl=0/\S.s.na=S.s.al:=by unfold Sh.some at hS;omega
      have a:U.some:=by
        have:S.s.na+U.s.na<S.s.al+U.s.al:=x
        unfold Sh.some;omega
      obtain ⟨w,v,I,u,t⟩:=(c6j g.lo g.hi p a).1 (g.en a)
      have f:(S.merge U).lo=U.lo:=if_pos ⟨a,.inl hS⟩
      have j:(S.merge U).hi=U.hi:=if_pos ⟨a,.inl hS⟩
      have sf:S.fin=0:=by unfold Sh.fin;omega
      have sp:S.pln=0:=by omega
      rw[f,j,sf,sp]
      refine ⟨w,v,I,?_,?_⟩
      · show KLn (k7 U.lo) (S.s.dn+U.s.dn) (0+U.fin) (0+U.pln) (S.s.mi+U.s.mi) 4 3 1 2
        rw[b.2.1,b.2.2.1,Nat.zero_add,Nat.zero_add,Int.zero_add,Int.zero_add];exact u
      · show KLn (k7 U.hi) (S.s.up+U.s.up) (0+U.fin) (0+U.pln) (S.s.pl+U.s.pl) 3 4 2 1
        rw[b.1,b.2.2.2.1,Nat.zero_add,Nat.zero_add,Int.zero_add,Int.zero_add];exact t
theorem cux{S U:Sh}(h:Gn S)(g:Gn U)(a:S.noE):(S.merge U).noE:=λq=>by
  have hm:=h.mb
  have gm:=g.mb
  unfold cX at hm gm
  have q2 : ¬(S.s.na+U.s.na<S.s.al+U.s.al):=q
  by_cases hU:U.some
  · exact absurd (show S.s.na+U.s.na<S.s.al+U.s.al by unfold Sh.some at hU;omega) q2
  · have el:(S.merge U).lo=S.lo:=if_neg λz=>hU z.1
    have eh:(S.merge U).hi=S.hi:=if_neg λz=>hU z.1
    rw[el,eh]
    exact a (λz=>by unfold Sh.some at *;omega)
end
section
open Go Sx Wd Fl
set_option exponentiation.threshold 9000
structure Dc(d:Dy):Prop where
  ok:d.ok
  len:(wd d.m).length<=160
  e : -4096<=d.e/\d.e<=61439
theorem rdD_dc{a:List Nat}(e:B8 a){p:Nat}{bad:Bool}(h:(rdD a p bad).2.2.2.2=false):Dc ⟨(rdD a p bad).1,val (rdD a p bad).2.1,(rdD a p bad).2.2.1⟩:=by
  obtain ⟨i,g⟩:=csx e h
  have f:(rdD a p bad).2.1.length<=160/\-4096<=(rdD a p bad).2.2.1/\(rdD a p bad).2.2.1<=61439:=by
    clear i g
    unfold rdD at h ⊢
    generalize rdN a p bad 1=R1 at *
    obtain ⟨m,d,k⟩:=R1
    dsimp only at *
    have t:=aix e d k 2
    generalize rdN a d k 2=R2 at *
    obtain ⟨r,l,n⟩:=R2
    dsimp only at *
    generalize rdN a l n 2=R3 at *
    obtain ⟨b,c,j⟩:=R3
    dsimp only at *
    by_cases hq:1<m\/160<b
    · rw[if_pos hq] at h;cases h
    · rw[if_neg hq]
      have s:=auq a c j b
      generalize rdW a c j b=RW at *
      obtain ⟨o,q,u⟩:=RW
      dsimp only at *
      omega
  exact ⟨g,by show (wd (val (rdD a p bad).2.1)).length<=160;rw[i];exact f.1,f.2⟩
theorem getD_le{l:List Nat}{n i:Nat}(h : ∀ x∈l,x<=n):l.getD i 0<=n:=by
  rw[List.getD_eq_getElem?_getD]
  cases q:l[i]? with
  | none=>exact Nat.zero_le _
  | some y=>exact h y (List.mem_of_getElem? q)
theorem rdE_lt{b:Bool}{a:List Nat}(c:B8 a)(p:Nat)(bad:Bool):(rdE b a p bad).1<18446744073709551616/\(rdE b a p bad).2.1<18446744073709551616:=by
  unfold rdE
  split
  · exact ⟨aix c p bad 8,aix c _ _ 8⟩
  · exact ⟨by show 0<_;omega,by show 0<_;omega⟩
theorem decS_parts{b:List Nat}(d:B8 b){S:Sh}(h:akj b=some S):cX S.s/\Dc S.V/\Dc S.Q/\S.lo<18446744073709551616/\S.hi<18446744073709551616/\S.noE/\rJ S/\(S.some->vQ S):=by
  unfold akj at h
  generalize hK:rdK b 6=K at h
  have j:=rdK_le b 6
  rw[hK] at j
  split at h
  · cases h
  rename_i hn
  unfold drj at h
  generalize hv:rdD b K.2.1 K.2.2=v at h
  unfold decV at h
  generalize hq:rdD b v.2.2.2.1 v.2.2.2.2=q at h
  generalize he:rdE (decide ((ahx K.1).na<(ahx K.1).al)) b q.2.2.2.1 q.2.2.2.2=E at h
  have c:=@rdE_lt (decide ((ahx K.1).na<(ahx K.1).al)) b d q.2.2.2.1 q.2.2.2.2
  rw[he] at c
  have k:E.2.2.2=false->q.2.2.2.2=false:=λz=>blx he z
  have p:q.2.2.2.2=false->v.2.2.2.2=false:=λz=>dhx hq z
  have n:v.2.2.2.2=false->Dc ⟨v.1,val v.2.1,v.2.2.1⟩:=λz=>by subst hv;exact rdD_dc d z
  have o:q.2.2.2.2=false->Dc ⟨q.1,val q.2.1,q.2.2.1⟩:=λz=>by subst hq;exact rdD_dc d z
  unfold d0q at h
  split at h
  · cases h
  rename_i hm
  have a:mZ (ahx K.1) v q E.1 E.2.1=S:=Option.some.inj h
  have g:E.2.2.2=false:=by
    cases z:E.2.2.2 with
    | false=>rfl
    | true=>exact absurd (.inl z) hm
  have m:rJ S:=Classical.byContradiction λz=>hm (.inr (.inr (.inl (by rw[a];exact z))))
  have l:S.some->vQ S:=λy=>Classical.byContradiction λz=>hm (.inr (.inr (.inr (by rw[a];exact ⟨y,z⟩))))
  have f : ¬((Sh.mk (ahx K.1) Dy.zero Dy.zero 0 0).fin<((ahx K.1).mi:Int)+(ahx K.1).pl):=λz=>hn (.inr z)
  have al:(ahx K.1).al<=1099511627776:=getD_le (i:=5) j
  unfold Sh.fin at f
  dsimp only at f
  refine ⟨?_,?_,?_,?_,?_,λy=>?_,m,l⟩
  · rw[<- a];exact ⟨by show (ahx K.1).na+(ahx K.1).up+(ahx K.1).dn+(ahx K.1).mi+(ahx K.1).pl<=(ahx K.1).al;omega,al⟩
  · rw[<- a];exact n (p (k g))
  · rw[<- a];exact o (k g)
  · rw[<- a];exact c.1
  · rw[<- a];exact c.2
  · rw[<- a] at y ⊢
    have e:decide ((ahx K.1).na<(ahx K.1).al)=false:=decide_eq_false y
    rw[e] at he
    subst he
    exact ⟨rfl,rfl⟩
end
section
open Go Sx Wd Fl
set_option exponentiation.threshold 9000
theorem cmpV_eq{m n a b:Nat}{e f:Int}(h:(a:Int)-b=e-f):btx m e n f=sgn (m*2^a) (n*2^b):=by rw[<- cmpX_V];exact cox h
theorem cmpY_pos{x y:Dy}(g:x.neg=false)(f:y.neg=false)(d:x.m≠0)(c:y.m≠0){a b:Nat}(h:(a:Int)-b=x.e-y.e):cmpY x y=sgn (x.m*2^a) (y.m*2^b):=by
  unfold cmpY bpx
  have j:sgD x.neg x.m=1:=by unfold sgD;rw[if_neg d,g];rfl
  have i:sgD y.neg y.m=1:=by unfold sgD;rw[if_neg c,f];rfl
  rw[j,i,if_neg oD,if_neg oD,if_neg oD,Int.one_mul]
  exact cmpV_eq h
theorem d5x{x y:Dy}(j:x.m%2=1)(i:y.m%2=1)(h:(wd x.m).length<=4000)(g:(wd y.m).length<=4000)(p : -100000<=x.e/\x.e<=100000)(o : -100000<=y.e/\y.e<=100000):fJ x y=some ⟨x.neg != y.neg,x.m*y.m,x.e+y.e⟩:=by
  have b:x.m*y.m%2=1:=by rw[Nat.mul_mod,j,i]
  have l:x.m*y.m≠0:=λe=>by rw[e] at b;cases b
  have d:=cdj b
  have f:(wd (x.m*y.m)).length<=8192:=wlenB λc n=>by
    obtain ⟨q,k⟩ : ∃ q,q=4000:=⟨_,rfl⟩
    rw[<- k] at h g
    have a:x.m*y.m<2^(32*q)*2^(32*q):=Nat.mul_lt_mul'' (aQ.1 h) (aQ.1 g)
    rw[<- Nat.pow_add] at a
    exact Nat.lt_of_lt_of_le a (Nat.pow_le_pow_right oO oO)
  unfold fJ
  rw[if_neg oO,sZ l (by rw[d];rw[Nat.pow_zero,Nat.div_one];omega),d,Nat.pow_zero,Nat.div_one]
  simp
theorem d2q{d:Dy}(h:d.ok){N:Int}{a:Nat}(g:N.natAbs=d.m*2^a)(f:N≠0->d.neg=decide (N<0))(i:d.e = -2148+(a:Int))(b:InB N):d=dJ N:=by
  have c:=akq b f
  rw[g,abj (e:=d.e) oO,mX h] at c
  exact Option.some.inj c
theorem Nm.from{S:Sh}{k:Nat}(p:Dc S.V)(F:Dc S.Q)(f2:S.pln=(k:Int))(hn:k<=1099511627776)(j:rJ S): ∃ A T,S.V=dJ A/\S.Q=dJ T/\Nm k A T:=by
  unfold rJ at j
  rw[f2] at j
  by_cases h0:((k:Nat):Int)=0
  · rw[if_pos h0] at j
    have hk:k=0:=by omega
    subst hk
    exact ⟨0,0,p.ok.z j.1,F.ok.z j.2,Nm.zero⟩
  · rw[if_neg h0] at j
    have a2:0<k:=by omega
    obtain ⟨i,s,f⟩:=j
    have s1 : ¬sgD S.Q.neg S.Q.m<=0:=λz=>i (.inl z)
    have s2 : ¬S.Q.e < -2148:=λz=>i (.inr (.inl z))
    have s3:S.V.m≠0->¬S.V.e < -1074:=λy z=>i (.inr (.inr ⟨y,z⟩))
    have g:S.Q.m≠0:=λe=>s1 (by unfold sgD;rw[if_pos e];exact Int.le_refl _)
    have l:S.Q.neg=false:=by
      cases z:S.Q.neg with
      | false=>rfl
      | true=>exact absurd (by unfold sgD;rw[if_neg g,z];decide) s1
    have U:=F.ok.odd g
    have c9:=F.e
    have c8:=p.e
    obtain ⟨a,ha⟩ : ∃ a:Nat,S.Q.e = -2148+(a:Int):=⟨(S.Q.e+2148).toNat,by omega⟩
    have a3:0<S.Q.m*2^a:=Nat.mul_pos oO (Nat.two_pow_pos a)
    -- below the greatest square
    have Y : ∀ M:Nat,M=2^4196->S.Q.m*2^a<M*k/\InB (((M*k:Nat)):Int):=by
      intro M O
      have hp:=pow4236 4196 rfl
      have hb:((16384*BB:Nat):Int)=4398046511104*(M:Int):=by
        have h1:(16384*BB:Nat)=4398046511104*M:=by rw[b2q,O]<;>exact hp
        rw[h1,Int.natCast_mul]<;>rfl
      have ht:=topD_sum 4196 rfl
      rw[<- O] at ht
      have a4:0<M:=by rw[O];exact Nat.two_pow_pos _
      clear O hp
      have h2:M*k<=M*1099511627776:=Nat.mul_le_mul_left _ hn
      have h3:0<M*k:=Nat.mul_pos a4 a2
      have H:InB (M:Int):=by unfold InB;rw[hb];omega
      have d:InB (((M*k:Nat)):Int):=by unfold InB;rw[hb];omega
      rw[ht,d5q,mulD_int H oO oO (by rw[<- Int.natCast_mul];exact d),Option.getD_some,<- Int.natCast_mul] at s
      obtain ⟨b,b1,b2,b3,b4,b5,b6⟩:=b3j d oO
      have X:(dJ (((M*k:Nat)):Int)).m≠0:=λe=>by rw[e] at b4;cases b4
      rw[cmpY_pos (a:=a) (b:=b) l (by rw[b3];exact decide_eq_false oO) g X oO,<- b1,Int.natAbs_natCast] at s
      refine ⟨Classical.byContradiction λz=>?_,d⟩
      have:=ddx.2 (Nat.le_of_not_lt z)
      omega
    obtain ⟨Z,w⟩:=Y _ rfl
    have D:InB ((S.Q.m*2^a:Nat):Int):=by
      have:=w.2
      have:=w.1
      constructor<;>omega
    have eQ:S.Q=dJ ((S.Q.m*2^a:Nat):Int):=d2q F.ok (by rw[Int.natAbs_natCast]) (λ_=>by rw[l];exact (decide_eq_false oO).symm) ha D
    have h:(((S.Q.m*2^a:Nat)):Int)<(k:Int)*((2^4196:Nat):Int):=by
      rw[<- Int.natCast_mul,Nat.mul_comm k];exact Int.ofNat_lt.2 Z
    by_cases hvm:S.V.m=0
    · refine ⟨0,_,p.ok.z hvm,eQ,⟨λ_ _=>⟨0,by simp⟩,Int.natCast_nonneg _,λz=>absurd z oO,λ_=>by omega,λ_=>h,?_⟩⟩
      rw[Int.zero_mul]
      exact Int.mul_nonneg (Int.natCast_nonneg _) (Int.mul_nonneg (Int.natCast_nonneg _) (Int.natCast_nonneg _))
    · have q:=p.ok.odd hvm
      have s4:=s3 hvm
      obtain ⟨c,hc⟩ : ∃ c:Nat,S.V.e = -1074+(c:Int):=⟨(S.V.e+1074).toNat,by omega⟩
      obtain ⟨t,I,t2,t3⟩:=cvx (n:=k) oO oO
      have B:(cZ ((k:Nat):Int)).m≠0:=λe=>by rw[e,Nat.zero_mul] at I;omega
      have a0:=(wZ (n:=((k:Nat):Int)) oO).odd B
      have b7:(cZ ((k:Nat):Int)).m<=k:=by
        conv=>rhs;rw[I]
        exact Nat.le_mul_of_pos_right _ (Nat.two_pow_pos t)
      have r:2^t<=k:=by
        conv=>rhs;rw[I]
        exact Nat.le_mul_of_pos_left _ oO
      have a7:t<41:=by
        have a6:k<2^41:=by omega
        exact (Nat.pow_lt_pow_iff_right (by omega:1<2)).1 (Nat.lt_of_le_of_lt r a6)
      have a1:(wd (cZ ((k:Nat):Int)).m).length<=4000:=by
        have:(wd (cZ ((k:Nat):Int)).m).length<=2:=aQ.2 oO
        omega
      have l1:=p.len
      have l2:=F.len
      have R:(S.V.neg != S.V.neg)=false:=by cases S.V.neg<;>rfl
      rw[d5x q q oO oO oO oO,d5x a0 U a1 oO oO oO,Option.getD_some,Option.getD_some,
        cmpY_pos (a:=c+1074+(c+1074)) (b:=t+a+2148) R (by dsimp only;rw[t3,l];rfl) (Nat.mul_ne_zero hvm hvm) (Nat.mul_ne_zero B g) (by dsimp only;omega),bhq] at f
      dsimp only at f
      have C:S.V.m*2^(c+1074)*(S.V.m*2^(c+1074))<=k*(S.Q.m*2^a*2^2148):=by
        have r2:=sh2 (cZ ((k:Nat):Int)).m S.Q.m t a 2148
        rw[<- r2,<- I] at f
        have r1 : ∀ u v:Nat,v*2^u*(v*2^u)=v*v*2^(u+u):=λu v=>by rw[Nat.pow_add];ac_rfl
        rw[r1];exact f
      obtain ⟨N,J⟩ : ∃ N:Nat,N=S.V.m*2^(c+1074):=⟨_,rfl⟩
      rw[<- J] at C
      obtain ⟨A,o,a5⟩ : ∃ A:Int,A.natAbs=N/\S.V.neg=decide (A<0):=by
        have d3:0<N:=by rw[J];exact Nat.mul_pos oO (Nat.two_pow_pos _)
        cases z:S.V.neg with
        | false=>exact ⟨(N:Int),Int.natAbs_natCast N,(decide_eq_false oO).symm⟩
        | true=>exact ⟨-(N:Int),by omega,(decide_eq_true oO).symm⟩
      have G:Nm k A ((S.Q.m*2^a:Nat):Int):=by
        refine ⟨λx hx=>?_,Int.natCast_nonneg _,λz=>absurd z oO,λ_=>by omega,λ_=>h,?_⟩
        · have hd:((2^x:Nat):Int) ∣ A:=by
            rw[Int.ofNat_dvd_left,o,J,hx,Nat.pow_add,<- Nat.mul_assoc]
            exact Nat.dvd_mul_left _ _
          obtain ⟨z,hz⟩:=hd
          exact ⟨z,by rw[hz,Int.mul_comm]⟩
        · have w1:((N*N:Nat):Int)=A*A:=by rw[<- o,Int.natCast_mul,Int.natAbs_mul_self']
          rw[<- w1,<- Int.natCast_mul,<- Int.natCast_mul]
          exact Int.ofNat_le.2 C
      exact ⟨A,_,d2q (a:=c+1074) p.ok (by rw[o,J]) (λ_=>a5) oO (G.inA hn),eQ,G⟩
theorem Gn.read{b:List Nat}(c:B8 b){S:Sh}(h:akj b=some S):Gn S/\S.noE:=by
  obtain ⟨a,k,j,i,g,f,e,d⟩:=decS_parts c h
  have l:0<=S.pln/\S.pln<=1099511627776:=by
    have:=a
    unfold cX at this
    unfold Sh.pln Sh.fin
    omega
  refine ⟨⟨a,i,g,Nm.from k j oO oO e,d⟩,f⟩
end
section
open Go Sx Wd Fl
set_option exponentiation.threshold 9000
theorem Gn.var{S:Sh}(h:Gn S){d mode C D:Int}{b b':Nat}{e e':Int}(g:varShR S d mode C D b e)(i:varRefR S d mode C D b' e'):b=b'/\e=e':=by
  obtain ⟨A,T,M,O,J⟩:=h.nm
  have Z:=h.p0
  rcases g with ⟨a,o,l⟩|⟨a,g⟩<;>rcases i with ⟨H,m,k⟩|⟨H,i⟩
  · exact ⟨o.trans m.symm,l.trans k.symm⟩
  · exact absurd H a
  · exact absurd a H
  rcases g with ⟨s,o,l⟩|⟨s,g⟩<;>rcases i with ⟨B,m,k⟩|⟨B,i⟩
  · exact ⟨o.trans m.symm,l.trans k.symm⟩
  · exact absurd B s
  · exact absurd s B
  rcases g with ⟨c,o,l⟩|⟨c,g⟩<;>rcases i with ⟨G,m,k⟩|⟨G,i⟩
  · exact ⟨o.trans m.symm,l.trans k.symm⟩
  · exact absurd c G
  · exact absurd G c
  rcases g with ⟨f,o,l⟩|⟨f,g⟩<;>rcases i with ⟨R,m,k⟩|⟨R,i⟩
  · exact ⟨o.trans m.symm,l.trans k.symm⟩
  · omega
  · omega
  obtain ⟨x,y,v,t,r,F⟩:=var_some (J.inA oO) (J.inT oO) (n:=S.fin) oO
  rw[<- O] at t
  rw[<- M] at r
  have p:numD S.fin S.V S.Q=v:=by unfold numD;rw[t,r];show (crq x y).getD _=v;rw[F];rfl
  have q:denD S.fin d=timD (cZ S.fin) (cZ (S.fin-d)):=(timD_eq (wZ oO)).symm
  rw[p,q] at i
  have j:0<=mode/\mode<=4:=Classical.byContradiction λz=>by
    have:shE S.s mode C D=1:=if_pos λy=>z y.1
    rw[this] at s;cases s
  rcases g with ⟨z,_⟩|⟨_,⟨z,_⟩|⟨X,U,w,u,⟨z,_⟩|⟨Y,I,⟨z,_⟩|⟨_,g⟩⟩⟩⟩
  · exact absurd ⟨j,a,by omega,by omega⟩ z
  · rcases z with z|z
    · rw[t] at z;cases z
    · rw[r] at z;cases z
  · rw[t] at w;cases w;rw[r] at u;cases u;rw[F] at z;cases z
  · omega
  · rw[t] at w;cases w;rw[r] at u;cases u;rw[F] at I;cases I
    exact bzx g i
theorem dzj{S:Sh}{mode l m:Int}{b b':Nat}{e e':Int}(f:c6x S mode l m b e)(d:c6x S mode l m b' e'):b=b'/\e=e':=by
  rcases f with ⟨s,j,h⟩|⟨s,f⟩<;>rcases d with ⟨k,i,g⟩|⟨k,d⟩
  · exact ⟨j.trans i.symm,h.trans g.symm⟩
  · exact absurd k s
  · exact absurd s k
  rcases f with ⟨x,c,j,h⟩|⟨c,f⟩<;>rcases d with ⟨y,a,i,g⟩|⟨a,d⟩
  · rw[c] at a;cases a;exact ⟨j.trans i.symm,h.trans g.symm⟩
  · rw[c] at a;cases a
  · rw[c] at a;cases a
  rcases f with ⟨c,j,h⟩|⟨c,f⟩<;>rcases d with ⟨a,i,g⟩|⟨a,d⟩
  · exact ⟨j.trans i.symm,h.trans g.symm⟩
  · exact absurd c a
  · exact absurd a c
  rcases f with ⟨c,j,h⟩|⟨c,f⟩<;>rcases d with ⟨a,i,g⟩|⟨a,d⟩
  · exact ⟨j.trans i.symm,h.trans g.symm⟩
  · exact absurd c a
  · exact absurd a c
  · exact bzx f d
end
section
open Go Sx Wd Fl
theorem leB_get(n k i:Nat)(h:i<(leB n k).length):(leB n k)[i]=n/256^i%256:=by simp[leB]
theorem leV_get : ∀ (l:List Nat),(∀ x∈l,x<256)->∀ i (h:i<l.length),leV l/256^i%256=l[i]:=by
  intro l
  induction l with
  | nil=>intro _ i h;simp at h
  | cons x l ih=>
    intro a i h
    have c:=a x (List.mem_cons_self ..)
    cases i with
    | zero=>show leV (x::l)/256^0%256=x;rw[leV,Nat.pow_zero,Nat.div_one];omega
    | succ i=>
      have:=ih (λy b=>a y (List.mem_cons_of_mem _ b)) i (by simpa using h)
      show leV (x::l)/256^(i+1)%256=l[i]'(by simpa using h)
      rw[<- this,leV,Nat.pow_succ,Nat.mul_comm (256^i),<- Nat.div_div_eq_div_mul,show (x+256*leV l)/256=leV l by omega]
theorem leB_leV(l:List Nat)(a : ∀ x∈l,x<256):leB (leV l) l.length=l:=
  List.ext_getElem (by rw[fZ]) λi h1 h2=>by rw[leB_get,leV_get l a i h2]
theorem B8.drop_take{a:List Nat}(b:B8 a)(p k:Nat): ∀ x∈(a.drop p).take k,x<256:=λx hx=>b x (List.mem_of_mem_drop (List.mem_of_mem_take hx))
theorem a8q{a:List Nat}(c:B8 a){p p' k n:Nat}{bad:Bool}(h:rdN a p bad k=(n,p',false)):a.drop p=leB n k++a.drop p':=by
  unfold rdN at h
  split at h
  · cases h
  · rename_i hn
    have f:=(Prod.mk.inj h).1
    have d:=(Prod.mk.inj (Prod.mk.inj h).2).1
    have b:((a.drop p).take k).length=k:=by rw[List.length_take,List.length_drop];omega
    have e:=leB_leV _ (c.drop_take p k)
    rw[b,f] at e
    rw[e,<- d,<- List.drop_drop,List.take_append_drop]
theorem rdC_back{a:List Nat}(b:B8 a){p p' n:Nat}{bad:Bool}(h:rdC a p bad=(n,p',false)):a.drop p=leB n 8++a.drop p':=by
  unfold rdC at h
  split at h
  · cases h
  · exact a8q b h
theorem rdK_back{a:List Nat}(c:B8 a): ∀ n,(rdK a n).2.2=false->a=((rdK a n).1.map λx=>leB x 8).flatten++a.drop (rdK a n).2.1:=by
  intro n
  induction n with
  | zero=>intro _;rfl
  | succ n ih=>
    intro h
    rw[rdK] at h ⊢
    dsimp only at h ⊢
    have b:(rdK a n).2.2=false:=by
      cases z:(rdK a n).2.2 with
      | false=>rfl
      | true=>
        rw[z] at h
        unfold rdC at h
        rw[a4j] at h
        simp at h
    have e:=rdC_back c (p:=(rdK a n).2.1) (bad:=(rdK a n).2.2) (n:=(rdC a (rdK a n).2.1 (rdK a n).2.2).1) (p':=(rdC a (rdK a n).2.1 (rdK a n).2.2).2.1) (by rw[<- h])
    conv=>lhs;rw[ih b]
    rw[e,List.map_append,List.flatten_append,List.append_assoc]
    simp
theorem rdW_back{a:List Nat}(c:B8 a)(p:Nat)(bad:Bool): ∀ n,(rdW a p bad n).2.2=false->a.drop p=((rdW a p bad n).1.map λx=>leB x 4).flatten++a.drop (rdW a p bad n).2.1:=by
  intro n
  induction n with
  | zero=>intro _;rfl
  | succ n ih=>
    intro h
    rw[rdW] at h ⊢
    dsimp only at h ⊢
    have b:(rdW a p bad n).2.2=false:=by
      cases z:(rdW a p bad n).2.2 with
      | false=>rfl
      | true=>rw[z,a4j] at h;cases h
    have e:=a8q c (p:=(rdW a p bad n).2.1) (bad:=(rdW a p bad n).2.2) (k:=4) (n:=(rdN a (rdW a p bad n).2.1 (rdW a p bad n).2.2 4).1) (p':=(rdN a (rdW a p bad n).2.1 (rdW a p bad n).2.2 4).2.1) (by rw[<- h])
    conv=>lhs;rw[ih b]
    rw[e,List.map_append,List.flatten_append,List.append_assoc]
    simp
theorem rdD_back{a:List Nat}(f:B8 a){p:Nat}{bad:Bool}(h:(rdD a p bad).2.2.2.2=false):a.drop p=aej ⟨(rdD a p bad).1,val (rdD a p bad).2.1,(rdD a p bad).2.2.1⟩++a.drop (rdD a p bad).2.2.2.1:=by
  have l:=(csx f h).1
  rcases h1:rdN a p bad 1 with ⟨c,y,t⟩
  rcases h2:rdN a y t 2 with ⟨j,x,s⟩
  rcases h3:rdN a x s 2 with ⟨b,d,g⟩
  by_cases hq:1<c\/160<b
  · have n:rdD a p bad=(false,[],0,d,true):=by simp only[rdD,h1,h2,h3,if_pos hq]
    rw[n] at h;cases h
  · rcases h4:rdW a d g b with ⟨k,q,i⟩
    have n:rdD a p bad=(decide ((c:Int)=1),k,(j:Int)-4096,q,if b=0 then decide (i=true\/(c:Int)=1\/(j:Int)-4096≠0) else decide (i=true\/k.getD 0 0%2=0\/k.getD (b-1) 0=0)):=by simp only[rdD,h1,h2,h3,h4,if_neg hq]
    rw[n] at h l ⊢
    dsimp only at h l ⊢
    unfold aej
    dsimp only
    rw[l]
    have m:=auq a d g b
    have r:=rdW_back f d g b
    rw[h4] at m r
    dsimp only at m r
    have e:i=false:=by
      split at h
      · have o:=of_decide_eq_false h
        cases i with
        | false=>rfl
        | true=>exact absurd (.inl rfl) o
      · have o:=of_decide_eq_false h
        cases i with
        | false=>rfl
        | true=>exact absurd (.inl rfl) o
    have u:g=false:=by
      cases g with
      | false=>rfl
      | true=>have:=rdW_bad a d b;rw[h4] at this;rw[e] at this;cases this
    have v:s=false:=by
      cases s with
      | false=>rfl
      | true=>rw[a4j] at h3;cases h3;cases u
    have w:t=false:=by
      cases t with
      | false=>rfl
      | true=>rw[a4j] at h2;cases h2;cases v
    rw[a8q f (by rw[h1,w]),a8q f (by rw[h2,v]),a8q f (by rw[h3,u]),r e,m]
    have B:(if decide ((c:Int)=1)=true then 1 else 0)=c:=by
      by_cases z:c=1
      · subst z;rfl
      · rw[if_neg oT];omega
    have A:((j:Int)-4096+4096).toNat=j:=by omega
    rw[B,A]
    simp only[List.append_assoc]
theorem encS_decS{g:List Nat}(l:B8 g){S:Sh}(h:akj g=some S):adx S=g:=by
  unfold akj at h
  have r:=rdK_back l 6
  have i:=rdK_len g 6
  generalize rdK g 6=K at h r i
  split at h
  · cases h
  rename_i hn
  have k0:K.2.2=false:=by
    cases z:K.2.2 with
    | false=>rfl
    | true=>exact absurd (.inl z) hn
  have w:=r k0
  unfold drj at h
  have ev:=@rdD_back g l K.2.1 K.2.2
  generalize hv:rdD g K.2.1 K.2.2=v at h ev
  unfold decV at h
  have m:=@rdD_back g l v.2.2.2.1 v.2.2.2.2
  generalize hq:rdD g v.2.2.2.1 v.2.2.2.2=q at h m
  generalize he:rdE (decide ((ahx K.1).na<(ahx K.1).al)) g q.2.2.2.1 q.2.2.2.2=E at h
  have B:E.2.2.2=false->q.2.2.2.2=false:=λz=>blx he z
  have A:q.2.2.2.2=false->v.2.2.2.2=false:=λz=>dhx hq z
  unfold d0q at h
  split at h
  · cases h
  rename_i hm
  have t:mZ (ahx K.1) v q E.1 E.2.1=S:=Option.some.inj h
  have j:E.2.2.2=false:=by
    cases z:E.2.2.2 with
    | false=>rfl
    | true=>exact absurd (.inl z) hm
  have s:g.drop E.2.2.1=[]:=List.drop_eq_nil_of_le (by have : ¬0<g.length-E.2.2.1:=λz=>hm (.inr (.inl z));omega)
  have o:=B j
  have x:g.drop q.2.2.2.1=(if (ahx K.1).na<(ahx K.1).al then leB E.1 8++leB E.2.1 8 else [])++g.drop E.2.2.1:=by
    unfold rdE at he
    by_cases z:(ahx K.1).na<(ahx K.1).al
    · rw[if_pos (decide_eq_true z)] at he
      rw[if_pos z]
      subst he
      dsimp only at j ⊢
      have C:(rdN g q.2.2.2.1 q.2.2.2.2 8).2.2=false:=by
        cases y:(rdN g q.2.2.2.1 q.2.2.2.2 8).2.2 with
        | false=>rfl
        | true=>rw[y,a4j] at j;cases j
      rw[a8q l (p:=q.2.2.2.1) (bad:=q.2.2.2.2) (k:=8) (n:=(rdN g q.2.2.2.1 q.2.2.2.2 8).1) (p':=(rdN g q.2.2.2.1 q.2.2.2.2 8).2.1) (by rw[<- C]),
        a8q l (p:=(rdN g q.2.2.2.1 q.2.2.2.2 8).2.1) (bad:=(rdN g q.2.2.2.1 q.2.2.2.2 8).2.2) (k:=8) (n:=(rdN g (rdN g q.2.2.2.1 q.2.2.2.2 8).2.1 (rdN g q.2.2.2.1 q.2.2.2.2 8).2.2 8).1) (p':=(rdN g (rdN g q.2.2.2.1 q.2.2.2.2 8).2.1 (rdN g q.2.2.2.1 q.2.2.2.2 8).2.2 8).2.1) (by rw[<- j]),List.append_assoc]
    · rw[if_neg oT] at he
      rw[if_neg z]
      subst he
      rfl
  obtain ⟨a,b,c,d,e,f,u⟩ : ∃ a b c d e f,K.1=[a,b,c,d,e,f]:=by
    match K.1,i with
    | [a,b,c,d,e,f],_=>exact ⟨a,b,c,d,e,f,rfl⟩
  rw[<- t]
  conv=>rhs;rw[w,ev (A o),m o,x,s]
  unfold adx mZ
  rw[u]
  show leB a 8++leB b 8++leB c 8++leB d 8++leB e 8++leB f 8++aej _++aej _++(if a<f then leB E.1 8++leB E.2.1 8 else [])=_
  simp only[List.map_cons,List.map_nil,List.flatten_cons,List.flatten_nil,List.append_assoc,List.append_nil]
  rfl
namespace Sx
section
variable {P:Program} {ops:Array Oper} {K:KK} {fuel:Nat} {listed:Array Bool} {n:Nat} {D:List Deferred} {s:Sl} {w:World} {ty:TypeId} {pos:String} {af:Array Edge} {d:Nat} {x y:Operand}
end
end Sx
end
section
open Go Sx Wd Fl
end
section
open Go Sx Go.RowKit Go.Extern.Stop Go.Stop Go.Extern
set_option maxRecDepth 200000
end
section
open Go Sx Go.RowKit Go.Extern.Stop Go.Stop Go.Extern
set_option maxRecDepth 200000
end
section
open Go Sx Wd Fl
structure GF(w:World)(ea:Nat->Addr):Prop where
  ge:GE w (evV ea)
  cell : ∀ c,1<=c->c<=4->∃ cs t,w.heap[(ea c).block]?=some (.cells cs t (0,0))
  ne : ∀ c d,1<=c->c<=4->1<=d->d<=4->c≠d->ea c≠ea d
  et:w.cell? ⟨1,0,none⟩=some (.iface 245 (.agg #[.pointer (some ⟨7,107,none⟩)]))
namespace Sx
section
variable {r:Option Nat} {P:Program} {A:AQ} {n:Nat} {D:List Deferred} {s:Sl} {w:World}
variable {ops:Array Oper} {K:KK} {fuel:Nat} {listed:Array Bool} {pos:String} {af:Array Edge} {ty:TypeId}
end
end Sx
end
section
open Go Sx Wd Fl
theorem BK.neT{w:World}{b c:Nat}{T T':TypeId}{cs f:List Value}(h:BK w b T cs)(d:BK w c T' f)(a:T≠T'):b≠c:=λe=>by
  subst e
  have:=h.symm.trans d
  simp at this
  exact a this.2
structure GoodG(G:List RG):Prop where
  g : ∀ g∈G,1<=(sB g.1).length/\(sB g.1).length<=64/\B8 g.2.1/\akj g.2.1≠none
  tot:totG G<=1048576
def l12:List Nat:=[4607182418800017408,4611686018427387904]
theorem ex0:Sh.zero.ex:=⟨by decide,by decide,by show (wd 0).length<=160;rw[eJ];decide,by show (wd 0).length<=160;rw[eJ];decide⟩
theorem w12 : ∀ x∈l12,x<18446744073709551616:=by decide
def aw1:Nat:=4607182418800017408
def aw3:Nat:=4613937818241073152
def awS:Sh:=(Sh.zero.merge (Sh.one aw1)).merge (Sh.one aw3)
theorem aw_gn1:Gn (Sh.zero.merge (Sh.one aw1)):=Gn.zero.merge (Gn.one oD) oD
theorem aw_gn:Gn awS:=aw_gn1.merge (Gn.one oD) (by decide +kernel)
theorem aw_no1:(Sh.zero.merge (Sh.one aw1)).noE:=cux Gn.zero (Gn.one (x:=aw1) oD) (λ_=>⟨rfl,rfl⟩)
theorem aw_no:awS.noE:=cux aw_gn1 (Gn.one (x:=aw3) oD) aw_no1
theorem aw_sum{b:Nat}{e:Int}(h:crx awS 0 0 0 b e):b=4616189618054758400/\e=0:=by
  refine cjj rfl rfl h (.inr ⟨by decide +kernel,.inr ⟨by decide +kernel,.inr ⟨by decide +kernel,.inr ⟨by decide,.inr ⟨awS.V,4616189618054758400,rfl,near_is oD (yZ _) (by decide +kernel),by decide,by decide +kernel,rfl⟩⟩⟩⟩⟩)
theorem aw_var{b:Nat}{e:Int}(h:varShR awS 1 0 0 0 b e):b=4611686018427387904/\e=0:=by
  rcases h with ⟨a,_⟩|⟨_,h⟩
  · exact absurd (.inr rfl) a
  rcases h with ⟨a,_⟩|⟨_,h⟩
  · exact absurd (by decide +kernel) a
  rcases h with ⟨a,_⟩|⟨_,h⟩
  · exact absurd a (by decide +kernel)
  rcases h with ⟨a,_⟩|⟨_,h⟩
  · exact absurd a (by decide +kernel)
  have j:fJ (cZ awS.fin) awS.Q = .some ⟨false,5,2⟩:=by kernel_rfl
  have i:fJ awS.V awS.V = .some ⟨false,1,4⟩:=by kernel_rfl
  rcases h with ⟨a,_⟩|⟨_,h⟩
  · exact absurd ⟨⟨by decide,by decide⟩,.inr rfl,by decide +kernel,by decide +kernel⟩ a
  rcases h with ⟨a|a,_⟩|⟨x,y,f,d,h⟩
  · rw[j] at a;cases a
  · rw[i] at a;cases a
  rw[j] at f
  rw[i] at d
  obtain rfl:=Option.some.inj f
  obtain rfl:=Option.some.inj d
  have g:crq ⟨false,5,2⟩ ⟨false,1,4⟩ = .some ⟨false,1,2⟩:=by kernel_rfl
  rcases h with ⟨a,_⟩|⟨v,c,h⟩
  · rw[g] at a;cases a
  rw[g] at c
  obtain rfl:=Option.some.inj c
  rcases h with ⟨a,_⟩|⟨_,h⟩
  · exact absurd a (by decide +kernel)
  refine bzx h (b':=4611686018427387904) (e':=0) ?_
  exact .inr ⟨by decide,.inr (.inr ⟨by decide +kernel,⟨false,1,2⟩,⟨false,1,1⟩,by kernel_rfl,by kernel_rfl,.inr ⟨by decide,4611686018427387904,near_is oD (by decide +kernel) (by decide +kernel),by decide,by decide +kernel,rfl⟩⟩)⟩
theorem aw_len0:(adx Sh.zero).length=58:=by decide +kernel
theorem aw_len:(adx awS).length=82:=by decide +kernel
theorem aw_at:(adx awS).getD 40 0=2:=by decide +kernel
theorem dec_nil:akj []=none:=by
  unfold akj
  rw[if_pos (.inl (by decide +kernel))]
structure KEq(b:Nat)(S:Sh)(rv rq:Value)(w0:World)(g:Nat×Value)(w:World):Prop where
  hi:g.1<=6
  hb:BK w b 91 [.int .i64 (S.s.na:Int),.int .i64 (S.s.up:Int),.int .i64 (S.s.dn:Int),.int .i64 (S.s.mi:Int),.int .i64 (S.s.pl:Int),.int .i64 (S.s.al:Int),.bool S.V.neg,rv,.int .i64 S.V.e,.bool S.Q.neg,rq,.int .i64 S.Q.e,.float .f64 S.lo,.float .f64 S.hi]
  g:PQ w 5 1 w0.heap.size g.2 (((([S.s.na,S.s.up,S.s.dn,S.s.mi,S.s.pl,S.s.al].take g.1).map λy=>leB y 8).flatten)).length ((((([S.s.na,S.s.up,S.s.dn,S.s.mi,S.s.pl,S.s.al].take g.1).map λy=>leB y 8).flatten)).map u8v)
  ch:Chg [] w0 w
theorem atj(b:Nat)(S:Sh)(w:World)(hS:ShM 91 w b S)(c3:S.wf)(k:S.ex):Ret Tryz.prog 11 [.pointer (some ⟨b,0,none⟩)] w λu w'=>PQ w' 5 1 w.heap.size u (adx S).length ((adx S).map u8v)/\Chg [] w w':=by
 obtain ⟨rv,rq,e,o,p⟩:=hS;obtain ⟨⟨a7,a6,a5,a4,a3,a2⟩,c6,c7,c8,c9⟩:=c3;have h:=e;have d5:=k.lv;have d6:=k.lq;have a:=crf w;refine zE1 Tryz.func11 rfl ?_;refine Sr λ_ c2=>za rfl (zz (c2 (Sr λ_ c1=>za rfl (zz (c1 (zc λ_ c0=>zc λ_ b9=>?_))))));refine CW.jQ cJ oR λe8 b7 b3=>?_;have a:=a.ta b3;have e:=e.q5 b3;refine ym rfl (yP rfl (yf rfl (yf rfl ?_)));refine WS.ev (Ev.load rfl rfl (e.at_ rfl)) rfl ?_;refine ym rfl (yP rfl (yf rfl (yf rfl ?_)));refine WS.ev (Ev.load rfl rfl (e.at_ rfl)) rfl ?_;refine ym rfl (yP rfl (yf rfl (yf rfl ?_)));refine WS.ev (Ev.load rfl rfl (e.at_ rfl)) rfl ?_;refine ym rfl (yP rfl (yf rfl (yf rfl ?_)));refine WS.ev (Ev.load rfl rfl (e.at_ rfl)) rfl ?_;refine ym rfl (yP rfl (yf rfl (yf rfl ?_)));refine WS.ev (Ev.load rfl rfl (e.at_ rfl)) rfl ?_;refine ym rfl (yP rfl (yf rfl (yf rfl ?_)));refine WS.ev (Ev.load rfl rfl (e.at_ rfl)) rfl ?_;refine WS.ev (Ev.buildA (vs:=_) (cs:=[.int .i64 (S.s.na:Int),.int .i64 (S.s.up:Int),.int .i64 (S.s.dn:Int),.int .i64 (S.s.mi:Int),.int .i64 (S.s.pl:Int),.int .i64 (S.s.al:Int)]) rfl oR) rfl ?_;refine ym rfl ?_;refine WS.nil (b7 _ _ ?_);refine b9 (CW.block ?_);refine CW.loop (S:=λg:Nat×Value=>[(0,.pointer (some ⟨b,0,none⟩)),(3,g.2),(36,.agg [.int .i64 (S.s.na:Int),.int .i64 (S.s.up:Int),.int .i64 (S.s.dn:Int),.int .i64 (S.s.mi:Int),.int .i64 (S.s.pl:Int),.int .i64 (S.s.al:Int)].toArray),(37,.int .i64 (g.1:Int))]) (Inv:=KEq b S rv rq w) (mu:=λg=>6-g.1) ((0,.slice none 0 0)) ?_ ?_ ?_
 ·exact ⟨by decide,e,PQ.nil,a⟩
 ·exact SLp
 rintro ⟨i,vi⟩ wr ⟨hi,e,c,a⟩;dsimp only at hi c a;dsimp only;refine Sr λ_ b8=>zL rfl rfl (zz (b8 (zc λ_ U=>?_)));refine zy rfl ?_ ?_<;>intro c5<;>try simp only[qs] at c5
 ·have e9:=cnt6_le ⟨a7,a6,a5,a4,a3,a2⟩ i
  refine zkk (U (zc λ_ T=>CW.block (Sr λ_ R=>?_)));refine WL.ev (Ev.indexAr (v:=.int .i64 (([S.s.na,S.s.up,S.s.dn,S.s.mi,S.s.pl,S.s.al].getD i 0:Nat):Int)) (i:=i) rfl rfl oO rfl (cnt6_at S.s oO)) rfl ?_;refine za rfl (zz (R ?_));refine zR λ_ F=>?_;refine zm rfl (zm rfl ?_);refine WL.ev (Ev.dZ rfl rfl (iZ oO)) rfl ?_;refine WL.call hasF45 rfl rfl (bnj ([S.s.na,S.s.up,S.s.dn,S.s.mi,S.s.pl,S.s.al].getD i 0) 8 _ oO oD) λv w1 l=>?_;obtain ⟨⟨f5,rfl,a1,d4⟩,f⟩:=l;have c:=c.q5 f;have a:=a.ta f;have e:=e.q5 f;refine WL.app8 (news:=leB ([S.s.na,S.s.up,S.s.dn,S.s.mi,S.s.pl,S.s.al].getD i 0) 8) rfl rfl c (by rw[fZ]) a1.row a.size (by simp only[List.length_append,fZ,qQ,pJ,List.length_take,List.length_cons,List.length_nil];omega) (by simp only[List.length_append,fZ,qQ,pJ,List.length_take,List.length_cons,List.length_nil];omega) rfl λb4 e2 b2 A m=>?_;have d:=PQ.frame c A a (Nat.le_refl _);have e:=h.q5 d;have a:=d;have c:=b2;rw[<- drx (by simp only[List.length_cons,List.length_nil];omega)] at c;refine za rfl ?_;refine WL.nil (F _ _ _ (T ?_));refine zS λ_ D=>?_;(first|refine zi rfl rfl ?_|refine zo rfl rfl ?_);refine zm rfl (zz (D ?_));refine ⟨rfl,(i+1,b4),?_,?_,?_⟩
  ·exact SLp
  ·exact ⟨by dsimp only;omega,e,c,a⟩
  show 6-(i+1)<6-i;omega
 have c4:i=6:=by omega
 subst c4;have c:PQ wr 5 1 w.heap.size vi ((([S.s.na,S.s.up,S.s.dn,S.s.mi,S.s.pl,S.s.al].map λy=>leB y 8).flatten)).length (((([S.s.na,S.s.up,S.s.dn,S.s.mi,S.s.pl,S.s.al].map λy=>leB y 8).flatten)).map u8v):=c;refine CW.exit ?_;refine c0 (Sr λ_ O=>zm rfl (zm rfl (zP rfl (zf rfl ?_))));refine WL.ev (Ev.fQ rfl rfl e rfl rfl) rfl ?_
 try simp only[oL]
 refine WL.call hasF46 rfl rfl (cix S.V rv _ (o.at_ a) k.v (by have:=k.lv;omega)) λv w2 l=>?_;obtain ⟨⟨f4,rfl,a0,d3⟩,f⟩:=l;have c:=c.q5 f;have a:=a.ta f;have e:=e.q5 f;refine WL.app8 (news:=aej S.V) rfl rfl c (rfl) a0.row a.size (by simp only[List.length_append,fZ,qQ,pJ,List.length_take,List.length_cons,List.length_nil];omega) (by simp only[List.length_append,fZ,qQ,pJ,List.length_take,List.length_cons,List.length_nil];omega) rfl λe7 e1 b1 z m=>?_;have d:=PQ.frame c z a (Nat.le_refl _);have e:=h.q5 d;have a:=d;have c:=b1;refine za rfl (zz (O (Sr λ_ M=>zm rfl (zm rfl (zP rfl (zf rfl ?_))))));refine WL.ev (Ev.fQ rfl rfl e rfl rfl) rfl ?_
 try simp only[oL]
 refine WL.call hasF46 rfl rfl (cix S.Q rq _ (p.at_ a) k.q (by have:=k.lq;omega)) λv w3 l=>?_;obtain ⟨⟨f3,rfl,Z,d2⟩,f⟩:=l;have c:=c.q5 f;have a:=a.ta f;have e:=e.q5 f;refine WL.app8 (news:=aej S.Q) rfl rfl c (rfl) Z.row a.size (by simp only[List.length_append,fZ,qQ,pJ,List.length_take,List.length_cons,List.length_nil];omega) (by simp only[List.length_append,fZ,qQ,pJ,List.length_take,List.length_cons,List.length_nil];omega) rfl λe6 e0 b0 x m=>?_;have d:=PQ.frame c x a (Nat.le_refl _);have e:=h.q5 d;have a:=d;have c:=b0;refine za rfl (zz (M (zc λ_ n=>Sr λ_ J=>zm rfl ?_)));refine WL.call hasF47 rfl rfl (arq b S _ ⟨rv,rq,e,o.q5 a,p.q5 a⟩ ⟨a7,a6,a5,a4,a3,a2⟩) λv w4 l=>?_;obtain ⟨rfl,f⟩:=l;have c:=c.q5 f;have a:=a.ta f;have e:=e.q5 f;refine zz (J ?_);refine zy rfl ?_ ?_<;>intro B<;>try simp only[qs] at B
 ·have j:S.some:=by simpa using B
  refine Sr λ_ I=>zm rfl (zm rfl (zP rfl (zf rfl (zl e rfl rfl ?_))));refine WL.ev (Ev.ext rfl (ext48 _ _)) rfl ?_;refine WL.call hasF45 rfl rfl (bnj (S.lo) 8 _ oO oD) λv w5 l=>?_;obtain ⟨⟨f2,rfl,Y,d1⟩,f⟩:=l;have c:=c.q5 f;have a:=a.ta f;have e:=e.q5 f;refine WL.app8 (news:=leB S.lo 8) rfl rfl c (by rw[fZ]) Y.row a.size (by simp only[List.length_append,fZ,qQ,pJ,List.length_take,List.length_cons,List.length_nil];omega) (by simp only[List.length_append,fZ,qQ,pJ,List.length_take,List.length_cons,List.length_nil];omega) rfl λe5 d9 a9 t m=>?_;have d:=PQ.frame c t a (Nat.le_refl _);have e:=h.q5 d;have a:=d;have c:=a9;refine za rfl (zz (I ?_));refine zR λ_ C=>?_;refine zm rfl (zm rfl (zP rfl (zf rfl (zl e rfl rfl ?_))));refine WL.ev (Ev.ext rfl (ext48 _ _)) rfl ?_;refine WL.call hasF45 rfl rfl (bnj (S.hi) 8 _ oO oD) λv w6 l=>?_;obtain ⟨⟨f1,rfl,X,d0⟩,f⟩:=l;have c:=c.q5 f;have a:=a.ta f;have e:=e.q5 f;refine WL.app8 (news:=leB S.hi 8) rfl rfl c (by rw[fZ]) X.row a.size (by simp only[List.length_append,fZ,qQ,pJ,List.length_take,List.length_cons,List.length_nil];omega) (by simp only[List.length_append,fZ,qQ,pJ,List.length_take,List.length_cons,List.length_nil];omega) rfl λe4 d8 a8 r m=>?_;have d:=PQ.frame c r a (Nat.le_refl _);have e:=h.q5 d;have a:=d;have c:=a8;refine za rfl ?_;refine WL.nil (C _ _ _ (n ?_));refine Sr λ_ H=>zm rfl (za rfl (zz (H ?_)));refine zr (zr1 rfl rfl ?_);refine ⟨?_,a⟩;unfold adx;rw[if_pos j]
  simpa using c
 have j : ¬S.some:=by simpa using B
 refine zkk (n (Sr λ_ G=>zm rfl (za rfl (zz (G ?_)))));refine zr (zr1 rfl rfl ?_);refine ⟨?_,a⟩;unfold adx;rw[if_neg j,List.append_nil]
 simpa using c
theorem GR.bwq{w:World}{lo:Nat}{X:List Nat}{v:Value}{l:List Nat}(h:GR w 5 u8v lo X v l): ∃ a c,v = .slice a l.length c/\l.length<=c/\RW w a (l.map u8v)/\∀ ad,a=some ad->ad.block<w.heap.size:=by
  obtain ⟨a,c,rfl,f,d⟩:=h.row
  refine ⟨a,c,rfl,f,d,λad e=>?_⟩
  subst e
  exact h.lt (b:=ad.block) rfl
theorem awake_spec(w:World)(hg:GW w):Ret Tryz.prog 7 [] w λu w'=>u = .bool true/\Chg [] w w':=by
 have a:=crf w;have h:=hg;refine zE0 Tryz.func7 rfl ?_;refine Sr λ_ J=>za rfl (zz (J (Sr λ_ I=>?_)));refine WL.call hasF21 rfl rfl (dcx _) λv w1 f=>?_;obtain ⟨⟨b,rfl,g,j⟩,d⟩:=f;have j:w.heap.size<=b:=Nat.le_trans a.size j;have a:=a.ta d;refine za rfl (zz (I (zc λ_ H=>Sr λ_ G=>zm rfl ?_)));refine WL.ev (Ev.azj rfl rfl) rfl ?_;refine zz (G ?_);refine CW.oX rfl ?_;refine zkk (H (Sr λ_ F=>zm rfl ?_));refine WL.call hasF11 rfl rfl (atj b Sh.zero _ g Sh.wf.zero ex0) λv w2 f=>?_;obtain ⟨C,d⟩:=f;obtain ⟨a4,a3,rfl,D,O,Q⟩:=C.bwq;rw[aw_len0];have a:=a.ta d;have g:=g.q5 d;refine za rfl (zz (F (Sr λ_ z=>zm rfl ?_)));refine WL.call hasF22 rfl rfl (cfx b Sh.zero aw1 _ g Sh.wf.zero oD (h.q5 a)) λv w3 f=>?_;rcases f with ⟨i,_⟩|⟨_,rfl,m,d⟩
 · exact absurd i oD
 have g:=m;have a:=a.step d (λy M=>.inr (by rw[List.mem_singleton.1 M];exact j));refine za rfl (zz (z (Sr λ_ t=>zm rfl ?_)));refine WL.call hasF22 rfl rfl (cfx b (Sh.zero.merge (Sh.one aw1)) aw3 _ g aw_gn1.wf oD (h.q5 a)) λv w4 f=>?_;rcases f with ⟨i,_⟩|⟨_,rfl,m,d⟩
 · exact absurd i (by decide +kernel)
 have g:=m;have a:=a.step d (λy M=>.inr (by rw[List.mem_singleton.1 M];exact j));refine za rfl (zz (t (Sr λ_ s=>zm rfl ?_)));refine WL.ev (Ev.build (vs:=_) (cs:=[_,_]) rfl rfl) rfl ?_;refine WL.call hasF23 rfl rfl (dbj b awS 0 0 0 _ g aw_gn.wf (h.q5 a)) λv w5 f=>?_;obtain ⟨⟨Z,e1,rfl,R⟩,d⟩:=f;obtain ⟨rfl,rfl⟩:=aw_sum R;have a:=a.ta d;have g:=g.q5 d;refine zm rfl (zx rfl rfl (zx rfl rfl (za rfl (za rfl (zz (s (Sr λ_ r=>zm rfl ?_)))))));refine WL.ev (Ev.build (vs:=_) (cs:=[_,_]) rfl rfl) rfl ?_;refine WL.call hasF24 rfl rfl (dbq b awS 1 0 0 0 _ g aw_gn.wf (h.q5 a)) λv w6 f=>?_;obtain ⟨⟨Z,e1,rfl,R⟩,d⟩:=f;obtain ⟨rfl,rfl⟩:=aw_var R;have a:=a.ta d;have g:=g.q5 d;refine zm rfl (zx rfl rfl (zx rfl rfl (za rfl (za rfl (zz (r (Sr λ_ q=>zm rfl ?_)))))));refine WL.call hasF11 rfl rfl (atj b awS _ g aw_gn.wf aw_gn.ex) λv w7 f=>?_;obtain ⟨B,d⟩:=f;obtain ⟨X,V,rfl,k,c,l⟩:=B.bwq;have a:=a.ta d;refine za rfl (zz (q (Sr λ_ p=>zm rfl ?_)));refine WL.call hasF25 rfl rfl (bjj X (adx awS) V _ c k l (encS_B8 _) (by rw[aw_len];decide) (h.q5 a)) λv w8 f=>?_;obtain ⟨U,d⟩:=f;rcases U with ⟨T,bt,-,rfl,-,-,-⟩|⟨A,-⟩
 rotate_left
 · rw[aw_gn.dec aw_no] at A;cases A
 have a:=a.ta d;have c:=c.q5 d;refine zm rfl (zx rfl rfl (zx rfl rfl (za rfl (za rfl (zz (p (Sr λ_ o=>?_)))))));refine WL.call hasF25 rfl rfl (bjj none [] 0 _ RW.nil (Nat.le_refl _) (λad e=>by cases e) (λx hx=>by cases hx) oD (h.q5 a)) λv w9 f=>?_;obtain ⟨U,d⟩:=f;rcases U with ⟨T,b2,Y,_⟩|⟨-,rfl⟩
 · rw[dec_nil] at Y;cases Y
 have a:=a.ta d;have c:=c.q5 d;refine zm rfl (zx rfl rfl (zx rfl rfl (za rfl (za rfl (zz (o (Sr λ_ n=>zm rfl (zn rfl (zq rfl rfl ?_)))))))));rw[show decide (((58:Nat):Int)=58)=true from rfl];refine zm rfl (zw rfl (zm rfl (zw rfl (zq rfl rfl ?_))));rw[decide_eq_true (rfl)];refine zt rfl rfl (zm rfl (zw rfl (zm rfl (zw rfl (zq rfl rfl ?_)))));rw[decide_eq_true (rfl)];refine zt rfl rfl (zm rfl (zw rfl (zm rfl (zw rfl ?_))));refine WL.ev (Ev.feql rfl rfl) rfl ?_;rw[show (FloatKind.f64.format.order 4616189618054758400 4616189618054758400==some .eq)=true by rw[Fl.caq];decide];refine zt rfl rfl (zm rfl (zw rfl (zm rfl (zw rfl (zq rfl rfl ?_)))));rw[decide_eq_true (rfl)];refine zt rfl rfl (zm rfl (zw rfl (zm rfl (zw rfl ?_))));refine WL.ev (Ev.feql rfl rfl) rfl ?_;rw[show (FloatKind.f64.format.order 4611686018427387904 4611686018427387904==some .eq)=true by rw[Fl.caq];decide];refine zt rfl rfl (zm rfl (zw rfl (zm rfl (zw rfl (zq rfl rfl ?_)))));rw[decide_eq_true (rfl)];refine zt rfl rfl (zm rfl (zw rfl (zm rfl (zw rfl (zn rfl ?_)))));rw[aw_len];refine zw rfl (zq rfl rfl ?_);rw[show decide (((82:Nat):Int)=82)=true from rfl];refine zt rfl rfl (zm rfl (zw rfl (zm rfl (zw rfl ?_))));refine WL.ev (Ev.ixR 40 rfl rfl c rfl oD (by rw[List.length_map,aw_len];decide)) rfl ?_;refine zw rfl ?_;refine WL.ev (Ev.load rfl rfl (c.u8 (by rw[aw_len];decide))) rfl ?_;rw[aw_at];refine zw rfl (zq rfl rfl ?_);rw[show decide (((2:Nat):Int)=2)=true from rfl];refine zt rfl rfl (zm rfl (zw rfl (zm rfl (zw rfl ?_))));refine WL.ev (Ev.b5q rfl rfl) rfl ?_;refine zt rfl rfl (zm rfl (zw rfl (zm rfl (zw rfl (zq rfl rfl ?_)))));rw[decide_eq_true (rfl)];refine zt rfl rfl (zm rfl (zw rfl (zm rfl (zw rfl (zq rfl rfl ?_)))));rw[decide_eq_true (rfl)];refine zt rfl rfl (za rfl (zz (n ?_)));refine zr (zr1 rfl rfl ?_);exact ⟨rfl,a⟩
abbrev PS:=Nat×Nat×Sh
def bej(L:List PS):List Value:=(L.map λg=>[Value.pointer (some ⟨g.1,0,none⟩),.pointer (some ⟨g.2.1,0,none⟩)]).flatten
theorem pairC_snoc(L:List PS)(g:PS):bej (L++[g])=bej L++[Value.pointer (some ⟨g.1,0,none⟩),.pointer (some ⟨g.2.1,0,none⟩)]:=by
  unfold bej;rw[List.map_append,List.flatten_append];simp
theorem pairC_get(L:List PS)(i:Nat)(g:PS)(h:L[i]?=some g):(bej L)[i*2]?=some (.pointer (some ⟨g.1,0,none⟩))/\(bej L)[i*2+1]?=some (.pointer (some ⟨g.2.1,0,none⟩)):=by
  induction L generalizing i with
  | nil=>simp at h
  | cons a L ih=>
    have e:bej (a::L) = .pointer (some ⟨a.1,0,none⟩)::.pointer (some ⟨a.2.1,0,none⟩)::bej L:=rfl
    rw[e]
    cases i with
    | zero=>cases h;exact ⟨rfl,rfl⟩
    | succ i=>
      have:=ih i (by simpa using h)
      rw[show (i+1)*2=i*2+1+1 by omega]
      exact this
structure PlS(lo:Nat)(w:World)(L:List PS)(C:List (Value×List Nat)):Prop where
  sh : ∀ g∈L,ShM 91 w g.1 g.2.2/\ShM 148 w g.2.1 g.2.2/\Gn g.2.2/\g.2.2.noE/\lo<=g.1/\lo<=g.2.1
  nb:L.Pairwise λa b=>a.1≠b.1/\a.2.1≠b.2.1
  dat : ∀ x∈C,PQ w 5 1 lo x.1 x.2.length (x.2.map u8v)/\B8 x.2/\x.2.length<=100000
  nd:C.Pairwise λx y=>∀ b,x.1.ownBlock=some b->y.1.ownBlock≠some b
theorem PlS.q5{lo:Nat}{w w':World}{L:List PS}{C:List (Value×List Nat)}(h:PlS lo w L C)(a:Chg [] w w'):PlS lo w' L C:=
  ⟨λg hg=>⟨(h.sh g hg).1.q5 a,(h.sh g hg).2.1.q5 a,(h.sh g hg).2.2⟩,h.nb,λx hx=>⟨(h.dat x hx).1.q5 a,(h.dat x hx).2⟩,h.nd⟩
theorem PlS.q8{lo:Nat}{w w':World}{L:List PS}{C:List (Value×List Nat)}{b:Nat}{T:TypeId}{cs:List Value}(h:PlS lo w L C)(e:BK w b T cs)(d:Chg [b] w w')(a : ∀ c∈cs,abq c=false)(j:91≠T:=by decide)(i:148≠T:=by decide)(f:5≠T:=by decide):PlS lo w' L C:=
  ⟨λg hg=>⟨(h.sh g hg).1.q8 e d a j,(h.sh g hg).2.1.q8 e d a i,(h.sh g hg).2.2⟩,h.nb,λx hx=>⟨(h.dat x hx).1.q8 e d a f,(h.dat x hx).2⟩,h.nd⟩
theorem ShM.azq{w w':World}{T e:TypeId}{l lo m b:Nat}{v:Value}{cs:List Value}{S:Sh}(h:ShM T w b S)(a:PQ w e l lo v m cs)(d:Chg v.ownBlock.toList w w')(c:e≠T:=by decide):ShM T w' b S:=by
  obtain ⟨f,g,i,k,j⟩:=h
  exact ⟨f,g,a.bk d i c,a.nu d k,a.nu d j⟩
theorem PlS.azq{lo a:Nat}{w w':World}{L:List PS}{C:List (Value×List Nat)}{e:TypeId}{j m:Nat}{v:Value}{cs:List Value}(h:PlS lo w L C)(b:PQ w e j a v m cs)(c:Chg v.ownBlock.toList w w')(i:e≠91:=by decide)(f:e≠148:=by decide)(d:e≠5:=by decide):PlS lo w' L C:=
  ⟨λg hg=>⟨(h.sh g hg).1.azq b c i,(h.sh g hg).2.1.azq b c f,(h.sh g hg).2.2⟩,h.nb,λx hx=>⟨(h.dat x hx).1.other b c (λq=>d q.symm),(h.dat x hx).2⟩,h.nd⟩
theorem PlS.snocC{lo k:Nat}{w d:World}{L:List PS}{C:List (Value×List Nat)}{v:Value}{l:List Nat}(j:PlS lo d L C)(h:PlS lo w L C)(e:PQ w 5 1 k v l.length (l.map u8v))(m:d.heap.size<=k)(c:lo<=k)(i:B8 l/\l.length<=100000):PlS lo w L (C++[(v,l)]):=by
  refine ⟨h.sh,h.nb,λx a=>?_,?_⟩
  · rcases List.mem_append.1 a with q|q
    · exact h.dat x q
    · rw[List.mem_singleton.1 q]
      exact ⟨e.mono c,i⟩
  · rw[List.pairwise_append]
    refine ⟨h.nd,List.pairwise_singleton ..,λx a y f b g q=>?_⟩
    rw[List.mem_singleton.1 f] at q
    have o:=e.ge q
    have n:=(j.dat x a).1.lt g
    omega
structure PlM(lo:Nat)(w:World)(bp:Nat)(L:List PS)(C:List (Value×List Nat))(st:Prop):Prop where
  ex : ∃ vl vc vw ws,BK w bp 29 [vl,vc,vw]/\PQ w 42 2 lo vl L.length (bej L)/\PQ w 35 1 lo vc C.length (C.map λx=>x.1)/\PQ w 9 1 lo vw C.length ws/\(st->ws=C.map λx=>.string (bA x.2))
  s:PlS lo w L C
  lob:lo<=bp
theorem PlM.q5{lo c:Nat}{w w':World}{L:List PS}{C:List (Value×List Nat)}{b:Prop}(h:PlM lo w c L C b)(a:Chg [] w w'):PlM lo w' c L C b:=by
  obtain ⟨⟨f,g,e,d,o,n,m,l,i⟩,k,j⟩:=h
  exact ⟨⟨f,g,e,d,o.q5 a,n.q5 a,m.q5 a,l.q5 a,i⟩,k.q5 a,j⟩
theorem PlM.lt{lo a:Nat}{w:World}{L:List PS}{C:List (Value×List Nat)}{b:Prop}(h:PlM lo w a L C b):lo<=a/\a<w.heap.size:=by
  obtain ⟨⟨g,i,f,e,d,_⟩,_,c⟩:=h
  exact ⟨c,d.lt⟩
def Kp(w w':World):Prop:=∀ b T l,BK w b T l->T≠29->T≠35->T≠9->BK w' b T l
theorem Kp.of{w w':World}{d lo m f:Nat}{cs l g:List Value}{c a:Value}(n:BK w d 29 cs)(j:PQ w 35 1 lo c m l)(i:PQ w 9 1 lo a f g)(h:Chg (d::(c.ownBlock.toList++a.ownBlock.toList)) w w'):Kp w w':=λb T k hk h1 h2 h3=>hk.gZ h λhm=>by
  rcases List.mem_cons.1 hm with q|q
  · exact BK.neT hk n h1 q
  · rcases List.mem_append.1 q with q|q
    · exact j.dlj hk (λe=>h2 e.symm) (Option.mem_toList.1 q)
    · exact i.dlj hk (λe=>h3 e.symm) (Option.mem_toList.1 q)
namespace Sx
section
variable {P:Program} {s:Sl} {w:World} {ty:TypeId} {x:Operand}
end
end Sx
end
section
open Go Sx Wd Fl
namespace Sx
section
variable {P:Program} {ops:Array Oper} {K:KK} {fuel:Nat} {listed:Array Bool} {n:Nat} {D:List Deferred} {s:Sl} {w:World} {ty:TypeId} {pos:String} {af:Array Edge} {d:Nat} {op:Op} {v:Value} {S:World->Prop}
end
end Sx
namespace Sx
theorem Ev.eqlStr{P:Program}{s:Sl}{w:World}{ty:TypeId}{x y:Operand}{t t':TypeId}{a b:ByteArray}(e:g8 s x=some (.string a))(c:g8 s y=some (.string b)):Ev P s (.binOp .eql t x y t') ty w (.bool (decide (a=b))) w:=λρ d pos af g hρ=>by
  have e1:=hρ x _ e
  have e2:=hρ y _ c
  have e3:(a.toList==b.toList)=decide (a=b):=by
    rw[ByteArray.toList_eq,ByteArray.toList_eq]
    by_cases h:a=b
    · subst h;simp
    · have:a.data.toList≠b.data.toList:=λq=>h (by cases a;cases b;congr 1;exact Array.ext' q)
      rw[decide_eq_false h,beq_eq_false_iff_ne.2 this]
  simp[execOp,e1,e2,eqGuard,binOp_string_eql,e3]
end Sx
end
section
open Go Sx Wd Fl
theorem bytes_spec(lo bp:Nat)(L:List PS)(C:List (Value×List Nat))(st:Prop)(bs br:Nat)(S:Sh)(w0 w:World)(hP:PlM lo w bp L C st)(hi:(bs,br,S)∈L)(g:Chg [] w0 w)(H:w0.heap.size<=lo)(hC:C.length<=100000):Ret Tryz.prog 42 [.pointer (some ⟨bp,0,none⟩),.agg [.pointer (some ⟨bs,0,none⟩),.pointer (some ⟨br,0,none⟩)].toArray] w λu w'=>u = .bool true/\(∃ v,PlM lo w' bp L (C++[(v,adx S)]) st)/\Chg [] w0 w'/\Kp w w':=by
 obtain ⟨⟨vl,vc,vw,ws,a,e,d,b,b4⟩,h,B⟩:=hP;obtain ⟨al,cl,rfl⟩:=e.sl;obtain ⟨ac,cc,rfl⟩:=d.sl;obtain ⟨aw,cw,rfl⟩:=b.sl;have d1:w0.heap.size<=bp:=Nat.le_trans H B;have I:=(h.sh _ hi).2.2.1;have Z:=a;have Q:=d;have O:=b;have f:Chg (bp::((Value.slice ac C.length cc).ownBlock.toList++(Value.slice aw C.length cw).ownBlock.toList)) w w:=Chg.refl _ _;refine zE2 Tryz.func42 rfl ?_;refine Sr λ_ b1=>?_;refine zBh rfl rfl rfl g λb3 d7 A p D V g=>?_;have U:=Nat.le_trans f.size D;have f:=f.ta p;have h:=h.q5 p;have e:=e.q5 p;have d:=d.q5 p;have b:=b.q5 p;have a4:=zdd a.lt D;have a:=a.q5 p;refine za rfl (zz (b1 (Sr λ_ b0=>zf rfl (zl A rfl rfl ?_))));refine WL.call hasF11 rfl rfl (atj bs S _ (h.sh _ hi).1 I.wf I.ex) λv w1 h'=>?_;obtain ⟨z,x⟩:=h';have b6:=h;have e4:=a.lt;have g:=g.ta x;have f:=f.ta x;have a:=a.q5 x;have A:=A.k0 x;have h:=h.q5 x;have e:=e.q5 x;have d:=d.q5 x;have b:=b.q5 x;refine za rfl (zz (b0 (Sr λ_ a8=>zf rfl (zl A rfl rfl ?_))));refine WL.call hasF113 rfl rfl (dij br S _ (h.sh _ hi).2.1 I.wf I.num I.ex) λv w2 h'=>?_;obtain ⟨X,k⟩:=h';have z:=z.q5 k;obtain ⟨f7,f1,rfl,a5,F,b9⟩:=X.bwq;have g:=g.ta k;have f:=f.ta k;have a:=a.q5 k;have h:=h.q5 k;have e:=e.q5 k;have d:=d.q5 k;have b:=b.q5 k;refine WL.ev (Ev.toStr (l:=adx S) rfl rfl F) rfl ?_;have h:=b6.snocC (l:=adx S) (h.q5 (Chg.refl _ _)) z (Nat.le_refl _) oO ⟨encS_B8 S,Nat.le_trans (encS_len I.ex) oD⟩;obtain ⟨a9,c9,rfl,b8,d0,d4⟩:=z.bwq;refine za rfl (zz (a8 (Sr λ_ a7=>zm rfl (zm rfl (zP rfl (zf rfl (zl a rfl rfl (zm rfl ?_))))))));refine WL.buildSlice (m:=1) (cs:=[.slice a9 (adx S).length c9]) oD oD rfl oR rfl λc6 e1 j=>?_;have a1:=j.at_;have g:=g.trans (Chg.any j.chg);have f:=f.trans (Chg.any j.chg);have h:=h.q5 j.chg;have e:=e.q5 j.chg;have d:=d.q5 j.chg;have b:=b.q5 j.chg;have a:=a.q5 j.chg;refine WL.appQ (lo:=lo) (news:=[.slice a9 (adx S).length c9]) (by rfl) oD (by intro c Y;change c∈[_] at Y;rw[List.mem_singleton.1 Y];rfl) rfl rfl d rfl (Sx.BK.news (show BK _ c6 35 [.slice a9 (adx S).length c9] from a1)) (by intro q G;rw[List.mem_singleton.1 G];rfl) (by intro q G;rw[List.mem_singleton.1 G];rfl) (by have:=a.lt;omega) oO oD rfl λe3 e0 T s d3=>?_
 have h:=h.azq d s;have e:=e.other d s oD;have b:=b.other d s oD;have a:=d.bk s a oD;have g:=d.frame s g H;have f:=f.step s (λy hy=>.inl (List.mem_cons_of_mem _ (List.mem_append_left _ hy)));have d:=T;obtain ⟨f6,f0,rfl⟩:=d.sl;refine zP rfl (zf rfl ?_);refine WL.bJ rfl rfl o1 a oS rfl λd6 t o=>?_;(try simp only[qt] at t);have g:=g.s1 o;have f:=f.s1 o;have h:=h.q8 a o an;have e:=e.q8 a o an;have d:=d.q8 a o an;have b:=b.q8 a o an;have a:=t;refine zz (a7 (Sr λ_ a6=>zm rfl (zm rfl (zP rfl (zf rfl (zl a rfl rfl (zm rfl ?_)))))));refine WL.buildSlice (m:=1) (cs:=[.string (bA (adx S))]) oD oD rfl oR rfl λc5 d9 i=>?_;have a0:=i.at_;have g:=g.trans (Chg.any i.chg);have f:=f.trans (Chg.any i.chg);have h:=h.q5 i.chg;have e:=e.q5 i.chg;have d:=d.q5 i.chg;have b:=b.q5 i.chg;have a:=a.q5 i.chg;refine WL.appQ (lo:=lo) (news:=[.string (bA (adx S))]) (by rfl) oD (by intro c Y;change c∈[_] at Y;rw[List.mem_singleton.1 Y];rfl) rfl rfl b rfl (Sx.BK.news (show BK _ c5 9 [.string (bA (adx S))] from a0)) (by intro q G;rw[List.mem_singleton.1 G];rfl) (by intro q G;rw[List.mem_singleton.1 G];rfl) (by have:=a.lt;omega) oO oD rfl λe2 d8 R r d2=>?_;have h:=h.azq b r;have e:=e.other b r oD;have d:=d.other b r oD;have a:=b.bk r a oD;have g:=b.frame r g H;have f:=f.step r (λy hy=>.inl (List.mem_cons_of_mem _ (List.mem_append_right _ hy)));have b:=R;obtain ⟨f5,e9,rfl⟩:=b.sl;refine zP rfl (zf rfl ?_);refine WL.bJ rfl rfl o1 a oS rfl λd5 t n=>?_;(try simp only[qt] at t);have g:=g.s1 n;have f:=f.s1 n;have h:=h.q8 a n an;have e:=e.q8 a n an;have d:=d.q8 a n an;have b:=b.q8 a n an;have a:=t;refine zz (a6 (Sr λ_ J=>zm rfl ?_));obtain ⟨f4,e8,c1,-,M,-⟩:=PQ.bwq (h.dat _ (List.mem_append_right _ (List.mem_singleton_self _))).1;cases c1;refine WL.ev (Ev.toStr (l:=adx S) rfl rfl M) rfl ?_;refine zm rfl ?_;refine WL.ev (Ev.eqlStr rfl rfl) rfl ?_;rw[decide_eq_true rfl];refine za rfl (zz (J ?_));refine zr (zr1 rfl rfl ?_);refine ⟨rfl,⟨_,⟨_,_,_,_,a,e,?_,(by rw[List.length_append];exact b),?_⟩,h,B⟩,g,Kp.of Z Q O f⟩
 · simpa using d
 intro b5;rw[b4 b5];simp
theorem BK.cs_eq{w:World}{b:Nat}{T:TypeId}{cs cs2:List Value}(h:BK w b T cs)(e:cs=cs2):BK w b T cs2:=e ▸ h
theorem NU.doj{w w':World}{v:Value}{l:List Nat}{lo d p:Nat}{g:List Nat}{bad:Bool}(h:NU w v l)(hT:RdM lo w d g p bad)(e:Chg [d] w w'):NU w' v l:=by
  obtain ⟨a,c,f,_⟩:=hT
  exact h.q8 f e (by intro v b;simp only[List.mem_cons,List.not_mem_nil,or_false] at b;rcases b with rfl|rfl|rfl<;>rfl)
theorem neq_q{q n:Nat}{a:Bool}(h:a=false):decide ((q:Int)≠(n:Int))=decide (a=true\/q≠n):=by
  subst h
  refine decide_eq_decide.2 ⟨λz=>.inr λy=>z (by rw[y]),λz=>?_⟩
  rcases z with z|z
  · cases z
  · omega
theorem d8j{a:List Nat}{s:SP}{v q:Bool×List Nat×Int×Nat×Bool}(h:q.2.2.2.2=true):decV a s v q=none:=by
  unfold decV d0q
  rw[if_pos]
  left
  cases hx:(rdE (decide (s.na<s.al)) a q.2.2.2.1 q.2.2.2.2).2.2.2 with
  | true=>rfl
  | false=>exact absurd ((blx rfl hx).symm.trans h) oD
theorem decD_none{a:List Nat}{s:SP}{v:Bool×List Nat×Int×Nat×Bool}(h:v.2.2.2.2=true):drj a s v=none:=by
  unfold drj
  exact d8j (by rw[h];exact rdD_bad ..)
theorem dec_parts{a:List Nat}{s:SP}{j f m q lo x:Nat}{l i k v d e:Bool}{b c:List Nat}{r u:Int}(C:B8 a)
    (F:i=(rdD a j l).2.2.2.2) (A:i=false->rdD a j l=(d,b,r,f,false)) (D:k=(rdD a f i).2.2.2.2) (y:k=false->rdD a f i=(e,c,u,m,false)) (hE:rdE (decide (s.na<s.al)) a m k=(lo,x,q,v)) :
    (v=true->drj a s (rdD a j l)=none)/\(v=false->drj a s (rdD a j l)=d0q a s (d,b,r,f,false) (e,c,u,m,false) (lo,x,q,false)/\(wd (val b)=b/\(Dy.mk d (val b) r).ok)/\wd (val c)=c/\(Dy.mk e (val c) u).ok):=by
  by_cases h:i=true
  · have g:k=true:=by rw[D,h];exact rdD_bad ..
    refine ⟨λ_=>decD_none (F.symm.trans h),λz=>?_⟩
    exact absurd ((blx hE z).symm.trans g) oD
  have h:i=false:=by simpa using h
  have t:=A h
  have o:=csx C (p:=j) (bad:=l) (by rw[t])
  rw[t] at o
  by_cases g:k=true
  · refine ⟨λ_=>?_,λz=>absurd ((blx hE z).symm.trans g) oD⟩
    rw[t]
    exact d8j (by rw[<- h];exact D.symm.trans g)
  have g:k=false:=by simpa using g
  have w:=y g
  have n:=csx C (p:=f) (bad:=i) (by rw[w])
  rw[w] at n
  subst h g
  have B:drj a s (rdD a j l)=d0q a s (d,b,r,f,false) (e,c,u,m,false) (lo,x,q,v):=by
    rw[t]
    show decV a s (d,b,r,f,false) (rdD a f false)=_
    rw[w]
    show d0q a s _ _ (rdE (decide (s.na<s.al)) a m false)=_
    rw[hE]
  refine ⟨λz=>?_,λz=>?_⟩
  · rw[B,z];exact if_pos (.inl rfl)
  · subst z;exact ⟨B,o,n⟩
theorem rdK6{a:List Nat}{m l k j i h g f e d c b:Nat}{s r q p o n:Bool}(y:rdC a 0 false=(m,g,s))(x:rdC a g s=(l,f,r))(w:rdC a f r=(k,e,q))(v:rdC a e q=(j,d,p))(u:rdC a d p=(i,c,o))(t:rdC a c o=(h,b,n)):rdK a 6=([m,l,k,j,i,h],b,n):=by
  simp[rdK,y,x,w,v,u,t]
theorem d5j{s:SP}(h:s.le 1099511627776):(Sh.mk s Dy.zero Dy.zero 0 0).fin<(s.mi:Int)+s.pl↔¬cX s:=by
  obtain ⟨f,e,d,c,b,a⟩:=h
  unfold cX Sh.fin
  dsimp only
  omega
theorem someR_spec(b:Nat)(s:SP)(p o n m h g f e:Value)(w:World)(d:BK w b 148 [.int .i64 (s.na:Int),.int .i64 (s.up:Int),.int .i64 (s.dn:Int),.int .i64 (s.mi:Int),.int .i64 (s.pl:Int),.int .i64 (s.al:Int),p,o,n,m,h,g,f,e])(l:s.le 1099511627776):Ret Tryz.prog 89 [.pointer (some ⟨b,0,none⟩)] w λu w'=>u = .bool (decide (s.na<s.al))/\Chg [] w w':=by
 obtain ⟨z,y,x,v,t,r⟩:=l;have a:=crf w;refine zE1 Tryz.func89 rfl ?_;refine Sr λ_ k=>za rfl (zz (k (zc λ_ j=>?_)));refine CW.jQ cJ oR λq i c=>?_;have a:=a.ta c;have d:=d.q5 c;refine ym rfl (yP rfl (yf rfl (yf rfl ?_)));refine WS.ev (Ev.load rfl rfl (d.at_ rfl)) rfl ?_;refine ym rfl (yP rfl (yf rfl (yf rfl ?_)));refine WS.ev (Ev.load rfl rfl (d.at_ rfl)) rfl ?_;refine WS.ev (Ev.gtr rfl rfl) rfl ?_;refine ya rfl ?_;refine WS.nil (i _ _ ?_);refine j ?_;refine zr (zr1 rfl rfl ?_);refine ⟨congrArg Value.bool (decide_eq_decide.2 ?_),a⟩;omega
theorem djx(a:Option Addr)(t:List Nat)(c:Nat)(w:World)(hr:RW w a (t.map u8v))(i0:t.length<=c)(n7 : ∀ ad,a=some ad->t≠[]->ad.block<w.heap.size)(hB:B8 t)(hL:t.length<=140737488355328):Ret Tryz.prog 28 [.slice a t.length c] w λu w'=>((∃ S b,akj t=some S/\u = .tuple [.pointer (some ⟨b,0,none⟩),.int .i64 0].toArray/\ShM 148 w' b S/\w.heap.size<=b/\S.wf/\0<=S.pln)\/(akj t=none/\u = .tuple [.pointer none,.int .i64 210].toArray))/\Chg [] w w':=by
  have f:=crf w;refine zE1 Tryz.func28 rfl ?_;refine Sr λ_ l5=>za rfl (za rfl (zz (l5 ?_)));refine Sq λ_ l4 _ l0=>?_;refine zm rfl ?_;refine WL.ev (Ev.build (vs:=_) (cs:=[_,_,_]) rfl rfl) rfl ?_;refine zBh rfl rfl rfl f λo r3 c2 n0 m4 c9 f=>?_;refine za rfl ?_;refine WL.nil (l0 _ _ _ ?_);have h:RdM (o+1) _ o t 0 false:=⟨a,c,c2,hr.q5 f,Nat.zero_le _,i0,Nat.lt_succ_self _,λad e l9=>by have:=n7 ad e l9;omega⟩;have m0:=c2.lt;refine l4 _ _ _ ?_;refine Sq λ_ l3 _ k5=>?_;refine WL.ev (Ev.build (vs:=_) (cs:=[_,_,_,_,_,_,_,_,_,_,_,_,_,_]) rfl rfl) rfl ?_;refine zBh rfl rfl rfl f λY r2 d c3 m3 c8 f=>?_;have h:=h.q5 c3;refine za rfl ?_;refine WL.nil (k5 _ _ _ ?_);have a4:o+1<=Y:=by omega
  refine l3 _ _ _ ?_;refine Sr λ_ l2=>zm rfl (zm rfl ?_);refine WL.call hasF86 rfl rfl (arj (o+1) o 0 t false _ h hL hB) λv w1 x=>?_;obtain ⟨rfl,h,p⟩:=x;have h5:=cfq t 0 false;generalize hk1:rdC t 0 false=R at *;obtain ⟨n1,p1,d1⟩:=R;dsimp only at h h5;dsimp only;have d:=d.kq p;have f:=f.step p (λy J=>.inr (by rw[List.mem_singleton.1 J];omega));refine zP rfl (zf rfl (zf rfl ?_));refine WL.bJ rfl rfl o1 d oS rfl λr1 g b2=>?_;(try simp only[qt] at g);have f:=f.s1 b2;have h:=h.q8 d b2 an;have d:=g;refine zz (l2 (Sr λ_ l1=>zm rfl (zm rfl ?_)));refine WL.call hasF86 rfl rfl (arj (o+1) o p1 t d1 _ h hL hB) λv w2 x=>?_;obtain ⟨rfl,h,p⟩:=x;have h4:=cfq t p1 d1;generalize hk2:rdC t p1 d1=R at *;obtain ⟨n2,p2,d2⟩:=R;dsimp only at h h4;dsimp only;have d:=d.kq p;have f:=f.step p (λy J=>.inr (by rw[List.mem_singleton.1 J];omega));refine zP rfl (zf rfl (zf rfl ?_));refine WL.bJ rfl rfl o1 d oS rfl λr0 g b1=>?_;(try simp only[qt] at g);have f:=f.s1 b1;have h:=h.q8 d b1 an;have d:=g;refine zz (l1 (Sr λ_ g0=>zm rfl (zm rfl ?_)));refine WL.call hasF86 rfl rfl (arj (o+1) o p2 t d2 _ h hL hB) λv w3 x=>?_;obtain ⟨rfl,h,p⟩:=x;have h0:=cfq t p2 d2;generalize hk3:rdC t p2 d2=R at *;obtain ⟨n3,p3,d3⟩:=R;dsimp only at h h0;dsimp only;have d:=d.kq p;have f:=f.step p (λy J=>.inr (by rw[List.mem_singleton.1 J];omega));refine zP rfl (zf rfl (zf rfl ?_));refine WL.bJ rfl rfl o1 d oS rfl λq7 g b0=>?_;(try simp only[qt] at g);have f:=f.s1 b0;have h:=h.q8 d b0 an;have d:=g;refine zz (g0 (Sr λ_ f9=>zm rfl (zm rfl ?_)));refine WL.call hasF86 rfl rfl (arj (o+1) o p3 t d3 _ h hL hB) λv w4 x=>?_;obtain ⟨rfl,h,p⟩:=x;have g9:=cfq t p3 d3;generalize hk4:rdC t p3 d3=R at *;obtain ⟨n4,p4,d4⟩:=R;dsimp only at h g9;dsimp only;have d:=d.kq p;have f:=f.step p (λy J=>.inr (by rw[List.mem_singleton.1 J];omega));refine zP rfl (zf rfl (zf rfl ?_));refine WL.bJ rfl rfl o1 d oS rfl λq6 g a9=>?_;(try simp only[qt] at g);have f:=f.s1 a9;have h:=h.q8 d a9 an;have d:=g;refine zz (f9 (Sr λ_ f8=>zm rfl (zm rfl ?_)));refine WL.call hasF86 rfl rfl (arj (o+1) o p4 t d4 _ h hL hB) λv w5 x=>?_;obtain ⟨rfl,h,p⟩:=x;have g5:=cfq t p4 d4;generalize hk5:rdC t p4 d4=R at *;obtain ⟨n5,p5,d5⟩:=R
  dsimp only at h g5;dsimp only;have d:=d.kq p;have f:=f.step p (λy J=>.inr (by rw[List.mem_singleton.1 J];omega));refine zP rfl (zf rfl (zf rfl ?_));refine WL.bJ rfl rfl o1 d oS rfl λq4 g a8=>?_;(try simp only[qt] at g);have f:=f.s1 a8;have h:=h.q8 d a8 an;have d:=g;refine zz (f8 ?_);refine Sq λ_ f7 _ e0=>?_;refine zm rfl (zm rfl ?_);refine WL.call hasF86 rfl rfl (arj (o+1) o p5 t d5 _ h hL hB) λv w6 x=>?_;obtain ⟨rfl,h,p⟩:=x;have g4:=cfq t p5 d5;generalize hk6:rdC t p5 d5=R at *;obtain ⟨n6,p6,d6⟩:=R;dsimp only at h g4;dsimp only;have d:=d.kq p;have f:=f.step p (λy J=>.inr (by rw[List.mem_singleton.1 J];omega));refine zP rfl (zf rfl (zf rfl ?_));refine WL.bJ rfl rfl o1 d oS rfl λq3 g a7=>?_;(try simp only[qt] at g);have f:=f.s1 a7;have h:=h.q8 d a7 an;have d:=g;refine WL.nil (e0 _ _ _ ?_);have i2:=rdK6 hk1 hk2 hk3 hk4 hk5 hk6;obtain ⟨s,hs⟩ : ∃ s:SP,s=ahx [n1,n2,n3,n4,n5,n6]:=⟨_,rfl⟩;have I:s.le 1099511627776:=by rw[hs];exact ⟨h5,h4,h0,g9,g5,g4⟩
  have d:=BK.cs_eq (b:=Y) (T:=148) (cs:=[.int .i64 (n1:Int),.int .i64 (n2:Int),.int .i64 (n3:Int),.int .i64 (n4:Int),.int .i64 (n5:Int),.int .i64 (n6:Int),.bool false,.slice none 0 0,.int .i64 0,.bool false,.slice none 0 0,.int .i64 0,.float .f64 0,.float .f64 0]) (cs2:=[.int .i64 (s.na:Int),.int .i64 (s.up:Int),.int .i64 (s.dn:Int),.int .i64 (s.mi:Int),.int .i64 (s.pl:Int),.int .i64 (s.al:Int),.bool false,.slice none 0 0,.int .i64 0,.bool false,.slice none 0 0,.int .i64 0,.float .f64 0,.float .f64 0]) d (by rw[hs];rfl);obtain ⟨v0,u9,u7,u6,u5,u4⟩:=id I;refine f7 _ _ _ ?_;refine Sr λ_ f6=>zm rfl (zP rfl (zf rfl ?_));refine WL.ev (Ev.fQ (cs:=[.int .i64 (s.na:Int),.int .i64 (s.up:Int),.int .i64 (s.dn:Int),.int .i64 (s.mi:Int),.int .i64 (s.pl:Int),.int .i64 (s.al:Int)]) rfl rfl d rfl rfl) rfl ?_;refine WL.call hasF87 rfl rfl (brx s _ ⟨by omega,by omega,by omega,by omega,by omega,by omega⟩) λv w7 x=>?_;obtain ⟨rfl,p⟩:=x;have f:=f.ta p;have d:=d.k0 p;have h:=h.q5 p;refine za rfl (zz (f6 (zc λ_ f5=>?_)));refine CW.oJ 63 (decide (d6=true\/¬cX s)) ?_ ?_
  · obtain ⟨t3,t1,b6,l8,-⟩:=id h;refine zS λ_ c1=>zm rfl (zP rfl (zf rfl ?_));refine WL.ev (Ev.load (v:=.bool d6) rfl rfl (b6.at_ rfl)) rfl ?_;refine zm rfl ?_;refine zb ?_ ?_<;>intro m7<;>try simp only[qs] at m7
    · refine zv rfl (zv rfl (zt rfl rfl (zz (c1 ?_))));refine ⟨rfl,rfl,q9.g7 rfl ?_ ?_⟩
      · first|(simp_all;done)|(refine decide_eq_decide.2 ?_;simp_all;done)|(refine (decide_eq_true ?_).symm;simp_all;done)|(refine (decide_eq_false ?_).symm;simp_all;done)
      exact SMg
    refine zw rfl (zm rfl (zw rfl (zT rfl (ze rfl rfl (zz (c1 ?_))))));refine ⟨rfl,rfl,q9.g7 rfl ?_ ?_⟩
    · first|(simp_all;done)|(refine decide_eq_decide.2 ?_;simp_all;done)|(refine (decide_eq_true ?_).symm;simp_all;done)|(refine (decide_eq_false ?_).symm;simp_all;done)
    exact SMg
  refine zy rfl ?_ ?_<;>intro c7<;>try simp only[qs] at c7
  · have h1:d6=true\/¬cX s:=by simpa using c7
    have hD:akj t=none:=by unfold akj;rw[i2];exact if_pos (by rw[d5j (by rw[<- hs];exact I)];rw[hs] at h1;exact h1)
    refine Sr λ_ f4=>za rfl (za rfl (zz (f4 ?_)));refine zr (zr2 rfl rfl rfl ?_);refine ⟨.inr ⟨hD,rfl⟩,f⟩
  have h1 : ¬(d6=true\/¬cX s):=by simpa using c7
  have h6:cX s:=Classical.byContradiction λz=>h1 (.inr z);have n9:akj t=drj t s (rdD t p6 d6):=by unfold akj;rw[i2];dsimp only;rw[<- hs];exact if_neg (by rw[d5j I];exact h1)
  refine zkk (f5 (Sr λ_ f3=>zm rfl (zm rfl ?_)));refine WL.call hasF88 rfl rfl (dgq (o+1) o p6 t d6 _ h hL hB (Nat.le_trans a4 (Nat.le_of_lt d.lt))) λv w8 x=>?_;obtain ⟨a2,n,j,H,F,d7,rfl,k,s6,h,m9,l7,p⟩:=x;have v4:=k.one;have d:=d.kq p;have f:=f.step p (λy J=>.inr (by rw[List.mem_singleton.1 J];omega));refine zP rfl (zf rfl ?_);refine zss rfl rfl ao d rfl λq0 g Z=>?_;(try simp only[qt] at g);have f:=f.s1 Z;have h:=h.q8 d Z an;have k:=k.q8 d Z an;have d:=g;refine zz (f3 (Sr λ_ f2=>zm rfl (zm rfl ?_)));refine WL.call hasF88 rfl rfl (dgq (o+1) o F t d7 _ h hL hB (Nat.le_trans a4 (Nat.le_of_lt d.lt))) λv w9 x=>?_;obtain ⟨a1,l,i,G,A,d8,rfl,r,s5,b4,m8,l6,p⟩:=x;have k:=k.doj h p;have h:=b4;have v3:=r.one;have d:=d.kq p;have f:=f.step p (λy J=>.inr (by rw[List.mem_singleton.1 J];omega));refine zP rfl (zf rfl ?_);refine zss rfl rfl ao d rfl λp9 g U=>?_;(try simp only[qt] at g);have f:=f.s1 U;have h:=h.q8 d U an;have k:=k.q8 d U an;have r:=r.q8 d U an;have d:=g;refine zz (f2 (Sr λ_ f1=>zm rfl ?_));refine WL.call hasF89 rfl rfl (someR_spec Y s _ _ _ _ _ _ _ _ _ d I) λv u0 x=>?_;obtain ⟨rfl,p⟩:=x;have f:=f.ta p;have d:=d.k0 p;have h:=h.q5 p;have k:=k.q5 p;have r:=r.q5 p;refine za rfl (zz (f1 ?_));refine CW.anx (λD s' w'=>D=[]/\(∃ B C q bd,rdE (decide (s.na<s.al)) t A d8=(B,C,q,bd)/\B<18446744073709551616/\C<18446744073709551616/\RdM (o+1) w' o t q bd/\BK w' Y 148 [.int .i64 (s.na:Int),.int .i64 (s.up:Int),.int .i64 (s.dn:Int),.int .i64 (s.mi:Int),.int .i64 (s.pl:Int),.int .i64 (s.al:Int),.bool n,a2,.int .i64 H,.bool l,a1,.int .i64 G,.float .f64 B,.float .f64 C])/\NU w' a2 j/\NU w' a1 i/\Chg [] w w'/\q9 [(0,.slice a t.length c),(4,.pointer (some ⟨o,0,none⟩)),(5,.pointer (some ⟨Y,0,none⟩)),(7,.bool (decide (s.na<s.al)))] s') ?_ ?_
  · refine Sr λ_ f0=>zm rfl (zz (f0 ?_));refine zy rfl ?_ ?_<;>intro c6<;>try simp only[qs] at c6
    · have a3:s.na<s.al:=by simpa using c6
      refine Sr λ_ e9=>zm rfl (zm rfl ?_);refine WL.call hasF91 rfl rfl (bbx (o+1) o _ t _ 8 _ h hL hB oD) λv t9 x=>?_;obtain ⟨rfl,b4,p⟩:=x;have k:=k.doj h p;have r:=r.doj h p;have h:=b4;have h8:=crj hB A d8 8 oD;generalize hR1:rdN t A d8 8=R1 at *;obtain ⟨m1,q1,x1⟩:=R1;dsimp only at h8;dsimp only at h;dsimp only;have d:=d.kq p;have f:=f.step p (λy J=>.inr (by rw[List.mem_singleton.1 J];omega));refine WL.call hasF90 rfl rfl (atq _ _) λv w12 x=>?_;obtain ⟨rfl,rfl⟩:=x;rw[Int.toNat_natCast];refine zP rfl (zf rfl ?_);refine WL.bJ rfl rfl o1 d oS rfl λo9 g O=>?_;(try simp only[qt] at g);have f:=f.s1 O;have h:=h.q8 d O an;have k:=k.q8 d O an;have r:=r.q8 d O an;have d:=g;refine zz (e9 (zS λ_ d9=>zm rfl (zm rfl ?_)));refine WL.call hasF91 rfl rfl (bbx (o+1) o _ t _ 8 _ h hL hB oD) λv t8 x=>?_;obtain ⟨rfl,b4,p⟩:=x;have k:=k.doj h p;have r:=r.doj h p;have h:=b4;have h7:=crj hB q1 x1 8 oD;generalize hR2:rdN t q1 x1 8=R2 at *;obtain ⟨m2,q2,x2⟩:=R2;dsimp only at h7;dsimp only at h;dsimp only;have d:=d.kq p;have f:=f.step p (λy J=>.inr (by rw[List.mem_singleton.1 J];omega));refine WL.call hasF90 rfl rfl (atq _ _) λv t7 x=>?_;obtain ⟨rfl,rfl⟩:=x;rw[Int.toNat_natCast];refine zP rfl (zf rfl ?_);refine WL.bJ rfl rfl o1 d oS rfl λo8 g M=>?_;(try simp only[qt] at g);have f:=f.s1 M;have h:=h.q8 d M an;have k:=k.q8 d M an;have r:=r.q8 d M an;have d:=g;refine zz (d9 ?_);refine ⟨rfl,⟨m1,m2,q2,x2,?_,h8,h7,h,?_⟩,k,r,f,by (repeat (first|exact q9.nil|refine q9.cons rfl ?_))⟩
      · unfold rdE;rw[if_pos (decide_eq_true a3),hR1];dsimp only;rw[hR2]
      exact d
    have a3 : ¬s.na<s.al:=by simpa using c6
    refine zkk ?_;refine ⟨rfl,⟨0,0,A,d8,?_,by decide,by decide,h,d⟩,k,r,f,by (repeat (first|exact q9.nil|refine q9.cons rfl ?_))⟩;unfold rdE;rw[if_neg (by simpa using a3)]
  rintro _ s' wJ ⟨rfl,⟨B,C,q,bd,hE,a5,a6,h,d⟩,k,r,f,g1⟩;refine CW.sub g1 ?_;have i6:=d.lt;obtain ⟨hX,hY⟩:=dec_parts hB m9 l7 m8 l6 hE;rw[<- n9] at hX hY;have s7:=h.le;refine zc λ_ e8=>?_;refine CW.oJ 101 (decide (bd=true\/q≠t.length)) ?_ ?_
  · obtain ⟨t2,t0,b6,l8,-⟩:=id h;refine zS λ_ c0=>zm rfl (zP rfl (zf rfl ?_));refine WL.ev (Ev.load (v:=.bool bd) rfl rfl (b6.at_ rfl)) rfl ?_;refine zm rfl ?_;refine zb ?_ ?_<;>intro m6<;>try simp only[qs] at m6
    · refine zv rfl (zv rfl (zv rfl (zv rfl (zv rfl (zv rfl (zv rfl (zt rfl rfl (zz (c0 ?_)))))))));refine ⟨rfl,rfl,q9.g7 rfl ?_ ?_⟩
      · first|(simp_all;done)|exact neq_q oA
      exact SMg
    refine zw rfl (zm rfl (zw rfl (zP rfl (zw rfl (zf rfl (zw rfl ?_))))));refine WL.ev (Ev.load (v:=.int .i64 (q:Int)) rfl rfl (b6.at_ rfl)) rfl ?_;refine zw rfl (zm rfl (zw rfl (zn rfl (zw rfl (zN rfl rfl (ze rfl rfl (zz (c0 ?_))))))));refine ⟨rfl,rfl,q9.g7 rfl ?_ ?_⟩
    · first|(simp_all;done)|exact neq_q oA
    exact SMg
  refine zy rfl ?_ ?_<;>intro c5<;>try simp only[qs] at c5
  · have h2:bd=true\/q≠t.length:=by simpa using c5
    have hD:akj t=none:=by
      cases b3:bd with
      | true=>exact hX b3
      | false=>
        rw[(hY b3).1];exact if_pos (.inr (.inl (by dsimp only;have:=h2.resolve_left (λy=>absurd (b3.symm.trans y) oD);omega)))
    refine Sr λ_ e7=>za rfl (za rfl (zz (e7 ?_)));refine zr (zr2 rfl rfl rfl ?_);refine ⟨.inr ⟨hD,rfl⟩,f⟩
  have h2 : ¬(bd=true\/q≠t.length):=by simpa using c5
  have b3:bd=false:=Bool.eq_false_iff.2 λz=>h2 (.inl z);have v2:q=t.length:=Classical.byContradiction λz=>h2 (.inr z);obtain ⟨hZ,hV,hQ⟩:=hY b3;have g3:0<=(mZ s (n,j,H,F,false) (l,i,G,A,false) B C).pln:=by show (0:Int)<=(s.al:Int)-s.na-s.up-s.dn-s.mi-s.pl;have:=h6.1;omega
  refine zkk (e8 (Sr λ_ e6=>zm rfl ?_));refine WL.call hasF92 rfl rfl (r21sums_spec Y (mZ s (n,j,H,F,false) (l,i,G,A,false) B C) _ ⟨a2,a1,d,(by rw[show (mZ s (n,j,H,F,false) (l,i,G,A,false) B C).V.m=val j from rfl,hV.1];exact k),(by rw[show (mZ s (n,j,H,F,false) (l,i,G,A,false) B C).Q.m=val i from rfl,hQ.1];exact r)⟩ I hV.2 hQ.2 g3) λv t6 x=>?_;obtain ⟨rfl,p⟩:=x;have f:=f.ta p;have d:=d.k0 p;have k:=k.q5 p;have r:=r.q5 p;refine za rfl (zz (e6 ?_));refine CW.axj 9 (decide (¬s.na<s.al\/vQ (mZ s (n,j,H,F,false) (l,i,G,A,false) B C))) ?_ ?_
  · intro X;refine zS λ_ b9=>zm rfl (zT rfl (zm rfl ?_));refine zb ?_ ?_<;>intro h9<;>try simp only[qs] at h9
    · refine zv rfl (zv rfl (zt rfl rfl (za rfl (zz (b9 ?_)))));refine ⟨rfl,X,q9.g7 rfl ?_ ?_⟩
      · first|(simp_all;done)|(refine decide_eq_decide.2 ?_;simp_all;done)|(refine (decide_eq_true ?_).symm;simp_all;done)|(refine (decide_eq_false ?_).symm;simp_all;done)
      exact SMg
    have a3:s.na<s.al:=by simpa using h9
    refine zw rfl (zm rfl (zw rfl ?_));refine WL.call hasF93 rfl rfl (r21ends_spec Y (mZ s (n,j,H,F,false) (l,i,G,A,false) B C) _ ⟨a2,a1,d,(by rw[show (mZ s (n,j,H,F,false) (l,i,G,A,false) B C).V.m=val j from rfl,hV.1];exact k),(by rw[show (mZ s (n,j,H,F,false) (l,i,G,A,false) B C).Q.m=val i from rfl,hQ.1];exact r)⟩ I a5 a6 h6 a3) λv t5 x=>?_;obtain ⟨rfl,p⟩:=x;have X:=X.ta p;refine ze rfl rfl (za rfl (zz (b9 ?_)));refine ⟨rfl,X,q9.g7 rfl ?_ ?_⟩
    · first|(simp_all;done)|(refine decide_eq_decide.2 ?_;simp_all;done)|(refine (decide_eq_true ?_).symm;simp_all;done)|(refine (decide_eq_false ?_).symm;simp_all;done)
    exact SMg
  intro wM X;have f:=f.ta X;have d:=d.k0 X;have k:=k.q5 X;have r:=r.q5 X;refine zc λ_ e5=>?_;refine CW.oJ 115 (decide (¬rJ (mZ s (n,j,H,F,false) (l,i,G,A,false) B C)\/¬(¬s.na<s.al\/vQ (mZ s (n,j,H,F,false) (l,i,G,A,false) B C)))) ?_ ?_
  · refine zS λ_ b8=>zm rfl (zT rfl (zm rfl ?_));refine zb ?_ ?_<;>intro m5<;>try simp only[qs] at m5
    · refine zv rfl (zv rfl (zt rfl rfl (zz (b8 ?_))));refine ⟨rfl,rfl,q9.g7 rfl ?_ ?_⟩
      · first|(simp_all;done)|(by_cases hsx:rJ (mZ s (n,j,H,F,false) (l,i,G,A,false) B C)<;>by_cases hex:(¬s.na<s.al\/vQ (mZ s (n,j,H,F,false) (l,i,G,A,false) B C))<;>simp[hsx,hex]<;>simp_all;done)|(by_cases hsx:rJ (mZ s (n,j,H,F,false) (l,i,G,A,false) B C)<;>by_cases hex:(¬s.na<s.al\/vQ (mZ s (n,j,H,F,false) (l,i,G,A,false) B C))<;>simp_all)
      exact SMg
    refine zw rfl (zm rfl (zw rfl (zT rfl (ze rfl rfl (zz (b8 ?_))))));refine ⟨rfl,rfl,q9.g7 rfl ?_ ?_⟩
    · first|(simp_all;done)|(by_cases hsx:rJ (mZ s (n,j,H,F,false) (l,i,G,A,false) B C)<;>by_cases hex:(¬s.na<s.al\/vQ (mZ s (n,j,H,F,false) (l,i,G,A,false) B C))<;>simp[hsx,hex]<;>simp_all;done)|(by_cases hsx:rJ (mZ s (n,j,H,F,false) (l,i,G,A,false) B C)<;>by_cases hex:(¬s.na<s.al\/vQ (mZ s (n,j,H,F,false) (l,i,G,A,false) B C))<;>simp_all)
    exact SMg
  refine zy rfl (λc4=>?_) λc4=>?_
  · skip;have h3 : ¬rJ (mZ s (n,j,H,F,false) (l,i,G,A,false) B C)\/¬(¬s.na<s.al\/vQ (mZ s (n,j,H,F,false) (l,i,G,A,false) B C)):=of_decide_eq_true c4;have hD:akj t=none:=by
      rw[hZ];refine if_pos ?_;rcases h3 with z|z
      · exact .inr (.inr (.inl z))
      exact .inr (.inr (.inr ⟨Classical.byContradiction λy=>z (.inl y),λy=>z (.inr y)⟩))
    refine Sr λ_ e4=>za rfl (za rfl (zz (e4 ?_)));refine zr (zr2 rfl rfl rfl ?_);refine ⟨.inr ⟨hD,rfl⟩,f⟩
  skip;have h3 : ¬(¬rJ (mZ s (n,j,H,F,false) (l,i,G,A,false) B C)\/¬(¬s.na<s.al\/vQ (mZ s (n,j,H,F,false) (l,i,G,A,false) B C))):=of_decide_eq_false c4;refine zkk (e5 (Sr λ_ e3=>zm rfl (za rfl (za rfl (zz (e3 ?_))))));refine zr (zr2 rfl rfl rfl ?_);refine ⟨.inl ⟨(mZ s (n,j,H,F,false) (l,i,G,A,false) B C),Y,?_,rfl,⟨a2,a1,d,(by rw[show (mZ s (n,j,H,F,false) (l,i,G,A,false) B C).V.m=val j from rfl,hV.1];exact k),(by rw[show (mZ s (n,j,H,F,false) (l,i,G,A,false) B C).Q.m=val i from rfl,hQ.1];exact r)⟩,by omega,⟨I,hV.2,hQ.2,a5,a6⟩,?_⟩,f⟩
  · rw[hZ];exact if_neg (λz=>h3 (by
      rcases z with z|z|z|z
      · cases z
      · dsimp only at z;omega
      · exact .inl z
      exact .inr (λy=>y.elim (λy=>y z.1) (λy=>z.2 y))))
  exact g3
def atP(n:Int)(m:Nat):Nat:=(if n<0 then -(n+1) else n).toNat%m
theorem atP_lt(n:Int){m:Nat}(h:0<m):atP n m<m:=Nat.mod_lt _ h
theorem Kp.refl(w:World):Kp w w:=λb T l h _ _ _=>h
theorem Kp.trans{w w' a:World}(h:Kp w w')(g:Kp w' a):Kp w a:=λb T l hb h1 h2 h3=>g b T l (h b T l hb h1 h2 h3) h1 h2 h3
theorem Kp.q5{w w' a:World}(h:Kp w w')(c:Chg [] w' a):Kp w a:=λb T l hb h1 h2 h3=>(h b T l hb h1 h2 h3).q5 c
theorem at_spec(lo o:Nat)(L:List PS)(C:List (Value×List Nat))(q:Prop)(n:Int)(w:World)(x:PlM lo w o L C q)(G : -9223372036854775808<=n/\n<=9223372036854775807)(H:0<L.length)(y:L.length<=1000):Ret Tryz.prog 29 [.pointer (some ⟨o,0,none⟩),.int .i64 n] w λu w'=>u = .int .i64 (atP n L.length:Nat)/\Chg [] w w':=by
 obtain ⟨⟨B,D,A,z,e,k,t,s,r⟩,F,l⟩:=id x;obtain ⟨p,m,rfl⟩:=k.sl;have d:=crf w;refine zE2 Tryz.func29 rfl ?_;refine Sr λ_ j=>za rfl (zz (j (zc λ_ c=>Sr λ_ i=>zm rfl (zL rfl rfl (zz (i ?_))))));refine zy rfl ?_ ?_<;>intro b<;>try simp only[qs] at b
 ·have a:n<0:=b
  refine zR λ_ f=>?_;refine zm rfl ?_;refine WL.ev (Ev.jZ rfl rfl oO) rfl ?_;refine WL.ev (Ev.bnq rfl oO) rfl ?_;refine za rfl ?_;refine WL.nil (f _ _ _ (c ?_));refine Sr λ_ h=>zm rfl (zm rfl (zP rfl (zf rfl ?_)));refine WL.ev (Ev.load (v:=.slice p L.length m) rfl rfl (e.at_ rfl)) rfl ?_;refine zn rfl ?_;refine WL.ev (Ev.dfq rfl rfl oO oO) rfl ?_;refine za rfl (zz (h ?_));refine zr (zr1 rfl rfl ?_);refine ⟨?_,d⟩;unfold atP;rw[if_pos a,Int.natCast_emod,Int.toNat_of_nonneg oO]
 have a : ¬n<0:=by have:=b;omega
 refine zkk (c (Sr λ_ g=>zm rfl (zm rfl (zP rfl (zf rfl ?_)))));refine WL.ev (Ev.load (v:=.slice p L.length m) rfl rfl (e.at_ rfl)) rfl ?_;refine zn rfl ?_;refine WL.ev (Ev.dfq rfl rfl oO oO) rfl ?_;refine za rfl (zz (g ?_));refine zr (zr1 rfl rfl ?_);refine ⟨?_,d⟩;unfold atP;rw[if_neg a,Int.natCast_emod,Int.toNat_of_nonneg oO]
theorem chx(lo bp:Nat)(L:List PS)(C:List (Value×List Nat))(st:Prop)(t x:Nat)(S:Sh)(ok oo ow y z a4 n o:Int)(ox:Nat)(D F:Value)(B w:World)(q:GW B)(i:PlM lo w bp L C st)(hi:(t,x,S)∈L)(c:Chg [] B w)(b0:B.heap.size<=lo)(c2:C.length<=100000)(c4:D.oneCell'=true)(c5:F.oneCell'=true):Ret Tryz.prog 9 [.pointer (some ⟨bp,0,none⟩),.agg [.pointer (some ⟨t,0,none⟩),.pointer (some ⟨x,0,none⟩)].toArray,.agg [.int .i64 ok,.int .i64 oo,.int .i64 ow,.float .f64 ox,D,.int .i64 y,.int .i64 z,.int .i64 a4,.int .i64 n,.int .i64 o,F].toArray] w λu w'=>u = .bool true/\(∃ v,PlM lo w' bp L (C++[(v,adx S)]) st)/\Chg [] B w'/\Kp w w':=by
 obtain ⟨g,e,m,e0,-⟩:=i.s.sh _ hi;have f:=Kp.refl w;refine zE3 Tryz.func9 rfl ?_;refine Sr λ_ a9=>?_;refine zBh rfl rfl rfl c λb4 c8 b l c6 Y c=>?_;have i:=i.q5 l;have g:=g.q5 l;have e:=e.q5 l;have f:=f.q5 l;refine zBh rfl rfl rfl c λb5 c7 d k Z X c=>?_;have i:=i.q5 k;have g:=g.q5 k;have e:=e.q5 k;have f:=f.q5 k;have a1:=zdd b.lt Z;have b:=b.k0 k;refine za rfl (zz (a9 (Sr λ_ a8=>zf rfl (zl b rfl rfl (zf rfl (zl d rfl rfl (zf rfl ?_)))))));refine WL.ev (Ev.fQ (cs:=[.int .i64 n,.int .i64 o]) rfl rfl d rfl rfl) rfl ?_;refine WL.call hasF23 rfl rfl (dbj t S y n o _ g m.wf (q.q5 c)) λv w1 j=>?_;obtain ⟨⟨xa,ea,rfl,b7⟩,a⟩:=j;have c:=c.ta a;have b:=b.k0 a;have d:=d.k0 a;have i:=i.q5 a;have g:=g.q5 a;have e:=e.q5 a;have f:=f.q5 a;refine zm rfl (zx rfl rfl (zx rfl rfl (za rfl (za rfl (zz (a8 (Sr λ_ a7=>zf rfl (zl b rfl rfl (zf rfl (zl d rfl rfl (zf rfl ?_)))))))))));refine WL.ev (Ev.fQ (cs:=[.int .i64 n,.int .i64 o]) rfl rfl d rfl rfl) rfl ?_;refine WL.call hasF33 rfl rfl (shMean_spec t S y n o _ g m.wf (q.q5 c) m.p0.2.2.1) λv w2 j=>?_;obtain ⟨⟨xb,eb,rfl,b6⟩,a⟩:=j;have c:=c.ta a;have b:=b.k0 a;have d:=d.k0 a;have i:=i.q5 a;have g:=g.q5 a;have e:=e.q5 a;have f:=f.q5 a;refine zm rfl (zx rfl rfl (zx rfl rfl (za rfl (za rfl (zz (a7 (Sr λ_ a6=>zf rfl (zl b rfl rfl (zf rfl (zl d rfl rfl (zf rfl (zl d rfl rfl (zf rfl ?_)))))))))))));refine WL.ev (Ev.fQ (cs:=[.int .i64 n,.int .i64 o]) rfl rfl d rfl rfl) rfl ?_;refine WL.call hasF24 rfl rfl (dbq t S z y n o _ g m.wf (q.q5 c)) λv w3 j=>?_;obtain ⟨⟨xc,ec,rfl,b3⟩,a⟩:=j;have c:=c.ta a;have b:=b.k0 a;have d:=d.k0 a;have i:=i.q5 a;have g:=g.q5 a;have e:=e.q5 a;have f:=f.q5 a;refine zm rfl (zx rfl rfl (zx rfl rfl (za rfl (za rfl (zz (a6 (Sr λ_ a5=>zf rfl (zl b rfl rfl ?_))))))));refine WL.call hasF34 rfl rfl (Least_spec t S _ g m.wf (q.q5 c)) λv w4 j=>?_;obtain ⟨rfl,a⟩:=j;have c:=c.ta a;have b:=b.k0 a;have d:=d.k0 a;have i:=i.q5 a;have g:=g.q5 a;have e:=e.q5 a;have f:=f.q5 a;refine zm rfl (zx rfl rfl (zx rfl rfl (za rfl (za rfl (zz (a5 (Sr λ_ V=>zf rfl (zl b rfl rfl ?_))))))));refine WL.call hasF35 rfl rfl (Most_spec t S _ g m.wf (q.q5 c)) λv w5 j=>?_;obtain ⟨rfl,a⟩:=j;have c:=c.ta a;have b:=b.k0 a;have d:=d.k0 a;have i:=i.q5 a;have g:=g.q5 a;have e:=e.q5 a;have f:=f.q5 a;refine zm rfl (zx rfl rfl (zx rfl rfl (za rfl (za rfl (zz (V (Sr λ_ U=>zf rfl (zl b rfl rfl (zf rfl (zl d rfl rfl (zf rfl ?_)))))))))));refine WL.ev (Ev.fQ (cs:=[.int .i64 n,.int .i64 o]) rfl rfl d rfl rfl) rfl ?_;refine WL.call hasF36 rfl rfl (r21Sum_spec x S y n o _ e m.wf) λv w6 j=>?_;obtain ⟨⟨ya,fa,rfl,c0⟩,a⟩:=j;obtain ⟨rfl,rfl⟩:=cjj rfl rfl b7 c0;have c:=c.ta a;have b:=b.k0 a;have d:=d.k0 a;have i:=i.q5 a;have g:=g.q5 a;have e:=e.q5 a;have f:=f.q5 a;refine zm rfl (zx rfl rfl (zx rfl rfl (za rfl (za rfl (zz (U (Sr λ_ T=>zf rfl (zl b rfl rfl (zf rfl (zl d rfl rfl (zf rfl ?_)))))))))));refine WL.ev (Ev.fQ (cs:=[.int .i64 n,.int .i64 o]) rfl rfl d rfl rfl) rfl ?_;refine WL.call hasF37 rfl rfl (r21Mean_spec x S y n o _ e m.wf) λv w7 j=>?_;obtain ⟨⟨yb,fb,rfl,b9⟩,a⟩:=j;obtain ⟨rfl,rfl⟩:=dzj b6 b9;have c:=c.ta a;have b:=b.k0 a;have d:=d.k0 a;have i:=i.q5 a;have g:=g.q5 a;have e:=e.q5 a;have f:=f.q5 a;refine zm rfl (zx rfl rfl (zx rfl rfl (za rfl (za rfl (zz (T (Sr λ_ R=>zf rfl (zl b rfl rfl (zf rfl (zl d rfl rfl (zf rfl (zl d rfl rfl (zf rfl ?_)))))))))))));refine WL.ev (Ev.fQ (cs:=[.int .i64 n,.int .i64 o]) rfl rfl d rfl rfl) rfl ?_;refine WL.call hasF38 rfl rfl (r21Var_spec x S z y n o _ e m.wf) λv w8 j=>?_;obtain ⟨⟨yc,fc,rfl,b8⟩,a⟩:=j;obtain ⟨rfl,rfl⟩:=m.var b3 b8;have c:=c.ta a;have b:=b.k0 a;have d:=d.k0 a;have i:=i.q5 a;have g:=g.q5 a;have e:=e.q5 a;have f:=f.q5 a;refine zm rfl (zx rfl rfl (zx rfl rfl (za rfl (za rfl (zz (R (Sr λ_ Q=>zf rfl (zl b rfl rfl ?_))))))));refine WL.call hasF39 rfl rfl (First_spec x S _ e m.wf) λv w9 j=>?_;obtain ⟨rfl,a⟩:=j;have c:=c.ta a;have b:=b.k0 a;have d:=d.k0 a;have i:=i.q5 a;have g:=g.q5 a;have e:=e.q5 a;have f:=f.q5 a;refine zm rfl (zx rfl rfl (zx rfl rfl (za rfl (za rfl (zz (Q (Sr λ_ O=>zf rfl (zl b rfl rfl ?_))))))));refine WL.call hasF40 rfl rfl (Last_spec x S _ e m.wf) λv d6 j=>?_;obtain ⟨rfl,a⟩:=j;have c:=c.ta a;have b:=b.k0 a;have d:=d.k0 a;have i:=i.q5 a;have g:=g.q5 a;have e:=e.q5 a
 have f:=f.q5 a;refine zm rfl (zx rfl rfl (zx rfl rfl (za rfl (za rfl (zz (O (Sr λ_ M=>zm rfl (zm rfl ?_))))))));refine WL.call hasF41 rfl rfl (kX _ _ _) λv d5 j=>?_;obtain ⟨rfl,rfl⟩:=j;rw[decide_eq_true rfl];refine zm rfl (zw rfl (zm rfl (zw rfl (zm rfl (zw rfl ?_)))));refine WL.call hasF41 rfl rfl (kX _ _ _) λv w12 j=>?_;obtain ⟨rfl,rfl⟩:=j;rw[decide_eq_true rfl];refine zt rfl rfl (zm rfl (zw rfl (zm rfl (zw rfl (zm rfl (zw rfl ?_))))));refine WL.call hasF41 rfl rfl (kX _ _ _) λv d4 j=>?_;obtain ⟨rfl,rfl⟩:=j;rw[decide_eq_true rfl];refine zt rfl rfl (za rfl (zz (M (Sr λ_ J=>zm rfl (zm rfl ?_)))));refine WL.call hasF41 rfl rfl (kX _ _ _) λv d3 j=>?_;obtain ⟨rfl,rfl⟩:=j;rw[decide_eq_true rfl];refine zm rfl (zw rfl (zm rfl (zw rfl (zm rfl (zw rfl ?_)))));refine WL.call hasF41 rfl rfl (kX _ _ _) λv d2 j=>?_;obtain ⟨rfl,rfl⟩:=j;rw[decide_eq_true rfl];refine zt rfl rfl (za rfl (zz (J (Sr λ_ I=>zm rfl (zg b rfl ?_)))));refine WL.call hasF42 rfl rfl (bytes_spec lo bp L C st t x S B _ i hi c b0 c2) λv d1 j=>?_;obtain ⟨rfl,⟨vv,c1⟩,a0,hk⟩:=j;have f:=f.trans hk;have b:=hk _ _ _ b oD oD oD;have d:=hk _ _ _ d oD oD oD;have c:=a0;have i:=c1;obtain ⟨g,e,-⟩:=i.s.sh _ hi;refine za rfl (zz (I (zc λ_ H=>?_)));refine CW.bZ 42 rfl cJ λc3 G h p=>?_;have c:=c.ta p;have b:=b.k0 p;have i:=i.q5 p;have g:=g.q5 p;have e:=e.q5 p;have f:=f.q5 p;have r:=b;refine wh 0 rfl h (eM rfl) (wh 1 rfl h (eM rfl) (wg 2 rfl rfl rfl rfl rfl h (eM rfl) (wh 3 rfl h (λ_ _=>Ev.aex rfl rfl rfl) (wh 4 rfl h (eM rfl) (wg 5 rfl rfl rfl rfl rfl h (eM rfl) (wh 6 rfl h (λ_ _=>Ev.aex rfl rfl rfl) (wh 7 rfl h (eM rfl) (wg 8 rfl rfl rfl rfl rfl h (eM rfl) (wg 9 rfl rfl rfl rfl rfl h (eM rfl) (wg 10 rfl rfl rfl rfl rfl h (λ_ _=>Ev.eql rfl rfl) ?_))))))))));rw[decide_eq_true (rfl)];refine wh 11 rfl h (λ_ _=>Ev.aex rfl rfl rfl) (wh 12 rfl h (eM rfl) (wg 13 rfl rfl rfl rfl rfl h (eM rfl) (wg 14 rfl rfl rfl rfl rfl h (eM rfl) (wg 15 rfl rfl rfl rfl rfl h (λ_ _=>Ev.eql rfl rfl) ?_))));rw[decide_eq_true (rfl)];refine wh 16 rfl h (λ_ _=>Ev.aex rfl rfl rfl) (wh 17 rfl h (eM rfl) (wg 18 rfl rfl rfl rfl rfl h (eM rfl) (wg 19 rfl rfl rfl rfl rfl h (eM rfl) (wg 20 rfl rfl rfl rfl rfl h (λ_ _=>Ev.eql rfl rfl) ?_))))
 rw[decide_eq_true (rfl)];refine wh 21 rfl h (λ_ _=>Ev.aex rfl rfl rfl) (wh 22 rfl h (eM rfl) (wg 23 rfl rfl rfl rfl rfl h (eM rfl) (wg 24 rfl rfl rfl rfl rfl h (eM rfl) (wg 25 rfl rfl rfl rfl rfl h (λ_ _=>Ev.eql rfl rfl) ?_))));rw[decide_eq_true (rfl)];refine wh 26 rfl h (λ_ _=>Ev.aex rfl rfl rfl) (wh 27 rfl h (eM rfl) (wg 28 rfl rfl rfl rfl rfl h (eM rfl) (wg 29 rfl rfl rfl rfl rfl h (eM rfl) (wg 30 rfl rfl rfl rfl rfl h (λ_ _=>Ev.eql rfl rfl) ?_))));rw[decide_eq_true (rfl)];refine wh 31 rfl h (λ_ _=>Ev.aex rfl rfl rfl) (wh 32 rfl h (eM rfl) (wg 33 rfl rfl rfl rfl rfl h (eF rfl) (wg 34 rfl rfl rfl rfl rfl h (λ_ A=>Ev.load rfl rfl ((r.q5 A).at_ rfl)) (wg 36 rfl rfl rfl rfl rfl h (eF rfl) (wg 37 rfl rfl rfl rfl rfl h (λ_ A=>Ev.load rfl rfl ((r.q5 A).at_ rfl)) ?_)))));refine WH.rX 35 rfl oR rfl rfl rfl rfl hasF43 rfl rfl (Count_spec_ t S _ g m.wf.s) λv d0 j=>?_;obtain ⟨rfl,a⟩:=j;have c:=c.ta a;have i:=i.q5 a;have e:=e.q5 a;have f:=f.q5 a;have h:=h.trans a;refine ⟨h,?_⟩;refine WH.rX 38 rfl oR rfl rfl rfl rfl hasF44 rfl rfl (dzx x S _ e m.wf.s) λv c9 j=>?_;obtain ⟨rfl,a⟩:=j;have c:=c.ta a;have i:=i.q5 a;have f:=f.q5 a;have h:=h.trans a;refine ⟨h,?_⟩;refine wg 39 rfl rfl rfl rfl rfl h (λ_ _=>Ev.eql rfl rfl) ?_;rw[decide_eq_true (rfl)];refine wh 40 rfl h (λ_ _=>Ev.aex rfl rfl rfl) (wh 41 rfl h (eA rfl) ?_);refine WH.done oR (G _ _ _ ?_);refine H ?_;refine zr (zr1 rfl rfl ?_);exact ⟨rfl,⟨_,i⟩,c,f⟩
section
variable {w w':World} {e:TypeId} {es lo m:Nat} {v:Value} {cs:List Value}
theorem PQ.nX{T:TypeId}{b:Nat}{S:Sh}(h:PQ w e es lo v m cs)(d:ShM T w b S)(c:Chg [b] w w')(a:e≠T:=by decide):PQ w' e es lo v m cs:=h.gZ c λx hx=>by
  obtain ⟨rv,rq,hb,_⟩:=d
  rw[List.mem_singleton.1 hx];exact h.dlj hb a
end
theorem Sx.BK.nX{w w':World}{T T':TypeId}{b c:Nat}{l:List Value}{S:Sh}(h:BK w c T' l)(f:ShM T w b S)(d:Chg [b] w w')(a:T'≠T:=by decide):BK w' c T' l:=by
  obtain ⟨g,i,e,_⟩:=f
  exact h.gZ d (by rw[List.mem_singleton];exact BK.neT h e a)
theorem ShM.neT{w:World}{T T':TypeId}{b c:Nat}{S U:Sh}(h:ShM T w b S)(e:ShM T' w c U)(a:T≠T'):b≠c:=by
  obtain ⟨j,k,f,_⟩:=h
  obtain ⟨g,i,d,_⟩:=e
  exact BK.neT f d a
structure PlH(lo:Nat)(w:World)(bp:Nat)(L:List PS)(C:List (Value×List Nat))(st:Prop)(n:Nat):Prop where
  ex : ∃ vl vc vw ws,BK w bp 29 [vl,vc,vw]/\PQ w 42 2 lo vl L.length (bej L)/\PQ w 35 1 lo vc C.length (C.map λx=>x.1)/\PQ w 9 1 lo vw C.length ws/\(st->ws=C.map λx=>.string (bA x.2))
  sh : ∀ i g,L[i]?=some g->i≠n->ShM 91 w g.1 g.2.2/\ShM 148 w g.2.1 g.2.2/\Gn g.2.2/\g.2.2.noE
  lb : ∀ g∈L,lo<=g.1/\lo<=g.2.1
  nb:L.Pairwise λa b=>a.1≠b.1/\a.2.1≠b.2.1
  dat : ∀ x∈C,PQ w 5 1 lo x.1 x.2.length (x.2.map u8v)/\B8 x.2/\x.2.length<=100000
  nd:C.Pairwise λx y=>∀ b,x.1.ownBlock=some b->y.1.ownBlock≠some b
  lob:lo<=bp
theorem PlM.hole{lo b:Nat}{w:World}{L:List PS}{C:List (Value×List Nat)}{a:Prop}(h:PlM lo w b L C a)(n:Nat):PlH lo w b L C a n:=
  ⟨h.ex,λi g hg _=>by obtain ⟨h1,h2,h3,h4,_⟩:=h.s.sh g (List.mem_of_getElem? hg);exact ⟨h1,h2,h3,h4⟩,λg hg=>by obtain ⟨_,_,_,_,h5,h6⟩:=h.s.sh g hg;exact ⟨h5,h6⟩,h.s.nb,h.s.dat,h.s.nd,h.lob⟩
theorem pw_ne{L:List PS}{i n:Nat}{g a:PS}(h:L.Pairwise λa b=>a.1≠b.1/\a.2.1≠b.2.1)(k:L[n]?=some g)(l:L[i]?=some a)(j:i≠n):a.1≠g.1/\a.2.1≠g.2.1:=by
  obtain ⟨d,rfl⟩:=List.getElem?_eq_some_iff.1 k
  obtain ⟨f,rfl⟩:=List.getElem?_eq_some_iff.1 l
  have c:=List.pairwise_iff_getElem.1 h
  rcases Nat.lt_or_gt_of_ne j with q|q
  · exact c i n f d q
  · have:=c n i d f q
    exact ⟨λe=>this.1 e.symm,λe=>this.2 e.symm⟩
theorem PlH.keepP{lo p n:Nat}{w w':World}{L:List PS}{C:List (Value×List Nat)}{k:Prop}{g:PS}{U:Sh}(h:PlH lo w p L C k n)(v:L[n]?=some g)(b:ShM 91 w g.1 U)(c:Chg [g.1] w w'):PlH lo w' p L C k n:=by
  obtain ⟨⟨s,t,r,q,F,D,B,A,u⟩,f,z,o,m,y,j⟩:=h
  exact ⟨⟨s,t,r,q,F.nX b c,D.nX b c,B.nX b c,A.nX b c,u⟩,λi a e d=>⟨(f i a e d).1.other b c (pw_ne o v e d).1,(f i a e d).2.1.other b c ((f i a e d).2.1.neT b oD),(f i a e d).2.2⟩,z,o,λx l=>⟨(m x l).1.nX b c,(m x l).2⟩,y,j⟩
theorem PlH.keepR{lo p n:Nat}{w w':World}{L:List PS}{C:List (Value×List Nat)}{k:Prop}{g:PS}{U:Sh}(h:PlH lo w p L C k n)(v:L[n]?=some g)(b:ShM 148 w g.2.1 U)(c:Chg [g.2.1] w w'):PlH lo w' p L C k n:=by
  obtain ⟨⟨s,t,r,q,F,D,B,A,u⟩,f,z,o,m,y,j⟩:=h
  exact ⟨⟨s,t,r,q,F.nX b c,D.nX b c,B.nX b c,A.nX b c,u⟩,λi a e d=>⟨(f i a e d).1.other b c ((f i a e d).1.neT b oD),(f i a e d).2.1.other b c (pw_ne o v e d).2,(f i a e d).2.2⟩,z,o,λx l=>⟨(m x l).1.nX b c,(m x l).2⟩,y,j⟩
theorem pairC_same{L:List PS}{n c d:Nat}{S S':Sh}(b:L[n]?=some (c,d,S)):bej (L.set n (c,d,S'))=bej L:=by
  induction L generalizing n with
  | nil=>simp at b
  | cons a L ih=>
    cases n with
    | zero=>cases b;rfl
    | succ n=>
      have e:=ih (n:=n) (by simpa using b)
      show _::_::bej (L.set n _)=_::_::bej L
      rw[e]
theorem set_mem{L:List PS}{n:Nat}{g c a:PS}(f:L[n]?=some g)(d:a∈L.set n c):a=c\/∃ i,L[i]?=some a/\i≠n:=by
  obtain ⟨i,b⟩:=List.getElem?_of_mem d
  rw[List.getElem?_set] at b
  split at b
  · split at b
    · cases b;exact .inl rfl
    · cases b
  · exact .inr ⟨i,b,λe=>by simp_all⟩
theorem pw_set{L:List PS}{n:Nat}{g k:PS}(h:L.Pairwise λa b=>a.1≠b.1/\a.2.1≠b.2.1)(m:L[n]?=some g)(l : ∀ i a,L[i]?=some a->i≠n->a.1≠k.1/\a.2.1≠k.2.1):(L.set n k).Pairwise λa b=>a.1≠b.1/\a.2.1≠b.2.1:=by
  rw[List.pairwise_iff_getElem] at h ⊢
  intro i j f c d
  simp only[List.length_set] at f c
  rw[List.getElem_set,List.getElem_set]
  split
  · split
    · omega
    · rename_i e1 e2
      have:=l j _ (List.getElem?_eq_getElem c) (λe=>e2 e.symm)
      exact ⟨λe=>this.1 e.symm,λe=>this.2 e.symm⟩
  · split
    · rename_i e1 e2
      exact l i _ (List.getElem?_eq_getElem f) (λe=>e1 e.symm)
    · exact h i j f c d
theorem PlH.close{lo m n g j:Nat}{w:World}{L:List PS}{C:List (Value×List Nat)}{k:Prop}{S S':Sh}(h:PlH lo w m L C k n)(c:L[n]?=some (g,j,S))(s:ShM 91 w g S')(r:ShM 148 w j S')(p:Gn S')(o:S'.noE):PlM lo w m (L.set n (g,j,S')) C k:=by
  have b:=h.lb _ (List.mem_of_getElem? c)
  refine ⟨?_,⟨λa f=>?_,?_,h.dat,h.nd⟩,h.lob⟩
  · rw[pairC_same c,List.length_set];exact h.ex
  · rcases set_mem c f with rfl|⟨i,d,e⟩
    · exact ⟨s,r,p,o,b.1,b.2⟩
    · have:=h.sh i a d e
      have l:=h.lb a (List.mem_of_getElem? d)
      exact ⟨this.1,this.2.1,this.2.2.1,this.2.2.2,l.1,l.2⟩
  · exact pw_set h.nb c λi a f d=>(by have q:=pw_ne h.nb c f d;exact q)
theorem PlS.snocL{lo b r:Nat}{w c:World}{L:List PS}{C:List (Value×List Nat)}{S:Sh}(e:PlS lo c L C)(h:PlS lo w L C)(o:ShM 91 w b S)(n:ShM 148 w r S)(m:Gn S)(l:S.noE)(k:c.heap.size<=b)(i:c.heap.size<=r)(a:lo<=c.heap.size):PlS lo w (L++[(b,r,S)]) C:=by
  refine ⟨λg j=>?_,?_,h.dat,h.nd⟩
  · rcases List.mem_append.1 j with q|q
    · exact h.sh g q
    · rw[List.mem_singleton.1 q]
      exact ⟨o,n,m,l,Nat.le_trans a k,Nat.le_trans a i⟩
  · rw[List.pairwise_append]
    refine ⟨h.nb,List.pairwise_singleton ..,λx d y f=>?_⟩
    rw[List.mem_singleton.1 f]
    have s:=(e.sh x d).1.lt
    have p:=(e.sh x d).2.1.lt
    exact ⟨by dsimp only;omega,by dsimp only;omega⟩
namespace Sx
section
variable {P:Program} {n:Nat} {D:List Deferred} {s:Sl} {w:World} {ops:Array Oper} {K:KK} {rest:List Oper} {ty:TypeId} {pos:String} {af:Array Edge} {x y:Operand}
theorem evS_storePQ{t e:TypeId}{M:TypeDesc}{l:Nat}{z:Value}{lo i b m c j:Nat}{u:Value}{cs:List Value}[hT:aZ P t M 1 l z](v:g8 s x=some (.pointer (some ⟨b,j,none⟩)))(r:g8 s y=some u)(J:u.oneCell'=true)(A:abq u=false)
    (C:PQ w e i lo (.slice (some ⟨b,0,none⟩) m c) m cs) (R:j<cs.length) : ∃ w',EvS P s (.store t x y) ty w w'/\PQ w' e i lo (.slice (some ⟨b,0,none⟩) m c) m (cs.set j u)/\Chg [b] w w':=by
  rcases C with ⟨k,_⟩|⟨g,O,a,k,I,p,o,n,H,G,F,D⟩
  · cases k
  cases k
  have f:a=a.toList.toArray:=by simp
  rw[f] at p
  have Q:m*i<=a.size:=Nat.le_trans (Nat.mul_le_mul_right _ n) o
  have d:j<a.toList.length:=by simp;omega
  have h:=d7j (P:=P) (ty:=ty) (t:=t) (hT:=hT) v r J p d
  refine ⟨_,h.1,.inr ⟨b,c,(a.toList.set j u).toArray,rfl,I,h.2.at_,by simpa using o,n,H,by rw[List.length_set];exact G,?_,λq B=>?_⟩,h.2.chg⟩
  · show ((a.toList.set j u).toArray.toList).take _=_
    rw[<- F]
    exact List.take_set
  · rcases List.mem_or_eq_of_mem_set (show q∈a.toList.set j u by simpa using B) with z|z
    · exact D q z
    · rw[z];exact A
theorem WL.storePQ{t e:TypeId}{v:TypeDesc}{d:Nat}{z:Value}{lo f b m c j:Nat}{u:Value}{cs:List Value}[hT:aZ P t v 1 d z](h:g8 s x=some (.pointer (some ⟨b,j,none⟩)))(g:g8 s y=some u)(r:u.oneCell'=true)(i:abq u=false)
    (o:PQ w e f lo (.slice (some ⟨b,0,none⟩) m c) m cs) (l:j<cs.length) (k : ∀ w',PQ w' e f lo (.slice (some ⟨b,0,none⟩) m c) m (cs.set j u)->Chg [b] w w'->WL P ops K rest n D s w'):WL P ops K (⟨none,.store t x y,ty,pos,af,none⟩::rest) n D s w:=by
  obtain ⟨w',p,a,q⟩:=evS_storePQ (P:=P) (ty:=ty) (t:=t) (hT:=hT) h g r i o l
  exact WL.evs p (k w' a q)
end
end Sx
end
end Go.Proofs.YtomlallhlakhfaaGreatDoor