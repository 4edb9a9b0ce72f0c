/- Part 6 of what the proof rests on. No condition. -/
import Derived.Test.YtomlallhlakhfaaGreatDoorZp5
import Derived.Laws.StructEq
import Derived.Lib.AppendStr
import Derived.Laws.BytesString
set_option linter.unusedVariables false
set_option linter.unusedSimpArgs false
set_option maxRecDepth 100000
set_option maxHeartbeats 4000000
namespace Go.Proofs.YtomlallhlakhfaaGreatDoor
section
open Go Sx Wd Fl
theorem getD_v{x y v:Dy}(a:x.ok)(b:y.ok)(h:bix yQ (.some x) (cX (!y.neg) y.m y.e) = .some v):v.ok:=by
  cases hf:cX (!y.neg) y.m y.e with
  | none=>rw[hf] at h;cases h
  | some z=>rw[hf] at h;exact addD_ok a (jZ hf) h
def auq(s:SP)(pn pi:Int):Prop:=(0<s.na/\pn=0)\/(0<s.up+s.dn/\pi=0)
instance (s:SP)(pn pi:Int):Decidable (auq s pn pi):=by unfold auq;exact inferInstance
def varShR(S:Sh)(less mode pn pi:Int)(b:Nat)(e:Int):Prop:=
  (¬(less=0\/less=1)/\b=0/\e=1)\/((less=0\/less=1)/\((shE S.s mode pn pi≠0/\b=0/\e=shE S.s mode pn pi)\/(shE S.s mode pn pi=0/\
    ((auq S.s pn pi/\b=9221120237041090560/\e=0)\/(¬auq S.s pn pi/\((S.fin<=less/\b=0/\e=3)\/(less<S.fin/\momR S.fin S.V S.Q less mode b e)))))))
theorem momOf_spec(V Q:Dy)(rv rq:Value)(n o mode:Int)(w:World)(g:NU w rv (wd V.m))(B:NU w rq (wd Q.m))(C:V.ok)(a2:Q.ok)(hg:GW w):Ret Tryz.prog 79 [.int .i64 n,.agg [.bool V.neg,rv,.int .i64 V.e].toArray,.agg [.bool Q.neg,rq,.int .i64 Q.e].toArray,.int .i64 o,.int .i64 mode] w λu w'=>(∃ x e,u = .tuple [.float .f64 x,.int .i64 e].toArray/\momR n V Q o mode x e)/\Chg [] w w':=by
 have a:=crf w;have F:=hg;have r2:=g.one;have r3:=B.one;refine zE5 Tryz.func79 rfl ?_;refine Sr λ_ m8=>?_;refine zBh rfl rfl rfl a λb6 p5 d e9 p3 l7 a=>?_;have g:=g.q8 e9;have B:=B.q8 e9;refine zBh rfl rfl rfl a λb7 p4 d8 d2 l8 l6 a=>?_;have g:=g.q8 d2;have B:=B.q8 d2;have m4:=zdd d.lt l8;have d:=d.k0 d2;refine za rfl (za rfl (zz (m8 (zc λ_ m7=>?_))));refine CW.azx 28 (decide (¬((0<=mode/\mode<=4)/\(o=0\/o=1)/\1<=n/\n<=1099511627776))) ?_ ?_
 ·intro b3;refine zS λ_ f3=>zm rfl (zm rfl ?_);refine WL.call hasF143 rfl rfl (momMay_spec mode o _) λv w1 J=>?_;obtain ⟨rfl,rfl⟩:=J;refine zT rfl (zm rfl ?_);refine zb ?_ ?_<;>intro n4<;>try simp only[qs] at n4
  ·refine zv rfl (zv rfl (zt rfl rfl (zm rfl (zv rfl (zv rfl (zt rfl rfl (zz (f3 ?_))))))));refine ⟨rfl,b3,j0.g8 rfl ?_ ?_⟩
   ·first|(simp_all;done)|(simp;omega)|(refine decide_eq_decide.2 ?_;omega)|(simp_all;omega)
   exact SMg
  refine zw rfl (zm rfl (zw rfl (zL rfl rfl (ze rfl rfl (zm rfl ?_)))));refine zb ?_ ?_<;>intro n3<;>try simp only[qs] at n3
  ·refine zv rfl (zv rfl (zt rfl rfl (zz (f3 ?_))));refine ⟨rfl,b3,j0.g8 rfl ?_ ?_⟩
   ·first|(simp_all;done)|(simp;omega)|(refine decide_eq_decide.2 ?_;omega)|(simp_all;omega)
   exact SMg
  refine zw rfl (zm rfl (zw rfl (zG rfl rfl (ze rfl rfl (zz (f3 ?_))))));refine ⟨rfl,b3,j0.g8 rfl ?_ ?_⟩
  ·first|(simp_all;done)|(simp;omega)|(refine decide_eq_decide.2 ?_;omega)|(simp_all;omega)
  exact SMg
 intro wM b3;have a:=a.ta b3;have d:=d.k0 b3;have d8:=d8.k0 b3;have g:=g.q8 b3;have B:=B.q8 b3;refine zy rfl ?_ ?_<;>intro f9<;>try simp only[qs] at f9
 ·have hq : ¬((0<=mode/\mode<=4)/\(o=0\/o=1)/\1<=n/\n<=1099511627776):=f9
  refine Sr λ_ m6=>za rfl (za rfl (zz (m6 ?_)));refine zr (zr2 rfl rfl rfl ?_);refine ⟨⟨_,_,rfl,?_⟩,a⟩;exact .inl ⟨hq,rfl,rfl⟩
 have hq:(0<=mode/\mode<=4)/\(o=0\/o=1)/\1<=n/\n<=1099511627776:=f9;obtain ⟨r1,r0,q7,q6⟩:=id hq;refine zkk (m7 (zc λ_ f4=>?_));refine CW.cQ 10 rfl dZ λq5 f2 A c8=>?_;have a:=a.ta c8;have d:=d.k0 c8;have d8:=d8.k0 c8;have g:=g.q8 c8;have B:=B.q8 c8;have g0:=d8;refine wh 0 rfl A (eM rfl) (wh 2 rfl A (λ_ m9=>Ev.rZ rfl rfl (g0.q8 m9) rfl) ?_);refine WH.c4q 1 7 oR ?_ ?_
 ·refine ahj.call 1 rfl hasF144 rfl rfl (bdj n _ (F.q8 a) oO) λv w2 J=>?_;obtain ⟨⟨ri,rfl,c2⟩,k⟩:=J;have n0:=c2.one;have U:(cJ n).ok:=xZ oO;have a:=a.ta k;have d:=d.k0 k;have g:=g.q8 k;have B:=B.q8 k;have A:=A.trans k;refine ⟨A,?_⟩;refine WH.c4q 3 7 oR ?_ ?_
  ·refine ahj.call 3 rfl hasF71 rfl rfl (uX _ _ _ _ _ _ _ _ _ c2 B (F.q8 a) (bX U) (bX a2)) λv w3 J=>?_;obtain ⟨T,k⟩:=J;rw[jJ U a2] at T;obtain ⟨rx,k1,rfl,f,c1⟩:=T.bkj;have l5:=f.one;have a:=a.ta k;have d:=d.k0 k;have g:=g.q8 k;have A:=A.trans k;refine ⟨A,?_⟩;refine wh 4 rfl A (eM rfl) (wh 5 rfl A (eX rfl rfl) (wh 6 rfl A (eX rfl rfl) ?_));refine WH.wQ (l:=[.bool false,.slice none 0 0,.int .i64 0]) 7 rfl oR A rfl rfl λm3 e4 b i r d9=>?_;have M:=Nat.le_trans A.size r;have A:=d9;have a6:=Nat.le_trans a.size r;have a:=a.ta i;have g:=g.q8 i;have f:=f.q8 i;have b5:=zdd d.lt r;have d:=d.k0 i;refine WH.sX 8 rfl oR A M rfl rfl rfl ao b oS rfl λo6 I b2 A=>?_;(try simp only[qt] at I);have a:=a.s1 b2;have d:=d.kq b2;have g:=g.q9 b b2 an;have f:=f.q9 b b2 an;have b:=I;refine wh 9 rfl A (eA rfl) ?_;refine WH.done oR (f2 _ _ _ ?_);refine f4 (Sr λ_ m5=>zg d rfl (zg d rfl ?_));refine WL.call hasF71 rfl rfl (uX _ _ _ _ _ _ _ _ _ g g (F.q8 a) (bX C) (bX C)) λv w4 J=>?_;obtain ⟨T,k⟩:=J;rw[jJ C C] at T;obtain ⟨ry,k2,rfl,t,b9⟩:=T.bkj;have l4:=t.one;have a:=a.ta k;have b:=b.k0 k;have f:=f.q8 k;refine zm rfl (zx rfl rfl (zx rfl rfl ?_));refine zAh rfl rfl a λm2 e3 j s Y a5 a=>?_;have f:=f.q8 s;have t:=t.q8 s;have a3:=zdd b.lt Y;have b:=b.k0 s;refine zss rfl rfl ao j rfl λo5 H b1=>?_;(try simp only[qt] at H);have a:=a.s1 b1;have b:=b.kq b1;have f:=f.q9 j b1 an;have t:=t.q9 j b1 an
   have j:=H;refine za rfl (zz (m5 (zc λ_ l2=>?_)));refine CW.oX 47 (decide (k1≠0\/k2≠0)) ?_ ?_
   ·refine zS λ_ e7=>zm rfl (zN rfl rfl (zm rfl ?_));refine zb ?_ ?_<;>intro n2<;>try simp only[qs] at n2
    ·refine zv rfl (zv rfl (zt rfl rfl (zz (e7 ?_))));refine ⟨rfl,rfl,j0.g8 rfl ?_ ?_⟩
     ·first|(simp_all;done)|(simp;omega)|(refine decide_eq_decide.2 ?_;omega)
     exact SMg
    refine zw rfl (zm rfl (zw rfl (zN rfl rfl (ze rfl rfl (zz (e7 ?_))))));refine ⟨rfl,rfl,j0.g8 rfl ?_ ?_⟩
    ·first|(simp_all;done)|(simp;omega)|(refine decide_eq_decide.2 ?_;omega)
    exact SMg
   refine zy rfl ?_ ?_<;>intro f8<;>try simp only[qs] at f8
   ·have hk:k1≠0\/k2≠0:=f8
    refine Sr λ_ l1=>za rfl (za rfl (zz (l1 ?_)));refine zr (zr2 rfl rfl rfl ?_);refine ⟨⟨_,_,rfl,?_⟩,a⟩;exact .inr ⟨hq,.inl ⟨hk.imp (λq=>(c1.resolve_left (λz=>q z.1)).2) (λq=>(b9.resolve_left (λz=>q z.1)).2),rfl,rfl⟩⟩
   have hk : ¬(k1≠0\/k2≠0):=f8;obtain ⟨-,x,hx⟩:=c1.resolve_right (λq=>hk (.inl oO));obtain ⟨-,y,hy⟩:=b9.resolve_right (λq=>hk (.inr oO));have D:=mJ hx;have O:=mJ hy;rw[hx,Option.getD_some] at f;rw[hy,Option.getD_some] at t;rw[hx,Option.getD_some] at b;rw[hy,Option.getD_some] at j;refine zkk (l2 (Sr λ_ l0=>zg b rfl (zg j rfl ?_)));refine WL.call hasF145 rfl rfl (cyx _ _ _ _ _ _ _ _ _ f t (F.q8 a) (bX D) (bX O)) λv w5 J=>?_;obtain ⟨T,k⟩:=J;rw[g7,g7,nQ D] at T;obtain ⟨rz,k3,rfl,h,b8⟩:=T.bkj;have l3:=h.one;have a:=a.ta k;refine zm rfl (zx rfl rfl (zx rfl rfl ?_));refine zAh rfl rfl a λm1 e2 p Z c7 a4 a=>?_;have h:=h.q8 Z;refine zss rfl rfl ao p rfl λo4 G d1=>?_;(try simp only[qt] at G);have a:=a.s1 d1;have h:=h.q9 p d1 an;have p:=G;refine za rfl (zz (l0 (zc λ_ k5=>CW.block (Sr λ_ k4=>zm rfl (zN rfl rfl (za rfl (zz (k4 ?_))))))));refine zy rfl ?_ ?_<;>intro f7<;>try simp only[qs] at f7
   ·have h3:k3≠0:=f7
    obtain ⟨rfl,e1⟩:=b8.resolve_left (λz=>h3 z.1);refine Sr λ_ i9=>zm rfl (za rfl (za rfl (zz (i9 ?_))));refine zr (zr2 rfl rfl rfl ?_);refine ⟨⟨_,_,rfl,?_⟩,a⟩;exact .inr ⟨hq,.inr ⟨x,y,hx,hy,.inl ⟨e1,rfl,rfl⟩⟩⟩
   have h3:k3=0:=by have:=f7;omega
   obtain ⟨-,v,hv⟩:=b8.resolve_right (λq=>by omega);have R:v.ok:=getD_v D O hv;rw[hv,Option.getD_some] at h;rw[hv,Option.getD_some] at p;refine Sr λ_ i8=>zm rfl (zm rfl (zQ rfl rfl (za rfl (zz (i8 ?_)))));refine zy rfl ?_ ?_<;>intro f6<;>try simp only[qs] at f6
   ·have X:n<=o:=f6
    refine Sr λ_ i7=>za rfl (za rfl (zz (i7 ?_)));refine zr (zr2 rfl rfl rfl ?_);refine ⟨⟨_,_,rfl,?_⟩,a⟩;exact .inr ⟨hq,.inr ⟨x,y,hx,hy,.inr ⟨v,hv,.inl ⟨X,rfl,rfl⟩⟩⟩⟩
   have X:o<n:=by have:=f6;omega
   refine zkk (k5 (Sr λ_ i6=>zg p rfl (zm rfl (zm rfl ?_))));refine WL.call hasF147 rfl rfl (by_spec v rz n o _ h R oO oO (F.q8 a)) λv w6 J=>?_;obtain ⟨⟨rd,rfl,e0,m0⟩,k⟩:=J;have a:=a.ta k;have h:=h.q8 k;refine zm rfl ?_;refine WL.call hasF146 rfl rfl (b8q _ _ _ _ _ _ _ _ mode _ h e0 (F.q8 a) (bX R) (bX (dax _ _ 2))) λv w7 J=>?_;obtain ⟨⟨xb,xe,rfl,hR⟩,k⟩:=J;rw[g7,g7] at hR;have a:=a.ta k;refine zx rfl rfl (zx rfl rfl (za rfl (za rfl (zz (i6 ?_)))));refine zr (zr2 rfl rfl rfl ?_);refine ⟨⟨_,_,rfl,?_⟩,a⟩;exact .inr ⟨hq,.inr ⟨x,y,hx,hy,.inr ⟨v,hv,.inr ⟨X,hR⟩⟩⟩⟩
  refine ahj.wQ (l:=[.bool false,.slice none 0 0,.int .i64 0]) 7 rfl A rfl rfl λm3 e4 b i r d9=>?_;have M:=Nat.le_trans A.size r;have A:=d9;have a6:=Nat.le_trans a.size r;have a:=a.ta i;have g:=g.q8 i;have B:=B.q8 i;have c2:=c2.q8 i;have b5:=zdd d.lt r;have d:=d.k0 i;refine WH.k7 3 rfl oR hasF71 rfl rfl (uX _ _ _ _ _ _ _ _ _ c2 B (F.q8 a) (bX U) (bX a2)) λv w8 J=>?_;obtain ⟨T,k⟩:=J;rw[jJ U a2] at T;obtain ⟨rx,k1,rfl,f,c1⟩:=T.bkj;have l5:=f.one;have a:=a.ta k;have d:=d.k0 k;have b:=b.k0 k;have g:=g.q8 k;have A:=A.trans k;refine ⟨A,?_⟩;refine wh 4 rfl A (eM rfl) (wh 5 rfl A (eX rfl rfl) (wh 6 rfl A (eX rfl rfl) ?_));refine WH.sX 8 rfl oR A M rfl rfl rfl ao b oS rfl λo3 I b0 A=>?_;(try simp only[qt] at I);have a:=a.s1 b0;have d:=d.kq b0;have g:=g.q9 b b0 an;have f:=f.q9 b b0 an;have b:=I;refine wh 9 rfl A (eA rfl) ?_;refine WH.done oR (f2 _ _ _ ?_);refine f4 (Sr λ_ i5=>zg d rfl (zg d rfl ?_));refine WL.call hasF71 rfl rfl (uX _ _ _ _ _ _ _ _ _ g g (F.q8 a) (bX C) (bX C)) λv w9 J=>?_;obtain ⟨T,k⟩:=J;rw[jJ C C] at T;obtain ⟨ry,k2,rfl,t,b9⟩:=T.bkj;have l4:=t.one;have a:=a.ta k;have b:=b.k0 k;have f:=f.q8 k;refine zm rfl (zx rfl rfl (zx rfl rfl ?_));refine zAh rfl rfl a λm2 e3 j s Y a5 a=>?_;have f:=f.q8 s;have t:=t.q8 s;have a3:=zdd b.lt Y;have b:=b.k0 s;refine zss rfl rfl ao j rfl λo2 H a9=>?_;(try simp only[qt] at H);have a:=a.s1 a9;have b:=b.kq a9;have f:=f.q9 j a9 an;have t:=t.q9 j a9 an;have j:=H;refine za rfl (zz (i5 (zc λ_ i4=>?_)));refine CW.oX 47 (decide (k1≠0\/k2≠0)) ?_ ?_
  ·refine zS λ_ e6=>zm rfl (zN rfl rfl (zm rfl ?_));refine zb ?_ ?_<;>intro n1<;>try simp only[qs] at n1
   ·refine zv rfl (zv rfl (zt rfl rfl (zz (e6 ?_))));refine ⟨rfl,rfl,j0.g8 rfl ?_ ?_⟩
    ·first|(simp_all;done)|(simp;omega)|(refine decide_eq_decide.2 ?_;omega)
    exact SMg
   refine zw rfl (zm rfl (zw rfl (zN rfl rfl (ze rfl rfl (zz (e6 ?_))))));refine ⟨rfl,rfl,j0.g8 rfl ?_ ?_⟩
   ·first|(simp_all;done)|(simp;omega)|(refine decide_eq_decide.2 ?_;omega)
   exact SMg
  refine zy rfl ?_ ?_<;>intro f5<;>try simp only[qs] at f5
  ·have hk:k1≠0\/k2≠0:=f5
   refine Sr λ_ i3=>za rfl (za rfl (zz (i3 ?_)));refine zr (zr2 rfl rfl rfl ?_);refine ⟨⟨_,_,rfl,?_⟩,a⟩;exact .inr ⟨hq,.inl ⟨hk.imp (λq=>(c1.resolve_left (λz=>q z.1)).2) (λq=>(b9.resolve_left (λz=>q z.1)).2),rfl,rfl⟩⟩
  have hk : ¬(k1≠0\/k2≠0):=f5;obtain ⟨-,x,hx⟩:=c1.resolve_right (λq=>hk (.inl oO));obtain ⟨-,y,hy⟩:=b9.resolve_right (λq=>hk (.inr oO));have D:=mJ hx;have O:=mJ hy;rw[hx,Option.getD_some] at f;rw[hy,Option.getD_some] at t;rw[hx,Option.getD_some] at b;rw[hy,Option.getD_some] at j;refine zkk (i4 (Sr λ_ i2=>zg b rfl (zg j rfl ?_)));refine WL.call hasF145 rfl rfl (cyx _ _ _ _ _ _ _ _ _ f t (F.q8 a) (bX D) (bX O)) λv q3 J=>?_;obtain ⟨T,k⟩:=J;rw[g7,g7,nQ D] at T;obtain ⟨rz,k3,rfl,h,b8⟩:=T.bkj;have l3:=h.one;have a:=a.ta k;refine zm rfl (zx rfl rfl (zx rfl rfl ?_));refine zAh rfl rfl a λm1 e2 p Z c7 a4 a=>?_;have h:=h.q8 Z;refine zss rfl rfl ao p rfl λo0 G d0=>?_;(try simp only[qt] at G);have a:=a.s1 d0;have h:=h.q9 p d0 an;have p:=G;refine za rfl (zz (i2 (zc λ_ i1=>CW.block (Sr λ_ i0=>zm rfl (zN rfl rfl (za rfl (zz (i0 ?_))))))));refine zy rfl ?_ ?_<;>intro d7<;>try simp only[qs] at d7
  ·have h3:k3≠0:=d7
   obtain ⟨rfl,e1⟩:=b8.resolve_left (λz=>h3 z.1);refine Sr λ_ h9=>zm rfl (za rfl (za rfl (zz (h9 ?_))));refine zr (zr2 rfl rfl rfl ?_);refine ⟨⟨_,_,rfl,?_⟩,a⟩;exact .inr ⟨hq,.inr ⟨x,y,hx,hy,.inl ⟨e1,rfl,rfl⟩⟩⟩
  have h3:k3=0:=by have:=d7;omega
  obtain ⟨-,v,hv⟩:=b8.resolve_right (λq=>by omega);have R:v.ok:=getD_v D O hv;rw[hv,Option.getD_some] at h;rw[hv,Option.getD_some] at p;refine Sr λ_ h8=>zm rfl (zm rfl (zQ rfl rfl (za rfl (zz (h8 ?_)))));refine zy rfl ?_ ?_<;>intro d6<;>try simp only[qs] at d6
  ·have X:n<=o:=d6
   refine Sr λ_ h7=>za rfl (za rfl (zz (h7 ?_)));refine zr (zr2 rfl rfl rfl ?_);refine ⟨⟨_,_,rfl,?_⟩,a⟩;exact .inr ⟨hq,.inr ⟨x,y,hx,hy,.inr ⟨v,hv,.inl ⟨X,rfl,rfl⟩⟩⟩⟩
  have X:o<n:=by have:=d6;omega
  refine zkk (i1 (Sr λ_ h6=>zg p rfl (zm rfl (zm rfl ?_))));refine WL.call hasF147 rfl rfl (by_spec v rz n o _ h R oO oO (F.q8 a)) λv q2 J=>?_;obtain ⟨⟨rd,rfl,e0,m0⟩,k⟩:=J;have a:=a.ta k;have h:=h.q8 k;refine zm rfl ?_;refine WL.call hasF146 rfl rfl (b8q _ _ _ _ _ _ _ _ mode _ h e0 (F.q8 a) (bX R) (bX (dax _ _ 2))) λv w12 J=>?_;obtain ⟨⟨xb,xe,rfl,hR⟩,k⟩:=J;rw[g7,g7] at hR;have a:=a.ta k;refine zx rfl rfl (zx rfl rfl (za rfl (za rfl (zz (h6 ?_)))));refine zr (zr2 rfl rfl rfl ?_);refine ⟨⟨_,_,rfl,?_⟩,a⟩;exact .inr ⟨hq,.inr ⟨x,y,hx,hy,.inr ⟨v,hv,.inr ⟨X,hR⟩⟩⟩⟩
 refine ahj.wQ (l:=[.bool false,.slice none 0 0,.int .i64 0]) 7 rfl A rfl rfl λm3 e4 b i r d9=>?_;have M:=Nat.le_trans A.size r;have A:=d9;have a6:=Nat.le_trans a.size r;have a:=a.ta i;have g:=g.q8 i;have B:=B.q8 i;have b5:=zdd d.lt r;have d:=d.k0 i;refine WH.k7 1 rfl oR hasF144 rfl rfl (bdj n _ (F.q8 a) oO) λv q1 J=>?_;obtain ⟨⟨ri,rfl,c2⟩,k⟩:=J;have n0:=c2.one;have U:(cJ n).ok:=xZ oO;have a:=a.ta k;have d:=d.k0 k;have b:=b.k0 k;have g:=g.q8 k;have B:=B.q8 k;have A:=A.trans k;refine ⟨A,?_⟩;refine WH.k7 3 rfl oR hasF71 rfl rfl (uX _ _ _ _ _ _ _ _ _ c2 B (F.q8 a) (bX U) (bX a2)) λv q0 J=>?_;obtain ⟨T,k⟩:=J;rw[jJ U a2] at T;obtain ⟨rx,k1,rfl,f,c1⟩:=T.bkj;have l5:=f.one;have a:=a.ta k;have d:=d.k0 k;have b:=b.k0 k;have g:=g.q8 k;have A:=A.trans k;refine ⟨A,?_⟩;refine wh 4 rfl A (eM rfl) (wh 5 rfl A (eX rfl rfl) (wh 6 rfl A (eX rfl rfl) ?_));refine WH.sX 8 rfl oR A M rfl rfl rfl ao b oS rfl λn9 I a8 A=>?_;(try simp only[qt] at I);have a:=a.s1 a8;have d:=d.kq a8;have g:=g.q9 b a8 an;have f:=f.q9 b a8 an;have b:=I;refine wh 9 rfl A (eA rfl) ?_;refine WH.done oR (f2 _ _ _ ?_);refine f4 (Sr λ_ h5=>zg d rfl (zg d rfl ?_));refine WL.call hasF71 rfl rfl (uX _ _ _ _ _ _ _ _ _ g g (F.q8 a) (bX C) (bX C)) λv p9 J=>?_;obtain ⟨T,k⟩:=J;rw[jJ C C] at T;obtain ⟨ry,k2,rfl,t,b9⟩:=T.bkj;have l4:=t.one;have a:=a.ta k;have b:=b.k0 k;have f:=f.q8 k;refine zm rfl (zx rfl rfl (zx rfl rfl ?_));refine zAh rfl rfl a λm2 e3 j s Y a5 a=>?_;have f:=f.q8 s;have t:=t.q8 s;have a3:=zdd b.lt Y;have b:=b.k0 s;refine zss rfl rfl ao j rfl λn8 H a7=>?_;(try simp only[qt] at H);have a:=a.s1 a7;have b:=b.kq a7;have f:=f.q9 j a7 an;have t:=t.q9 j a7 an;have j:=H;refine za rfl (zz (h5 (zc λ_ h4=>?_)));refine CW.oX 47 (decide (k1≠0\/k2≠0)) ?_ ?_
 ·refine zS λ_ e5=>zm rfl (zN rfl rfl (zm rfl ?_));refine zb ?_ ?_<;>intro l9<;>try simp only[qs] at l9
  ·refine zv rfl (zv rfl (zt rfl rfl (zz (e5 ?_))));refine ⟨rfl,rfl,j0.g8 rfl ?_ ?_⟩
   ·first|(simp_all;done)|(simp;omega)|(refine decide_eq_decide.2 ?_;omega)
   exact SMg
  refine zw rfl (zm rfl (zw rfl (zN rfl rfl (ze rfl rfl (zz (e5 ?_))))));refine ⟨rfl,rfl,j0.g8 rfl ?_ ?_⟩
  ·first|(simp_all;done)|(simp;omega)|(refine decide_eq_decide.2 ?_;omega)
  exact SMg
 refine zy rfl ?_ ?_<;>intro d5<;>try simp only[qs] at d5
 ·have hk:k1≠0\/k2≠0:=d5
  refine Sr λ_ h2=>za rfl (za rfl (zz (h2 ?_)));refine zr (zr2 rfl rfl rfl ?_);refine ⟨⟨_,_,rfl,?_⟩,a⟩;exact .inr ⟨hq,.inl ⟨hk.imp (λq=>(c1.resolve_left (λz=>q z.1)).2) (λq=>(b9.resolve_left (λz=>q z.1)).2),rfl,rfl⟩⟩
 have hk : ¬(k1≠0\/k2≠0):=d5;obtain ⟨-,x,hx⟩:=c1.resolve_right (λq=>hk (.inl oO));obtain ⟨-,y,hy⟩:=b9.resolve_right (λq=>hk (.inr oO));have D:=mJ hx;have O:=mJ hy;rw[hx,Option.getD_some] at f;rw[hy,Option.getD_some] at t;rw[hx,Option.getD_some] at b;rw[hy,Option.getD_some] at j;refine zkk (h4 (Sr λ_ h1=>zg b rfl (zg j rfl ?_)));refine WL.call hasF145 rfl rfl (cyx _ _ _ _ _ _ _ _ _ f t (F.q8 a) (bX D) (bX O)) λv p8 J=>?_;obtain ⟨T,k⟩:=J;rw[g7,g7,nQ D] at T;obtain ⟨rz,k3,rfl,h,b8⟩:=T.bkj;have l3:=h.one;have a:=a.ta k;refine zm rfl (zx rfl rfl (zx rfl rfl ?_));refine zAh rfl rfl a λm1 e2 p Z c7 a4 a=>?_;have h:=h.q8 Z;refine zss rfl rfl ao p rfl λn7 G c9=>?_;(try simp only[qt] at G);have a:=a.s1 c9;have h:=h.q9 p c9 an;have p:=G;refine za rfl (zz (h1 (zc λ_ h0=>CW.block (Sr λ_ g9=>zm rfl (zN rfl rfl (za rfl (zz (g9 ?_))))))));refine zy rfl ?_ ?_<;>intro d4<;>try simp only[qs] at d4
 ·have h3:k3≠0:=d4
  obtain ⟨rfl,e1⟩:=b8.resolve_left (λz=>h3 z.1);refine Sr λ_ g5=>zm rfl (za rfl (za rfl (zz (g5 ?_))));refine zr (zr2 rfl rfl rfl ?_);refine ⟨⟨_,_,rfl,?_⟩,a⟩;exact .inr ⟨hq,.inr ⟨x,y,hx,hy,.inl ⟨e1,rfl,rfl⟩⟩⟩
 have h3:k3=0:=by have:=d4;omega
 obtain ⟨-,v,hv⟩:=b8.resolve_right (λq=>by omega);have R:v.ok:=getD_v D O hv;rw[hv,Option.getD_some] at h;rw[hv,Option.getD_some] at p;refine Sr λ_ g4=>zm rfl (zm rfl (zQ rfl rfl (za rfl (zz (g4 ?_)))));refine zy rfl ?_ ?_<;>intro d3<;>try simp only[qs] at d3
 ·have X:n<=o:=d3
  refine Sr λ_ g3=>za rfl (za rfl (zz (g3 ?_)));refine zr (zr2 rfl rfl rfl ?_);refine ⟨⟨_,_,rfl,?_⟩,a⟩;exact .inr ⟨hq,.inr ⟨x,y,hx,hy,.inr ⟨v,hv,.inl ⟨X,rfl,rfl⟩⟩⟩⟩
 have X:o<n:=by have:=d3;omega
 refine zkk (h0 (Sr λ_ g2=>zg p rfl (zm rfl (zm rfl ?_))));refine WL.call hasF147 rfl rfl (by_spec v rz n o _ h R oO oO (F.q8 a)) λv p7 J=>?_;obtain ⟨⟨rd,rfl,e0,m0⟩,k⟩:=J;have a:=a.ta k;have h:=h.q8 k;refine zm rfl ?_;refine WL.call hasF146 rfl rfl (b8q _ _ _ _ _ _ _ _ mode _ h e0 (F.q8 a) (bX R) (bX (dax _ _ 2))) λv p6 J=>?_;obtain ⟨⟨xb,xe,rfl,hR⟩,k⟩:=J;rw[g7,g7] at hR;have a:=a.ta k;refine zx rfl rfl (zx rfl rfl (za rfl (za rfl (zz (g2 ?_)))));refine zr (zr2 rfl rfl rfl ?_);refine ⟨⟨_,_,rfl,?_⟩,a⟩;exact .inr ⟨hq,.inr ⟨x,y,hx,hy,.inr ⟨v,hv,.inr ⟨X,hR⟩⟩⟩⟩
theorem ddq(b:Nat)(S:Sh)(g mode n p:Int)(w:World)(i:ShM 91 w b S)(c6:S.wf)(hg:GW w):Ret Tryz.prog 24 [.pointer (some ⟨b,0,none⟩),.int .i64 g,.int .i64 mode,.agg [.int .i64 n,.int .i64 p].toArray] w λu w'=>(∃ x e,u = .tuple [.float .f64 x,.int .i64 e].toArray/\varShR S g mode n p x e)/\Chg [] w w':=by
 obtain ⟨Y,Z,j,d,f⟩:=i;obtain ⟨c8,y,z,b1,b2⟩:=c6;obtain ⟨J,I,H,G,F,C⟩:=c8;have a:=crf w;have b4:=hg;refine zE4 Tryz.func24 rfl ?_;refine Sr λ_ c5=>?_;refine zBh rfl rfl rfl a λb7 d7 h o d6 b3 a=>?_;have d:=d.q8 o;have f:=f.q8 o;have c7:b≠b7:=by have:=j.lt;omega
 have j:=j.q8 o;refine za rfl (za rfl (zz (c5 (zc λ_ c4=>?_))));refine CW.oX 16 (decide (¬(g=0\/g=1))) ?_ ?_
 ·refine zS λ_ a1=>zm rfl (zN rfl rfl (zm rfl ?_));refine zb ?_ ?_<;>intro d0<;>try simp only[qs] at d0
  ·refine zw rfl (zm rfl (zw rfl (zN rfl rfl (zt rfl rfl (zz (a1 ?_))))));refine ⟨rfl,rfl,j0.g8 rfl ?_ ?_⟩
   ·first|(simp_all;done)|(simp;omega)|(refine decide_eq_decide.2 ?_;omega)
   exact SMg
  refine zv rfl (zv rfl (ze rfl rfl (zz (a1 ?_))));refine ⟨rfl,rfl,j0.g8 rfl ?_ ?_⟩
  ·first|(simp_all;done)|(simp;omega)|(refine decide_eq_decide.2 ?_;omega)
  exact SMg
 refine zy rfl ?_ ?_<;>intro X<;>try simp only[qs] at X
 ·have hl : ¬(g=0\/g=1):=X
  refine Sr λ_ c3=>za rfl (za rfl (zz (c3 ?_)));refine zr (zr2 rfl rfl rfl ?_);refine ⟨⟨_,_,rfl,?_⟩,a⟩;exact .inl ⟨hl,rfl,rfl⟩
 have hl:g=0\/g=1:=X;refine zkk (c4 (zc λ_ c2=>Sr λ_ c1=>zm rfl (zm rfl (zg h rfl ?_))));refine WL.call hasF72 rfl rfl (baq b S mode n p _ ⟨Y,Z,j,d,f⟩ ⟨⟨J,I,H,G,F,C⟩,y,z,b1,b2⟩ (b4.q8 a)) λv w1 q=>?_;obtain ⟨rfl,l⟩:=q;have a:=a.ta l;have j:=j.q8 l;have h:=h.k0 l;have d:=d.q8 l;have f:=f.q8 l;refine za rfl (zz (c1 (Sr λ_ a9=>zm rfl (zN rfl rfl (zz (a9 ?_))))));refine zy rfl ?_ ?_<;>intro U<;>try simp only[qs] at U
 ·have h0:shE S.s mode n p≠0:=U
  refine Sr λ_ a8=>zm rfl (za rfl (za rfl (zz (a8 ?_))));refine zr (zr2 rfl rfl rfl ?_);refine ⟨⟨_,_,rfl,?_⟩,a⟩;exact .inr ⟨hl,.inl ⟨h0,rfl,rfl⟩⟩
 have h0:shE S.s mode n p=0:=by have:=U;omega
 refine zkk (c2 (zc λ_ a7=>CW.block ?_));refine CW.anj (λD s' w'=>D=[]/\BK w' b 91 [.int .i64 (S.s.na:Int),.int .i64 (S.s.up:Int),.int .i64 (S.s.dn:Int),.int .i64 (S.s.mi:Int),.int .i64 (S.s.pl:Int),.int .i64 (S.s.al:Int),.bool S.V.neg,Y,.int .i64 S.V.e,.bool S.Q.neg,Z,.int .i64 S.Q.e,.float .f64 S.lo,.float .f64 S.hi]/\NU w' Y (wd S.V.m)/\NU w' Z (wd S.Q.m)/\BK w' b7 34 [.int .i64 n,.int .i64 p]/\Chg [] w w'/\j0 [(24,.bool (decide (auq S.s n p))),(0,.pointer (some ⟨b,0,none⟩)),(1,.int .i64 g),(2,.int .i64 mode),(7,.pointer (some ⟨b7,0,none⟩))] s') ?_ ?_
 ·refine CW.oX 24 (decide (0<S.s.na/\n=0)) ?_ ?_
  ·refine zS λ_ t=>zm rfl (zP rfl (zf rfl (zf rfl (zl j rfl rfl (zG rfl rfl (zm rfl ?_))))));refine zb ?_ ?_<;>intro c9<;>try simp only[qs] at c9
   ·refine zw rfl (zf rfl (zw rfl (zl h rfl rfl (zw rfl (zq rfl rfl (zt rfl rfl (za rfl (zz (t ?_)))))))));refine ⟨rfl,rfl,j0.g8 rfl ?_ ?_⟩
    ·first|(simp_all;done)|(simp;omega)|(refine decide_eq_decide.2 ?_;omega)
    exact SMg
   refine zv rfl (zv rfl (zv rfl (ze rfl rfl (za rfl (zz (t ?_))))));refine ⟨rfl,rfl,j0.g8 rfl ?_ ?_⟩
   ·first|(simp_all;done)|(simp;omega)|(refine decide_eq_decide.2 ?_;omega)
   exact SMg
  refine zy rfl ?_ ?_<;>intro T<;>try simp only[qs] at T
  ·have h1:0<S.s.na/\n=0:=T
   refine zkk ?_;refine ⟨rfl,j,d,f,h,a,j0.g8 rfl ?_ ?_⟩
   · first|exact (decide_eq_true (.inl h1)).symm|(unfold auq;first|exact (decide_eq_false oO).symm|exact (decide_eq_true oO).symm|(simp_all;done)|(simp;omega)|(refine decide_eq_decide.2 ?_;omega)|(simp_all;omega))
   first|((repeat (first|exact j0.refl|refine j0.oZ (by rfl) ?_));done)|((repeat (first|exact j0.nil|refine j0.cons rfl ?_));done)
  have h1 : ¬(0<S.s.na/\n=0):=T;refine CW.jQ dZ oR λd5 r k=>?_;have a:=a.ta k;have j:=j.q8 k;have h:=h.k0 k;have d:=d.q8 k;have f:=f.q8 k;refine ym rfl (yP rfl (yf rfl (yf rfl ?_)));refine WS.ev (Ev.load rfl rfl (j.at_ rfl)) rfl ?_;refine ym rfl (yP rfl (yf rfl (yf rfl ?_)));refine WS.ev (Ev.load rfl rfl (j.at_ rfl)) rfl ?_
  first|refine WS.ev (Ev.kQ rfl rfl oO) rfl ?_|refine WS.ev (Ev.add rfl rfl) rfl ?_
  refine WS.ev (Ev.gtr rfl rfl) rfl ?_;refine ym rfl ?_;refine WS.afq (λM=>?_) (λM=>?_)
  ·(try simp only[qs] at M);refine yw rfl (yf rfl (yw rfl ?_));refine WS.ev (Ev.load rfl rfl (h.at_ rfl)) rfl ?_
   refine yw rfl ?_;refine WS.ev (Ev.eql rfl rfl) rfl ?_;refine yt rfl rfl (ya rfl ?_);refine WS.nil (r _ _ ?_);refine ⟨rfl,j,d,f,h,a,j0.g8 rfl ?_ ?_⟩
   · first|exact (decide_eq_true (.inl h1)).symm|(unfold auq;first|exact (decide_eq_false oO).symm|exact (decide_eq_true oO).symm|(simp_all;done)|(simp;omega)|(refine decide_eq_decide.2 ?_;omega)|(simp_all;omega))
   first|((repeat (first|exact j0.refl|refine j0.oZ (by rfl) ?_));done)|((repeat (first|exact j0.nil|refine j0.cons rfl ?_));done)
  (try simp only[qs] at M);refine yv rfl (yv rfl (yv rfl (ye rfl rfl (ya rfl ?_))));refine WS.nil (r _ _ ?_);refine ⟨rfl,j,d,f,h,a,j0.g8 rfl ?_ ?_⟩
  · first|exact (decide_eq_true (.inl h1)).symm|(unfold auq;first|exact (decide_eq_false oO).symm|exact (decide_eq_true oO).symm|(simp_all;done)|(simp;omega)|(refine decide_eq_decide.2 ?_;omega)|(simp_all;omega))
  first|((repeat (first|exact j0.refl|refine j0.oZ (by rfl) ?_));done)|((repeat (first|exact j0.nil|refine j0.cons rfl ?_));done)
 rintro _ s' wJ ⟨rfl,j,d,f,h,a,b0⟩;refine CW.sub b0 ?_;refine zy rfl ?_ ?_<;>intro R<;>try simp only[qs] at R
 ·have b6:auq S.s n p:=R
  refine Sr λ_ a6=>?_;refine WL.call hasF77 rfl rfl (ccq _) λv w2 q=>?_;obtain ⟨rfl,rfl⟩:=q;refine za rfl (za rfl (zz (a6 ?_)));refine zr (zr2 rfl rfl rfl ?_);refine ⟨⟨_,_,rfl,?_⟩,a⟩;exact .inr ⟨hl,.inr ⟨h0,.inl ⟨b6,rfl,rfl⟩⟩⟩
 have b5 : ¬auq S.s n p:=R;refine Sr λ_ a5=>zm rfl ?_;refine WL.call hasF78 rfl rfl (akx b S _ ⟨Y,Z,j,d,f⟩ ⟨J,I,H,G,F,C⟩) λv w3 q=>?_;obtain ⟨rfl,l⟩:=q;have a:=a.ta l;have j:=j.q8 l;have d:=d.q8 l;have f:=f.q8 l;refine zm rfl (zQ rfl rfl (za rfl (zz (a5 ?_))));refine zy rfl ?_ ?_<;>intro O<;>try simp only[qs] at O
 ·have hf:S.fin<=g:=O
  refine Sr λ_ a4=>za rfl (za rfl (zz (a4 ?_)));refine zr (zr2 rfl rfl rfl ?_);refine ⟨⟨_,_,rfl,?_⟩,a⟩;exact .inr ⟨hl,.inr ⟨h0,.inr ⟨b5,.inl ⟨hf,rfl,rfl⟩⟩⟩⟩
 have hf:g<S.fin:=by have:=O;omega
 refine zkk (a7 (zc λ_ a3=>?_));refine CW.cQ 17 rfl dZ λd4 a2 i k=>?_;have a:=a.ta k;have j:=j.q8 k;have d:=d.q8 k;have f:=f.q8 k;have A:=j;refine wh 0 rfl i (eM rfl) (wh 2 rfl i (eM rfl) (wh 3 rfl i (eP rfl) (wh 4 rfl i (eF rfl) (wh 5 rfl i (λ_ B=>Ev.fZ rfl rfl (A.q8 B) rfl rfl) ?_))))
 try simp only[oL]
 refine wh 6 rfl i (eM rfl) (wh 7 rfl i (eP rfl) (wh 8 rfl i (eF rfl) (wh 9 rfl i (λ_ B=>Ev.fZ rfl rfl (A.q8 B) rfl rfl) ?_)))
 try simp only[oL]
 refine wh 10 rfl i (eM rfl) (wh 11 rfl i (eM rfl) ?_);refine WH.k7 1 rfl oR hasF78 rfl rfl (akx b S _ ⟨Y,Z,j,d,f⟩ ⟨J,I,H,G,F,C⟩) λv w4 q=>?_;obtain ⟨rfl,l⟩:=q;have a:=a.ta l;have d:=d.q8 l;have f:=f.q8 l;have i:=i.trans l;refine ⟨i,?_⟩;refine WH.k7 12 rfl oR hasF79 rfl rfl (momOf_spec S.V S.Q Y Z S.fin g mode _ d f y z (b4.q8 a)) λv w5 q=>?_;obtain ⟨⟨xb,xe,rfl,hR⟩,l⟩:=q;have a:=a.ta l;have i:=i.trans l;refine ⟨i,?_⟩;refine wh 13 rfl i (eX rfl rfl) (wh 14 rfl i (eX rfl rfl) (wh 15 rfl i (eA rfl) (wh 16 rfl i (eA rfl) ?_)));refine WH.done oR (a2 _ _ _ ?_);refine a3 ?_;refine zr (zr2 rfl rfl rfl ?_);refine ⟨⟨_,_,rfl,?_⟩,a⟩;exact .inr ⟨hl,.inr ⟨h0,.inr ⟨b5,.inr ⟨hf,hR⟩⟩⟩⟩
end
section
open Go Sx
theorem fieldsOf_of{P:Program}{t:TypeId}{a:Array Field}(h:P.underlying t=some (.struct a)):P.fieldsOf t=a:=by unfold Program.fieldsOf;rw[h]
theorem run_eqParts(e d:Bool)(c1 c2 i h g f:Int)(w:World):(Op.equalIn 10000 192 (.agg [.bool e,.int .i64 c1,.int .i64 i,.int .u64 g].toArray) (.agg [.bool d,.int .i64 c2,.int .i64 h,.int .u64 f].toArray)).run Tryz.prog w = .ok (e==d&&(c1==c2&&(i==h&&g==f))) w:=by
  have j:=Tryz.underlying192
  have k:=fieldsOf_of j
  have o:Tryz.prog.underlying 192=some (.struct (Program.fieldsOf Tryz.prog 192)):=by rw[k];exact j
  rw[run_equalIn_struct w 9999 _ _ _ o oR,k]
  have r:(isAgg 4).run Tryz.prog w = .ok false w:=(inferInstance:aJ Tryz.prog 4 _ _ _ _).isAgg
  have q:(isAgg 3).run Tryz.prog w = .ok false w:=(inferInstance:aJ Tryz.prog 3 _ _ _ _).isAgg
  have p:(isAgg 94).run Tryz.prog w = .ok false w:=(inferInstance:aJ Tryz.prog 94 _ _ _ _).isAgg
  have n : ∀ a b:Bool,(Op.equalIn 9999 4 (.bool a) (.bool b)).run Tryz.prog w = .ok (a==b) w:=λa b=>run_equalIn_bool' w 9998 _ a b Tryz.underlying4
  have m : ∀ a b:Int,(Op.equalIn 9999 3 (.int .i64 a) (.int .i64 b)).run Tryz.prog w = .ok (a==b) w:=λa b=>run_equalIn_int w 9998 _ .i64 .i64 a b Tryz.underlying3
  have l : ∀ a b:Int,(Op.equalIn 9999 94 (.int .u64 a) (.int .u64 b)).run Tryz.prog w = .ok (a==b) w:=λa b=>run_equalIn_int w 9998 _ .u64 .u64 a b Tryz.underlying94
  cases h1:(e==d)<;>cases h2:(c1==c2)<;>cases h3:(i==h)<;>cases h4:(g==f)<;>simp[Op.eqFields,part,r,q,p,n,m,l,h1,h2,h3,h4]
theorem Ev.eqlParts{s:Sl}{w:World}{ty t':TypeId}{x y:Operand}{b a:Bool}{c1 c2 g f e d:Int}(i:k6 s x=some (.agg [.bool b,.int .i64 c1,.int .i64 g,.int .u64 e].toArray))(h:k6 s y=some (.agg [.bool a,.int .i64 c2,.int .i64 f,.int .u64 d].toArray)):
    Ev Tryz.prog s (.binOp .eql 192 x y t') ty w (.bool (b==a&&(c1==c2&&(g==f&&e==d)))) w:=
  pQ i h (λ_ _=>run_eqGuard_agg _ _ _ _ _ _ _ oR) (by rw[run_eql_struct,run_eqParts];rfl)
end
section
open Go Sx Wd Fl
theorem parts_eq(n b:Bool)(c f:Nat)(e:Int):(n==b&&((c:Int)==0&&(e==e&&(f:Int)==0)))=((n==b)&&decide (c=0/\f=0)):=by
  have d:((c:Int)==0)=decide (c=0):=by rw[Bool.eq_iff_iff];simp
  have a:((f:Int)==0)=decide (f=0):=by rw[Bool.eq_iff_iff];simp
  rw[d,a,beq_self_eq_true,Bool.true_and,Bool.decide_and]
theorem cls0_frac{x:Nat}: (g6 x).cls=0->(g6 x).frac=0:=by
  unfold g6
  by_cases a:x/4503599627370496%2048=2047/\x%4503599627370496≠0
  · rw[if_pos a];simp
  · rw[if_neg a]
    by_cases b:x/4503599627370496%2048=2047
    · rw[if_pos b];simp
    · rw[if_neg b]
      by_cases d:0<x/4503599627370496%2048
      · rw[if_pos d];simp
      · rw[if_neg d]
        by_cases f:0<x%4503599627370496
        · rw[if_pos f];simp
        · rw[if_neg f];simp
theorem splitP_frac(x:Nat):(g6 x).frac<9007199254740992:=by
  unfold g6
  split
  · simp
  · split
    · simp
    · split
      · dsimp only;omega
      · split
        · dsimp only;omega
        · simp
theorem splitP_range(x:Nat): -5000<=(g6 x).exp/\(g6 x).exp<=5000:=by
  unfold g6
  split
  · simp
  · split
    · simp
    · split
      · dsimp only;omega
      · split
        · dsimp only;omega
        · simp
theorem dOf_spec(x:Nat)(w:World)(hx:x<18446744073709551616)(hg:GW w):Ret Tryz.prog 70 [.float .f64 x] w λu w'=>(((g6 x).cls<=2/\∃ r,u = .tuple [.agg [.bool (fQ (fvI x)).neg,r,.int .i64 (fQ (fvI x)).e].toArray,.int .i64 0].toArray/\NU w' r (wd (fQ (fvI x)).m))\/(¬(g6 x).cls<=2/\u = .tuple [.agg [.bool false,.slice none 0 0,.int .i64 0].toArray,.int .i64 30].toArray))/\Chg [] w w':=by
 have a:=crf w;refine zE1 Tryz.func70 rfl ?_;refine Sr λ_ c5=>?_;refine zAh rfl rfl a λb2 e4 b d2 d1 a5 a=>?_;refine za rfl (zz (c5 (Sr λ_ c4=>zm rfl ?_)));refine WL.call hasF132 rfl rfl (dxx x _ hx) λv w1 h'=>?_;obtain ⟨rfl,C⟩:=h';have a:=a.ta C;have b:=b.k0 C;refine WL.iZ (l:=[.bool false,.int .i64 0,.int .i64 0,.int .u64 0]) rfl rfl λb4 e3 f J G=>?_;have a4:=Nat.le_trans a.size G;have a:=a.ta J;have b9:=zdd b.lt G;have b:=b.k0 J;refine zss rfl rfl ao f rfl λe0 O I=>?_;(try simp only[qt] at O);have a:=a.s1 I;have b:=b.kq I;have f:=O;refine zz (c4 (Sr λ_ c3=>zf rfl (zl f rfl rfl ?_)));refine WL.ev (Ev.build (vs:=_) (cs:=[_,_,_,_]) rfl rfl) rfl ?_;refine WL.iZ (l:=[.bool false,.int .i64 0,.int .i64 0,.int .u64 0]) rfl rfl λb5 e2 h A y=>?_;have a3:=Nat.le_trans a.size y;have a:=a.ta A;have b8:=zdd b.lt y;have b:=b.k0 A;have b3:=zdd f.lt y;have f:=f.k0 A;refine zss rfl rfl ao h rfl λd9 M z=>?_;(try simp only[qt] at M);have a:=a.s1 z;have b:=b.kq z;have f:=f.kq z;have h:=M;refine zz (c3 (Sr λ_ c2=>zg h rfl ?_));refine WL.iZ (l:=[.bool false,.int .i64 0,.int .i64 0,.int .u64 0]) rfl rfl λb6 e1 B p k=>?_;have a2:=Nat.le_trans a.size k;have a:=a.ta p;have b7:=zdd b.lt k;have b:=b.k0 p;have b1:=zdd f.lt k;have f:=f.k0 p;have b0:=zdd h.lt k;have h:=h.k0 p;refine zss rfl rfl ao B rfl λd8 i o=>?_;(try simp only[qt] at i);have a:=a.s1 o;have b:=b.kq o;have f:=f.kq o;have h:=h.kq o;have B:=i;refine zz (c2 (Sr λ_ c1=>zf rfl ?_));refine WL.bJ rfl rfl o1 B oS rfl λd7 i n=>?_;(try simp only[qt] at i);have a:=a.s1 n;have b:=b.kq n;have f:=f.kq n;have h:=h.kq n;have B:=i;refine zz (c1 (zc λ_ a0=>CW.block ?_));refine CW.oX 14 (decide ((g6 x).cls=3\/(g6 x).cls=4)) ?_ ?_
 ·refine zS λ_ F=>zf rfl (zl f rfl rfl (zq rfl rfl (zm rfl ?_)));refine zb ?_ ?_<;>intro c7<;>try simp only[qs] at c7
  ·refine zv rfl (zv rfl (zv rfl (zt rfl rfl (za rfl (zz (F ?_))))));refine ⟨rfl,rfl,j0.g8 rfl ?_ ?_⟩
   ·first|(simp;omega)|(simp_all;done)|(refine decide_eq_decide.2 ?_;omega)
   exact SMg
  refine zw rfl (zf rfl (zw rfl (zl f rfl rfl (zw rfl (zq rfl rfl (ze rfl rfl (za rfl (zz (F ?_)))))))));refine ⟨rfl,rfl,j0.g8 rfl ?_ ?_⟩
  ·first|(simp;omega)|(simp_all;done)|(refine decide_eq_decide.2 ?_;omega)
  exact SMg
 refine zy rfl ?_ ?_<;>intro T<;>try simp only[qs] at T
 ·have a1 : ¬(g6 x).cls<=2:=by have:=T;omega
  refine Sr λ_ Z=>?_;refine WL.ev (Ev.build (vs:=_) (cs:=[_,_,_]) rfl rfl) rfl ?_;refine zss rfl rfl ao b rfl λd6 g a8=>?_;(try simp only[qt] at g);have a:=a.s1 a8;have b:=g;refine za rfl (zz (Z ?_));refine zr (k9.iX rfl (aZ.cell rfl (b.fJ rfl rfl)) (aZ.tmp rfl) ?_);exact ⟨.inr ⟨a1,rfl⟩,a⟩
 have a6:(g6 x).cls<=2:=by have:=T;have:=splitP_cls x;omega
 refine CW.oX 24 (decide ((g6 x).cls=0/\(g6 x).frac=0)) ?_ ?_
 ·refine zS λ_ D=>zg f rfl (zg h rfl ?_);refine WL.ev (Ev.eqlParts rfl rfl) rfl ?_;rw[parts_eq];refine zm rfl ?_;refine zb ?_ ?_<;>intro c6<;>try simp only[qs] at c6
  ·refine zv rfl (zv rfl (zv rfl (zt rfl rfl (za rfl (zz (D ?_))))));refine ⟨rfl,rfl,j0.g8 rfl ?_ ?_⟩
   ·generalize (g6 x).neg=nn at *
    by_cases hP:(g6 x).cls=0/\(g6 x).frac=0
    · (try rw[decide_eq_true hP] at *)<;>cases nn<;>simp_all
    (try rw[decide_eq_false hP] at *)<;>cases nn<;>simp_all
   exact SMg
  refine zw rfl (zg f rfl (zw rfl (zg B rfl (zw rfl ?_))));refine WL.ev (Ev.eqlParts rfl rfl) rfl ?_;rw[parts_eq];refine ze rfl rfl (za rfl (zz (D ?_)));refine ⟨rfl,rfl,j0.g8 rfl ?_ ?_⟩
  ·generalize (g6 x).neg=nn at *
   by_cases hP:(g6 x).cls=0/\(g6 x).frac=0
   · (try rw[decide_eq_true hP] at *)<;>cases nn<;>simp_all
   (try rw[decide_eq_false hP] at *)<;>cases nn<;>simp_all
  exact SMg
 refine zy rfl ?_ ?_<;>intro R<;>try simp only[qs] at R
 ·have hq:(g6 x).cls=0/\(g6 x).frac=0:=R
  refine Sr λ_ Y=>?_;refine WL.ev (Ev.build (vs:=_) (cs:=[_,_,_]) rfl rfl) rfl ?_;refine zss rfl rfl ao b rfl λd5 g a7=>?_;(try simp only[qt] at g);have a:=a.s1 a7;have b:=g;refine za rfl (zz (Y ?_));refine zr (k9.iX rfl (aZ.cell rfl (b.fJ rfl rfl)) (aZ.tmp rfl) ?_);refine ⟨.inl ⟨a6,?_⟩,a⟩;have hz:fvI x=0:=cnq oO;rw[hz];exact ⟨.slice none 0 0,rfl,by rw[show (fQ 0).m=0 from rfl,fX];exact NU.nil⟩
 have hq:(g6 x).cls=1\/(g6 x).cls=2:=by have:=R;have h2:=cls0_frac (x:=x);omega
 have c8:=fin_form hq;have e8:=splitP_frac x;have e9:=splitP_range x;refine zkk (a0 (zc λ_ X=>?_));refine CW.gJ 10 12 rfl dZ λc9 V s Q=>?_;have a:=a.ta Q;have b:=b.k0 Q;have f:=f.k0 Q;have j:=f;refine wk 0 rfl s (eF rfl) (wk 1 rfl s (λ_ t=>Ev.load rfl rfl ((j.q8 t).at_ rfl)) (wk 2 rfl s (eF rfl) (wk 3 rfl s (λ_ t=>Ev.load rfl rfl ((j.q8 t).at_ rfl)) (wk 5 rfl s (eF rfl) (wk 6 rfl s (λ_ t=>Ev.load rfl rfl ((j.q8 t).at_ rfl)) ?_)))));refine WK.k7 4 rfl oR hasF134 rfl rfl (b8j (g6 x).frac _ oO) λv w2 h'=>?_;obtain ⟨hN,C⟩:=h';have a:=a.ta C;have b:=b.k0 C;have s:=s.trans C;refine ⟨s,?_⟩;refine WK.k7 7 rfl oR hasF133 rfl rfl (abx (g6 x).neg _ (wd (g6 x).frac) (g6 x).exp _ hN (hg.q8 a) oO) λv w3 h'=>?_;obtain ⟨hD,C⟩:=h';rw[g7,c8] at hD;obtain ⟨r,d,hd,rfl,U⟩:=hD.resolve_right (λq=>by cases q.1);cases hd;have a:=a.ta C;have b:=b.k0 C;have s:=s.trans C;refine ⟨s,?_⟩;refine wk 8 rfl s (eX rfl rfl) (wk 9 rfl s (eX rfl rfl) ?_);refine WK.nZ 10 rfl oR oR rfl rfl rfl ao b oS rfl λd4 g H=>?_;(try simp only[qt] at g);have a:=a.s1 H;have U:=U.q9 b H an;have b:=g;refine WK.after 11 rfl oR oR (Ev.assign rfl) rfl ?_;refine WK.done oR (V _ _ _ ?_);refine X ?_;refine zr (k9.iX rfl (aZ.cell rfl (b.fJ rfl rfl)) (aZ.tmp rfl) ?_);exact ⟨.inl ⟨a6,r,rfl,U⟩,a⟩
def fdy(x:Nat):Dy:=if (g6 x).cls<=2 then fQ (fvI x) else Dy.zero
def Sh.one(x:Nat):Sh:=⟨a7q [x],fdy x,(gX (fdy x) (fdy x)).getD Dy.zero,x,x⟩
theorem sift_one(x:Nat):a2x [x] 0 0=0:=by
  unfold a2x
  rw[if_neg (λq=>q oD),if_neg oS,if_neg oO,if_neg oO]
theorem fdy_ok(x:Nat):(fdy x).ok:=by
  unfold fdy;split
  · exact a2q (dsq x)
  · exact b6x
theorem one_wf{x:Nat}(g:x<18446744073709551616):(Sh.one x).wf:=by
  refine ⟨?_,fdy_ok x,tZ λd h=>mJ h,g,g⟩
  show (countP SP.zero (k8 x)).le _
  have i:SP.zero.le 0:=by unfold SP.le;decide
  obtain ⟨a,b,c,d,e,f⟩:=countP.le (k:=k8 x) i
  exact ⟨by omega,by omega,by omega,by omega,by omega,by omega⟩
theorem bsq(b:Nat)(S:Sh)(x:Nat)(w:World)(hS:ShM 91 w b S)(c5:S.wf)(hx:x<18446744073709551616)(hg:GW w):Ret Tryz.prog 22 [.pointer (some ⟨b,0,none⟩),.float .f64 x] w λu w'=>(1099511627776<S.s.al+1/\u = .int .i64 2/\ShM 91 w' b S/\Chg [b] w w')\/(S.s.al+1<=1099511627776/\u = .int .i64 0/\ShM 91 w' b (S.merge (Sh.one x))/\Chg [b] w w'):=by
 have a:=crf w;have Q:=hg;have c8:=hS.lt;refine zE2 Tryz.func22 rfl ?_;refine Sr λ_ c2=>za rfl (zz (c2 (Sr λ_ c1=>zm rfl ?_)));refine WL.buildSlice (m:=1) (cs:=[bkx (x)]) oD oD rfl oR rfl λd3 b4 z=>?_;have U:=z.chg;have O:=z.ge;have C:FB b4 d3 _ [x]:=z.at_;have Z:=Nat.le_trans a.size O;have a:=a.ta U;refine WL.call hasF69 rfl rfl (Plain_spec _) λv w1 G=>?_;obtain ⟨rfl,p⟩:=G;have a:=a.ta p;have C:=C.k0 p;refine WL.call hasF68 rfl rfl (Sift_spec _ [x] 0 0 _ (NF.adx C.row (by intro y hy;rw[List.mem_singleton.1 hy];exact hx) oS rfl oS)) λv w2 G=>?_;obtain ⟨v2,e8,rfl,p⟩:=(G.resolve_left (λq=>q.1 (sift_one x))).2;obtain ⟨t,T⟩ : ∃ t,t=a7q [x]:=⟨_,rfl⟩;rw[<- T];unfold SP.cells;have a:=a.ta p;refine zm rfl (zx rfl rfl (zx rfl rfl (zx rfl rfl ?_)));refine WL.iZ (l:=[.int .i64 0,.int .i64 0,.int .i64 0,.int .i64 0,.int .i64 0,.int .i64 0]) rfl rfl λb6 e2 d a9 a7=>?_;have a5:=Nat.le_trans a.size a7;have a:=a.ta a9;refine za rfl ?_;refine zss rfl rfl ao d rfl λd6 M R=>?_;(try simp only[qt] at M);have a:=a.s1 R;have d:=M;refine za rfl (zz (c1 (Sr λ_ b9=>zm rfl ?_)));refine WL.call hasF70 rfl rfl (dOf_spec x _ hx (Q.q8 a)) λv w3 G=>?_;obtain ⟨hD,p⟩:=G;obtain ⟨F,hF⟩ : ∃ F,F=fdy x:=⟨_,rfl⟩;obtain ⟨rd,kd,rfl,f⟩ : ∃ rd kd,v = .tuple [.agg [.bool F.neg,rd,.int .i64 F.e].toArray,.int .i64 kd].toArray/\NU w3 rd (wd F.m):=by
  rw[hF];unfold fdy;rcases hD with ⟨hc,r,rfl,hN⟩|⟨hc,rfl⟩
  · rw[if_pos hc];exact ⟨r,0,rfl,hN⟩
  rw[if_neg hc];exact ⟨_,30,rfl,by rw[show Dy.zero.m=0 from rfl,fX];exact NU.nil⟩
 have o:F.ok:=by rw[hF];exact fdy_ok x
 have e6:=f.one;have a:=a.ta p;have d:=d.k0 p;refine zm rfl (zx rfl rfl (zx rfl rfl ?_));refine zAh rfl rfl a λb8 e1 g I a6 a4 a=>?_;have f:=f.q8 I;have b2:=zdd d.lt a6;have d:=d.k0 I;refine zss rfl rfl ao g rfl λd5 J n=>?_;(try simp only[qt] at J);have a:=a.s1 n;have d:=d.kq n;have f:=f.q9 g n an;have g:=J;refine za rfl (zz (b9 (Sr λ_ b7=>zg g rfl (zg g rfl ?_))));refine WL.call hasF71 rfl rfl (uX _ _ _ _ _ _ _ _ _ f f (Q.q8 a) (bX o) (bX o)) λv w4 G=>?_;obtain ⟨hD,p⟩:=G;rw[jJ o o] at hD;obtain ⟨rs,ks,rfl,j⟩:=hD.cells;obtain ⟨X,V⟩ : ∃ X,X=(gX F F).getD Dy.zero:=⟨_,rfl⟩;rw[<- V] at j;rw[<- V];have H:Sh.one x=⟨t,F,X,x,x⟩:=by unfold Sh.one;rw[V,hF,T]
 have c4:(Sh.mk t F X x x).wf:=H ▸ one_wf hx;have b0:t.al=1:=by rw[T];rfl
 have e5:=j.one;have a:=a.ta p;have d:=d.k0 p;have g:=g.k0 p;have f:=f.q8 p;refine zm rfl (zx rfl rfl (zx rfl rfl ?_));refine zAh rfl rfl a λf0 d8 k i A a0 a=>?_;have f:=f.q8 i;have j:=j.q8 i;have a3:=zdd d.lt A;have d:=d.k0 i;have a2:=zdd g.lt A;have g:=g.k0 i;refine zss rfl rfl ao k rfl λd4 D h=>?_;(try simp only[qt] at D);have a:=a.s1 h;have d:=d.kq h;have g:=g.kq h;have f:=f.q9 k h an;have j:=j.q9 k h an;have k:=D;refine za rfl (zz (b7 (Sr λ_ b5=>zm rfl (zg d rfl (zg g rfl (zg k rfl (zm rfl (zm rfl ?_))))))));refine WL.ev (Ev.build (vs:=_) (cs:=[.int .i64 (t.na:Int),.int .i64 (t.up:Int),.int .i64 (t.dn:Int),.int .i64 (t.mi:Int),.int .i64 (t.pl:Int),.int .i64 (t.al:Int),.bool F.neg,rd,.int .i64 F.e,.bool X.neg,rs,.int .i64 X.e,.float .f64 x,.float .f64 x]) rfl oR) rfl ?_;refine zBh rfl rfl rfl a λd2 d7 b1 B c6 Y a=>?_;have f:=f.q8 B;have j:=j.q8 B;refine WL.call hasF31 rfl rfl (bsx b d2 S ⟨t,F,X,x,x⟩ _ (hS.q8 a) c5 ⟨rd,rs,b1,f,j⟩ c4 (by have:=c8;omega) (Q.q8 a)) λv w5 G=>?_;dsimp only at G;rw[b0,<- H] at G;have a8:=G;refine za rfl (zz (b5 ?_));refine zr (zr1 rfl rfl ?_);rcases a8 with ⟨h1,rfl,h2,h3⟩|⟨h1,rfl,h2,h3⟩
 · exact .inl ⟨h1,rfl,h2,(Chg.any a).trans h3⟩
 exact .inr ⟨h1,rfl,h2,(Chg.any a).trans h3⟩
theorem atq{x:Nat}(h:isNaN x=false):place x=key x:=by
  unfold place key canon
  rw[h]
  simp
def Sh.num(S:Sh):Prop:=S.some->isNaN S.lo=false/\isNaN S.hi=false
theorem xQ(b:Nat)(S:Sh)(w:World)(q:ShM 148 w b S)(i:S.s.le 1099511627776):Ret Tryz.prog 89 [.pointer (some ⟨b,0,none⟩)] w λu w'=>u = .bool (decide S.some)/\Chg [] w w':=by
 obtain ⟨v,x,e,r,t⟩:=q;obtain ⟨p,o,n,m,l,k⟩:=i;have a:=crf w;refine zE1 Tryz.func89 rfl ?_;refine Sr λ_ h=>za rfl (zz (h (zc λ_ g=>?_)));refine CW.jQ dZ oR λj f d=>?_;have a:=a.ta d;have e:=e.q8 d;refine ym rfl (yP rfl (yf rfl (yf rfl ?_)));refine WS.ev (Ev.load rfl rfl (e.at_ rfl)) rfl ?_;refine ym rfl (yP rfl (yf rfl (yf rfl ?_)));refine WS.ev (Ev.load rfl rfl (e.at_ rfl)) rfl ?_;refine WS.ev (Ev.gtr rfl rfl) rfl ?_;refine ya rfl ?_;refine WS.nil (f _ _ ?_);refine g ?_;refine zr (zr1 rfl rfl ?_);refine ⟨congrArg Value.bool (decide_eq_decide.2 ?_),a⟩;unfold Sh.some;omega
theorem d0j(b:Nat)(S:Sh)(w:World)(n:ShM 148 w b S)(e:S.s.le 1099511627776):Ret Tryz.prog 44 [.pointer (some ⟨b,0,none⟩)] w λu w'=>u = .int .i64 (S.s.al:Int)/\Chg [] w w':=by
 obtain ⟨q,r,m,o,p⟩:=n;obtain ⟨l,k,j,i,h,g⟩:=e;have f:=crf w;refine zE1 Tryz.func44 rfl ?_;refine Sr λ_ d=>za rfl (zz (d (Sr λ_ a=>zm rfl (zP rfl (zf rfl (zf rfl (zl m rfl rfl (za rfl (zz (a ?_))))))))));refine zr (zr1 rfl rfl ?_);exact ⟨rfl,f⟩
theorem awq(s:SP)(w:World)(g:s.le 1099511627776):Ret Tryz.prog 107 [.agg [.int .i64 (s.na:Int),.int .i64 (s.up:Int),.int .i64 (s.dn:Int),.int .i64 (s.mi:Int),.int .i64 (s.pl:Int),.int .i64 (s.al:Int)].toArray] w λu w'=>u = .int .i64 ((s.al:Int)-s.na-s.up-s.dn)/\Chg [] w w':=by
 obtain ⟨p,o,n,m,l,k⟩:=g;have b:=crf w;refine zE1 Tryz.func107 rfl ?_;refine Sr λ_ f=>?_;refine zBh rfl rfl rfl b λq j a i h d b=>?_;refine za rfl (zz (f (Sr λ_ e=>zf rfl (zl a rfl rfl (zf rfl (zl a rfl rfl ?_))))));refine WL.ev (Ev.dX rfl rfl oO) rfl ?_;refine zf rfl (zl a rfl rfl ?_);refine WL.ev (Ev.dX rfl rfl oO) rfl ?_;refine zf rfl (zl a rfl rfl ?_);refine WL.ev (Ev.dX rfl rfl oO) rfl ?_;refine za rfl (zz (e ?_));refine zr (zr1 rfl rfl ?_);exact ⟨rfl,b⟩
theorem caq(s:SP)(w:World)(r:s.le 1099511627776):Ret Tryz.prog 156 [.agg [.int .i64 (s.na:Int),.int .i64 (s.up:Int),.int .i64 (s.dn:Int),.int .i64 (s.mi:Int),.int .i64 (s.pl:Int),.int .i64 (s.al:Int)].toArray] w λu w'=>u = .int .i64 ((s.al:Int)-s.na-s.up-s.dn-s.mi-s.pl)/\Chg [] w w':=by
 obtain ⟨q,p,o,n,m,l⟩:=r;have a:=crf w;refine zE1 Tryz.func156 rfl ?_;refine Sr λ_ k=>?_;refine zBh rfl rfl rfl a λD z f x t g a=>?_;refine za rfl (zz (k (zc λ_ j=>?_)));refine CW.cQ 9 rfl dZ λA i e h=>?_;have a:=a.ta h;have f:=f.k0 h;have b:=f;refine wh 0 rfl e (λ_ d=>Ev.rZ rfl rfl (b.q8 d) rfl) (wh 2 rfl e (eF rfl) (wh 3 rfl e (λ_ d=>Ev.load rfl rfl ((b.q8 d).at_ rfl)) (wh 5 rfl e (eF rfl) (wh 6 rfl e (λ_ d=>Ev.load rfl rfl ((b.q8 d).at_ rfl)) ?_))));refine WH.k7 1 rfl oR hasF107 rfl rfl (awq s _ ⟨q,p,o,n,m,l⟩) λv C B=>?_;obtain ⟨rfl,y⟩:=B;have a:=a.ta y;have e:=e.trans y;refine ⟨e,?_⟩;refine wh 4 rfl e (λ_ _=>Ev.dX rfl rfl oO) (wh 7 rfl e (λ_ _=>Ev.dX rfl rfl oO) (wh 8 rfl e (eA rfl) ?_));refine WH.done oR (i _ _ _ ?_);refine j ?_;refine zr (zr1 rfl rfl ?_);exact ⟨rfl,a⟩
theorem r21New_spec(w:World):Ret Tryz.prog 26 [] w λu w'=>(∃ b,u = .pointer (some ⟨b,0,none⟩)/\ShM 148 w' b Sh.zero/\w.heap.size<=b)/\Chg [] w w':=by
 have a:=crf w;refine zE0 Tryz.func26 rfl ?_;refine Sr λ_ f=>za rfl (zz (f (Sr λ_ e=>?_)));refine WL.ev (Ev.build (vs:=_) (cs:=[_,_,_,_,_,_,_,_,_,_,_,_,_,_]) rfl rfl) rfl ?_;refine zBh rfl rfl rfl a λk j g i h d a=>?_;refine za rfl (zz (e ?_));refine zr (zr1 rfl rfl ?_);refine ⟨⟨k,rfl,⟨_,_,g,?_,?_⟩,by omega⟩,a⟩
 · rw[show Sh.zero.V.m=0 from rfl,fX];exact NU.nil
 rw[show Sh.zero.Q.m=0 from rfl,fX];exact NU.nil
theorem bjq(b c:Nat)(S U:Sh)(w:World)(a:ShM 148 w b S)(d1:S.wf)(hU:ShM 148 w c U)(f3:U.wf)(i9:b≠c)(e0:S.num)(d9:U.num):Ret Tryz.prog 32 [.pointer (some ⟨b,0,none⟩),.pointer (some ⟨c,0,none⟩)] w λu w'=>(1099511627776<S.s.al+U.s.al/\u = .int .i64 2/\ShM 148 w' b S/\Chg [b] w w')\/(S.s.al+U.s.al<=1099511627776/\u = .int .i64 0/\ShM 148 w' b (S.merge U)/\Chg [b] w w'):=by
 obtain ⟨rv,rq,n,j,g⟩:=a;have k1:=n;have h1:=d1;obtain ⟨⟨d8,d7,d6,d5,d4,d3⟩,a0,a1,h3,h5⟩:=d1;obtain ⟨sv,sq,d,o,k⟩:=hU;obtain ⟨⟨f9,f8,f7,f6,f5,f4⟩,T,X,h2,h4⟩:=f3;have h:Chg [b] w w:=Chg.refl _ _;refine zE2 Tryz.func32 rfl ?_;refine Sr λ_ f2=>za rfl (zz (f2 (zc λ_ f1=>zc λ_ f0=>?_)));refine CW.jQ dZ oR λi8 e7 f=>?_;have h:=h.ta f;have n:=n.q8 f;have d:=d.q8 f;have j:=j.q8 f;have g:=g.q8 f;have o:=o.q8 f;have k:=k.q8 f;refine ym rfl (yP rfl (yf rfl (yf rfl ?_)));refine WS.ev (Ev.load rfl rfl (n.at_ rfl)) rfl ?_;refine ym rfl (yP rfl (yf rfl (yf rfl ?_)));refine WS.ev (Ev.load rfl rfl (d.at_ rfl)) rfl ?_;refine WS.ev (Ev.kQ rfl rfl oO) rfl ?_;refine WS.ev (Ev.gtr rfl rfl) rfl ?_;refine WS.nil (e7 _ _ ?_);refine f0 ?_;refine zy rfl ?_ ?_<;>intro b2<;>try simp only[qs] at b2
 ·have e3:1099511627776<S.s.al+U.s.al:=by have:=b2;omega
  refine Sr λ_ e9=>za rfl (zz (e9 ?_));refine zr (zr1 rfl rfl ?_);exact .inl ⟨e3,rfl,⟨_,_,n,j,g⟩,h⟩
 have d2:S.s.al+U.s.al<=1099511627776:=by have:=b2;omega
 refine zkk (f1 ?_);refine CW.anj (λD s' w'=>D=[]/\∃ B a8:Nat,B=(if U.some/\(¬S.some\/key U.lo<key S.lo) then U.lo else S.lo)/\a8=(if U.some/\(¬S.some\/key S.hi<key U.hi) then U.hi else S.hi)/\BK w' b 148 [.int .i64 (S.s.na:Int),.int .i64 (S.s.up:Int),.int .i64 (S.s.dn:Int),.int .i64 (S.s.mi:Int),.int .i64 (S.s.pl:Int),.int .i64 (S.s.al:Int),.bool S.V.neg,rv,.int .i64 S.V.e,.bool S.Q.neg,rq,.int .i64 S.Q.e,.float .f64 B,.float .f64 a8]/\NU w' rv (wd S.V.m)/\NU w' rq (wd S.Q.m)/\BK w' c 148 [.int .i64 (U.s.na:Int),.int .i64 (U.s.up:Int),.int .i64 (U.s.dn:Int),.int .i64 (U.s.mi:Int),.int .i64 (U.s.pl:Int),.int .i64 (U.s.al:Int),.bool U.V.neg,sv,.int .i64 U.V.e,.bool U.Q.neg,sq,.int .i64 U.Q.e,.float .f64 U.lo,.float .f64 U.hi]/\NU w' sv (wd U.V.m)/\NU w' sq (wd U.Q.m)/\Chg [b] w w'/\j0 [(0,.pointer (some ⟨b,0,none⟩)),(1,.pointer (some ⟨c,0,none⟩))] s') ?_ ?_
 ·refine Sr λ_ e8=>zm rfl ?_;refine WL.call hasF89 rfl rfl (xQ c U _ ⟨sv,sq,d,o,k⟩ ⟨f9,f8,f7,f6,f5,f4⟩) λv w1 Y=>?_;obtain ⟨rfl,C⟩:=Y;have h:=h.ta C;have n:=n.q8 C;have d:=d.q8 C;have j:=j.q8 C;have g:=g.q8 C;have o:=o.q8 C;have k:=k.q8 C;refine zz (e8 ?_);refine zy rfl ?_ ?_<;>intro b1<;>try simp only[qs] at b1
  ·have x:U.some:=by simpa using b1
   refine CW.anj (λD s' w'=>D=[]/\∃ B:Nat,B=(if U.some/\(¬S.some\/key U.lo<key S.lo) then U.lo else S.lo)/\BK w' b 148 [.int .i64 (S.s.na:Int),.int .i64 (S.s.up:Int),.int .i64 (S.s.dn:Int),.int .i64 (S.s.mi:Int),.int .i64 (S.s.pl:Int),.int .i64 (S.s.al:Int),.bool S.V.neg,rv,.int .i64 S.V.e,.bool S.Q.neg,rq,.int .i64 S.Q.e,.float .f64 B,.float .f64 S.hi]/\NU w' rv (wd S.V.m)/\NU w' rq (wd S.Q.m)/\BK w' c 148 [.int .i64 (U.s.na:Int),.int .i64 (U.s.up:Int),.int .i64 (U.s.dn:Int),.int .i64 (U.s.mi:Int),.int .i64 (U.s.pl:Int),.int .i64 (U.s.al:Int),.bool U.V.neg,sv,.int .i64 U.V.e,.bool U.Q.neg,sq,.int .i64 U.Q.e,.float .f64 U.lo,.float .f64 U.hi]/\NU w' sv (wd U.V.m)/\NU w' sq (wd U.Q.m)/\Chg [b] w w'/\j0 [(0,.pointer (some ⟨b,0,none⟩)),(1,.pointer (some ⟨c,0,none⟩))] s') ?_ ?_
   ·refine CW.azx 34 (decide (¬S.some\/key U.lo<key S.lo)) ?_ ?_
    ·intro p;refine CW.cQ 15 rfl dZ λh0 a5 a f=>?_;have p:=p.ta f;have n:=n.q8 f;have d:=d.q8 f;have j:=j.q8 f;have g:=g.q8 f;have r:=n;have t:=d;refine wh 0 rfl a (eM rfl) ?_;refine WH.k7 1 rfl oR hasF89 rfl rfl (xQ b S _ ⟨rv,rq,n,j,g⟩ ⟨d8,d7,d6,d5,d4,d3⟩) λv w2 Y=>?_;obtain ⟨rfl,C⟩:=Y;have p:=p.ta C;have a:=a.trans C;refine ⟨a,?_⟩
     by_cases hsm:S.some
     ·rw[show decide (Sh.some S)=true from decide_eq_true hsm];refine wh 2 rfl a (λ_ _=>Ev.not rfl) (wh 3 rfl a (eM rfl) (wg 4 rfl rfl rfl rfl rfl a (eM rfl) (wg 5 rfl rfl rfl rfl rfl a (eP rfl) (wg 6 rfl rfl rfl rfl rfl a (eF rfl) (wg 7 rfl rfl rfl rfl rfl a (λ_ i=>Ev.load rfl rfl ((t.q8 i).at_ rfl)) (wg 8 rfl rfl rfl rfl rfl a (eM rfl) (wg 9 rfl rfl rfl rfl rfl a (eP rfl) (wg 10 rfl rfl rfl rfl rfl a (eF rfl) (wg 11 rfl rfl rfl rfl rfl a (λ_ i=>Ev.load rfl rfl ((r.q8 i).at_ rfl)) ?_)))))))));refine WH.rX 12 rfl oR rfl rfl rfl rfl hasF99 rfl rfl (lQ U.lo S.lo oO oO _) λv w3 Y=>?_;obtain ⟨rfl,rfl⟩:=Y;rw[atq (d9 x).1,atq (e0 hsm).1];refine ⟨a,?_⟩;refine wg 13 rfl rfl rfl rfl rfl a (λ_ _=>Ev.lss rfl rfl) (wh 14 rfl a (λ_ _=>Ev.aox rfl rfl rfl) ?_);refine WH.done oR (a5 _ _ _ ?_);refine ⟨rfl,p,j0.g8 rfl ?_ ?_⟩
      ·first|exact (decide_eq_true (.inl hsm)).symm|exact decide_eq_decide.2 (by rw[bqx];exact ⟨.inr,λq=>q.resolve_left (λz=>z hsm)⟩)
      exact SMg
     rw[show decide (Sh.some S)=false from decide_eq_false hsm];refine wh 2 rfl a (λ_ _=>Ev.not rfl) (wh 3 rfl a (eM rfl) (wp 4 rfl rfl rfl rfl rfl a (wp 5 rfl rfl rfl rfl rfl a (wp 6 rfl rfl rfl rfl rfl a (wp 7 rfl rfl rfl rfl rfl a (wp 8 rfl rfl rfl rfl rfl a (wp 9 rfl rfl rfl rfl rfl a (wp 10 rfl rfl rfl rfl rfl a (wp 11 rfl rfl rfl rfl rfl a ?_)))))))));refine WH.a0x 12 rfl oR rfl rfl rfl rfl a rfl ?_;refine wp 13 rfl rfl rfl rfl rfl a (wh 14 rfl a (λ_ _=>Ev.aeq rfl rfl rfl) ?_);refine WH.done oR (a5 _ _ _ ?_);refine ⟨rfl,p,j0.g8 rfl ?_ ?_⟩
     ·first|exact (decide_eq_true (.inl hsm)).symm|exact decide_eq_decide.2 (by rw[bqx];exact ⟨.inr,λq=>q.resolve_left (λz=>z hsm)⟩)
     exact SMg
    intro wM p;have h:=h.ta p;have n:=n.q8 p;have d:=d.q8 p;have j:=j.q8 p;have g:=g.q8 p;have o:=o.q8 p;have k:=k.q8 p;refine zy rfl ?_ ?_<;>intro b0<;>try simp only[qs] at b0
    ·have hq : ¬S.some\/key U.lo<key S.lo:=by simpa using b0
     refine zS λ_ c5=>zm rfl (zm rfl (zP rfl (zf rfl (zl d rfl rfl (zP rfl (zf rfl ?_))))));refine WL.bJ rfl rfl o1 n oS rfl λi2 y J=>?_;(try simp only[qt] at y);have h:=h.s1 J;have d:=d.kq J;have j:=j.q9 n J an;have g:=g.q9 n J an;have o:=o.q9 n J an;have k:=k.q9 n J an;have n:=y;refine zz (c5 ?_);exact ⟨rfl,U.lo,(if_pos ⟨x,hq⟩).symm,n,j,g,d,o,k,h,(by first|((repeat (first|exact j0.refl|refine j0.oZ (by rfl) ?_));done)|((repeat (first|exact j0.nil|refine j0.cons rfl ?_));done))⟩
    have hq : ¬(¬S.some\/key U.lo<key S.lo):=by simpa using b0
    refine zkk ?_;exact ⟨rfl,S.lo,(if_neg (λq=>hq q.2)).symm,n,j,g,d,o,k,h,(by first|((repeat (first|exact j0.refl|refine j0.oZ (by rfl) ?_));done)|((repeat (first|exact j0.nil|refine j0.cons rfl ?_));done))⟩
   rintro _ s' wJ ⟨rfl,B,a3,n,j,g,d,o,k,h,Z⟩;refine CW.sub Z ?_;refine CW.azx 56 (decide (¬S.some\/key S.hi<key U.hi)) ?_ ?_
   ·intro p;refine CW.cQ 15 rfl dZ λg9 a4 a f=>?_;have p:=p.ta f;have n:=n.q8 f;have d:=d.q8 f;have j:=j.q8 f;have g:=g.q8 f;have r:=n;have t:=d;refine wh 0 rfl a (eM rfl) ?_;refine WH.k7 1 rfl oR hasF89 rfl rfl (xQ b ⟨S.s,S.V,S.Q,B,S.hi⟩ _ ⟨rv,rq,n,j,g⟩ ⟨d8,d7,d6,d5,d4,d3⟩) λv w4 Y=>?_;obtain ⟨rfl,C⟩:=Y;have p:=p.ta C;have a:=a.trans C;refine ⟨a,?_⟩
    by_cases hsm:S.some
    ·rw[show decide (Sh.some ⟨S.s,S.V,S.Q,B,S.hi⟩)=true from decide_eq_true hsm];refine wh 2 rfl a (λ_ _=>Ev.not rfl) (wh 3 rfl a (eM rfl) (wg 4 rfl rfl rfl rfl rfl a (eM rfl) (wg 5 rfl rfl rfl rfl rfl a (eP rfl) (wg 6 rfl rfl rfl rfl rfl a (eF rfl) (wg 7 rfl rfl rfl rfl rfl a (λ_ i=>Ev.load rfl rfl ((t.q8 i).at_ rfl)) (wg 8 rfl rfl rfl rfl rfl a (eM rfl) (wg 9 rfl rfl rfl rfl rfl a (eP rfl) (wg 10 rfl rfl rfl rfl rfl a (eF rfl) (wg 11 rfl rfl rfl rfl rfl a (λ_ i=>Ev.load rfl rfl ((r.q8 i).at_ rfl)) ?_)))))))));refine WH.rX 12 rfl oR rfl rfl rfl rfl hasF99 rfl rfl (lQ U.hi S.hi oO oO _) λv w5 Y=>?_;obtain ⟨rfl,rfl⟩:=Y;rw[atq (d9 x).2,atq (e0 hsm).2];refine ⟨a,?_⟩;refine wg 13 rfl rfl rfl rfl rfl a (λ_ _=>Ev.gtr rfl rfl) (wh 14 rfl a (λ_ _=>Ev.aox rfl rfl rfl) ?_);refine WH.done oR (a4 _ _ _ ?_);refine ⟨rfl,p,j0.g8 rfl ?_ ?_⟩
     ·first|exact (decide_eq_true (.inl hsm)).symm|exact decide_eq_decide.2 (by rw[afx];exact ⟨.inr,λq=>q.resolve_left (λz=>z hsm)⟩)
     exact SMg
    rw[show decide (Sh.some ⟨S.s,S.V,S.Q,B,S.hi⟩)=false from decide_eq_false hsm];refine wh 2 rfl a (λ_ _=>Ev.not rfl) (wh 3 rfl a (eM rfl) (wp 4 rfl rfl rfl rfl rfl a (wp 5 rfl rfl rfl rfl rfl a (wp 6 rfl rfl rfl rfl rfl a (wp 7 rfl rfl rfl rfl rfl a (wp 8 rfl rfl rfl rfl rfl a (wp 9 rfl rfl rfl rfl rfl a (wp 10 rfl rfl rfl rfl rfl a (wp 11 rfl rfl rfl rfl rfl a ?_)))))))));refine WH.a0x 12 rfl oR rfl rfl rfl rfl a rfl ?_;refine wp 13 rfl rfl rfl rfl rfl a (wh 14 rfl a (λ_ _=>Ev.aeq rfl rfl rfl) ?_);refine WH.done oR (a4 _ _ _ ?_);refine ⟨rfl,p,j0.g8 rfl ?_ ?_⟩
    ·first|exact (decide_eq_true (.inl hsm)).symm|exact decide_eq_decide.2 (by rw[afx];exact ⟨.inr,λq=>q.resolve_left (λz=>z hsm)⟩)
    exact SMg
   intro wM p;have h:=h.ta p;have n:=n.q8 p;have d:=d.q8 p;have j:=j.q8 p;have g:=g.q8 p;have o:=o.q8 p;have k:=k.q8 p;refine zy rfl ?_ ?_<;>intro a9<;>try simp only[qs] at a9
   ·have hq : ¬S.some\/key S.hi<key U.hi:=by simpa using a9
    refine zS λ_ c4=>zm rfl (zm rfl (zP rfl (zf rfl (zl d rfl rfl (zP rfl (zf rfl ?_))))));refine WL.bJ rfl rfl o1 n oS rfl λi1 y I=>?_;(try simp only[qt] at y);have h:=h.s1 I;have d:=d.kq I;have j:=j.q9 n I an;have g:=g.q9 n I an;have o:=o.q9 n I an;have k:=k.q9 n I an;have n:=y;refine zz (c4 ?_);exact ⟨rfl,B,U.hi,a3,(if_pos ⟨x,hq⟩).symm,n,j,g,d,o,k,h,(by first|((repeat (first|exact j0.refl|refine j0.oZ (by rfl) ?_));done)|((repeat (first|exact j0.nil|refine j0.cons rfl ?_));done))⟩
   have hq : ¬(¬S.some\/key S.hi<key U.hi):=by simpa using a9
   refine zkk ?_;exact ⟨rfl,B,S.hi,a3,(if_neg (λq=>hq q.2)).symm,n,j,g,d,o,k,h,(by first|((repeat (first|exact j0.refl|refine j0.oZ (by rfl) ?_));done)|((repeat (first|exact j0.nil|refine j0.cons rfl ?_));done))⟩
  have x : ¬U.some:=by simpa using b1
  refine zkk ?_;exact ⟨rfl,S.lo,S.hi,(if_neg (λq=>x q.1)).symm,(if_neg (λq=>x q.1)).symm,n,j,g,d,o,k,h,(by first|((repeat (first|exact j0.refl|refine j0.oZ (by rfl) ?_));done)|((repeat (first|exact j0.nil|refine j0.cons rfl ?_));done))⟩
 rintro _ s' wJ ⟨rfl,B,a8,a3,g2,n,j,g,d,o,k,h,Z⟩;refine CW.sub Z ?_;refine Sr λ_ d0=>zm rfl (zP rfl (zf rfl ?_));refine WL.ev (Ev.fZ (cs:=[.int .i64 (U.s.na:Int),.int .i64 (U.s.up:Int),.int .i64 (U.s.dn:Int),.int .i64 (U.s.mi:Int),.int .i64 (U.s.pl:Int),.int .i64 (U.s.al:Int)]) rfl rfl d rfl rfl) rfl ?_;refine WL.iZ (l:=[.int .i64 0,.int .i64 0,.int .i64 0,.int .i64 0,.int .i64 0,.int .i64 0]) rfl rfl λb5 i3 M G e2=>?_;have e1:=Nat.le_trans h.size e2;have h:=h.ta G;have j:=j.q8 G;have g:=g.q8 G;have o:=o.q8 G;have k:=k.q8 G;have g1:b≠b5:=by have:=n.lt;omega
 have n:=n.q8 G;have g0:c≠b5:=by have:=d.lt;omega
 have d:=d.q8 G;refine zss rfl rfl ao M rfl λi0 a6 F=>?_;(try simp only[qt] at a6);have h:=h.s1 F;have n:=n.kq F;have d:=d.kq F;have j:=j.q9 M F an;have g:=g.q9 M F an;have o:=o.q9 M F an;have k:=k.q9 M F an;have M:=a6;refine zz (d0 (zc λ_ c9=>?_));refine CW.gJ 52 53 rfl dZ λg5 c3 a f=>?_;have h:=h.ta f;have n:=n.q8 f;have d:=d.q8 f;have M:=M.k0 f;have j:=j.q8 f;have g:=g.q8 f;have o:=o.q8 f;have k:=k.q8 f;have r:=n;have t:=d;have A:=M;refine wk 0 rfl a (eM rfl) (wk 1 rfl a (eM rfl) (wk 2 rfl a (eP rfl) (wk 3 rfl a (eF rfl) (wk 4 rfl a (eF rfl) (wk 5 rfl a (λ_ i=>Ev.load rfl rfl ((r.q8 i).at_ rfl)) (wk 6 rfl a (eF rfl) (wk 7 rfl a (λ_ i=>Ev.load rfl rfl ((A.q8 i).at_ rfl)) (wk 8 rfl a (λ_ _=>Ev.kQ rfl rfl oO) (wk 9 rfl a (eM rfl) (wk 10 rfl a (eP rfl) (wk 11 rfl a (eF rfl) (wk 12 rfl a (eF rfl) (wk 13 rfl a (λ_ i=>Ev.load rfl rfl ((r.q8 i).at_ rfl)) (wk 14 rfl a (eF rfl) (wk 15 rfl a (λ_ i=>Ev.load rfl rfl ((A.q8 i).at_ rfl)) (wk 16 rfl a (λ_ _=>Ev.kQ rfl rfl oO) (wk 17 rfl a (eM rfl) (wk 18 rfl a (eP rfl) (wk 19 rfl a (eF rfl) (wk 20 rfl a (eF rfl) (wk 21 rfl a (λ_ i=>Ev.load rfl rfl ((r.q8 i).at_ rfl)) (wk 22 rfl a (eF rfl) (wk 23 rfl a (λ_ i=>Ev.load rfl rfl ((A.q8 i).at_ rfl)) ?_)))))))))))))))))))))));refine wk 24 rfl a (λ_ _=>Ev.kQ rfl rfl oO) (wk 25 rfl a (eM rfl) (wk 26 rfl a (eP rfl) (wk 27 rfl a (eF rfl) (wk 28 rfl a (eF rfl) (wk 29 rfl a (λ_ i=>Ev.load rfl rfl ((r.q8 i).at_ rfl)) (wk 30 rfl a (eF rfl) (wk 31 rfl a (λ_ i=>Ev.load rfl rfl ((A.q8 i).at_ rfl)) (wk 32 rfl a (λ_ _=>Ev.kQ rfl rfl oO) (wk 33 rfl a (eM rfl) (wk 34 rfl a (eP rfl) (wk 35 rfl a (eF rfl) (wk 36 rfl a (eF rfl) (wk 37 rfl a (λ_ i=>Ev.load rfl rfl ((r.q8 i).at_ rfl)) (wk 38 rfl a (eF rfl) (wk 39 rfl a (λ_ i=>Ev.load rfl rfl ((A.q8 i).at_ rfl)) (wk 40 rfl a (λ_ _=>Ev.kQ rfl rfl oO) (wk 41 rfl a (eM rfl) (wk 42 rfl a (eP rfl) (wk 43 rfl a (eF rfl) (wk 44 rfl a (eF rfl) (wk 45 rfl a (λ_ i=>Ev.load rfl rfl ((r.q8 i).at_ rfl)) (wk 46 rfl a (eF rfl) (wk 47 rfl a (λ_ i=>Ev.load rfl rfl ((A.q8 i).at_ rfl)) ?_)))))))))))))))))))))))
 refine wk 48 rfl a (λ_ _=>Ev.kQ rfl rfl oO) ?_;refine WK.take 49 rfl oR oR oR oR oR oR a (λw' i=>Ev.build (vs:=_) (cs:=[.int .i64 ((S.s.na:Int)+(U.s.na:Int)),.int .i64 ((S.s.up:Int)+(U.s.up:Int)),.int .i64 ((S.s.dn:Int)+(U.s.dn:Int)),.int .i64 ((S.s.mi:Int)+(U.s.mi:Int)),.int .i64 ((S.s.pl:Int)+(U.s.pl:Int)),.int .i64 ((S.s.al:Int)+(U.s.al:Int))]) rfl oR) rfl ?_;refine wt 50 rfl (λ_=>a) (λ_=>Ev.nilPtr rfl) (wk 51 rfl a (eF rfl) ?_);refine WK.nZ 52 rfl oR oR rfl rfl rfl ao n oS rfl λh9 y H=>?_;(try simp only[qt] at y);have h:=h.s1 H;have d:=d.kq H;have j:=j.q9 n H an;have g:=g.q9 n H an;have o:=o.q9 n H an;have k:=k.q9 n H an;have n:=y;refine WK.done oR (c3 _ _ _ ?_);refine c9 (zc λ_ c8=>?_);refine CW.gJ 15 16 rfl dZ λg4 c2 a f=>?_;have h:=h.ta f;have n:=n.q8 f;have d:=d.q8 f;have j:=j.q8 f;have g:=g.q8 f;have o:=o.q8 f;have k:=k.q8 f;have r:=n;have t:=d;refine wk 0 rfl a (eM rfl) (wk 1 rfl a (eM rfl) (wk 2 rfl a (eP rfl) (wk 3 rfl a (eF rfl) (wk 4 rfl a (λ_ i=>Ev.fZ rfl rfl (r.q8 i) rfl rfl) ?_))))
 try simp only[oL]
 refine wk 5 rfl a (eM rfl) (wk 6 rfl a (eP rfl) (wk 7 rfl a (eF rfl) (wk 8 rfl a (λ_ i=>Ev.fZ rfl rfl (t.q8 i) rfl rfl) ?_)))
 try simp only[oL]
 refine WK.k7 9 rfl oR hasF100 rfl rfl (bbx _ _ _ _ _ _ _ _ _ j o (bX a0) (bX T) (by have:=a0.len;omega) (by have:=T.len;omega)) λv w6 Y=>?_;obtain ⟨hD,C⟩:=Y;rw[jJ a0 T] at hD;obtain ⟨e6,i7,rfl,O⟩:=hD.cells;have h:=h.ta C;have n:=n.q8 C;have d:=d.q8 C;have g:=g.q8 C;have k:=k.q8 C;have a:=a.trans C;refine ⟨a,?_⟩;refine wk 10 rfl a (eM rfl) (wk 11 rfl a (eX rfl rfl) (wt 12 rfl (λ_=>a) (λ_=>Ev.extract rfl rfl) (wt 13 rfl (λ_=>a) (λ_=>Ev.nilPtr rfl) (wk 14 rfl a (eF rfl) ?_))));refine WK.nZ 15 rfl oR oR rfl rfl rfl ao n oS rfl λh8 y R=>?_;(try simp only[qt] at y);have h:=h.s1 R;have d:=d.kq R;have g:=g.q9 n R an;have k:=k.q9 n R an;have O:=O.q9 n R an;have n:=y;refine WK.done oR (c2 _ _ _ ?_);refine c8 (zc λ_ c7=>?_);refine CW.gJ 15 16 rfl dZ λg3 c1 a f=>?_;have h:=h.ta f;have n:=n.q8 f;have d:=d.q8 f;have g:=g.q8 f;have k:=k.q8 f;have O:=O.q8 f;have r:=n;have t:=d;refine wk 0 rfl a (eM rfl) (wk 1 rfl a (eM rfl) (wk 2 rfl a (eP rfl) (wk 3 rfl a (eF rfl) (wk 4 rfl a (λ_ i=>Ev.fZ rfl rfl (r.q8 i) rfl rfl) ?_))))
 try simp only[oL]
 refine wk 5 rfl a (eM rfl) (wk 6 rfl a (eP rfl) (wk 7 rfl a (eF rfl) (wk 8 rfl a (λ_ i=>Ev.fZ rfl rfl (t.q8 i) rfl rfl) ?_)))
 try simp only[oL]
 refine WK.k7 9 rfl oR hasF100 rfl rfl (bbx _ _ _ _ _ _ _ _ _ g k (bX a1) (bX X) (by have:=a1.len;omega) (by have:=X.len;omega)) λv w7 Y=>?_;obtain ⟨hD,C⟩:=Y;rw[jJ a1 X] at hD;obtain ⟨e5,i6,rfl,b3⟩:=hD.cells;have h:=h.ta C;have n:=n.q8 C;have O:=O.q8 C;have a:=a.trans C;refine ⟨a,?_⟩;refine wk 10 rfl a (eM rfl) (wk 11 rfl a (eX rfl rfl) (wt 12 rfl (λ_=>a) (λ_=>Ev.extract rfl rfl) (wt 13 rfl (λ_=>a) (λ_=>Ev.nilPtr rfl) (wk 14 rfl a (eF rfl) ?_))));refine WK.nZ 15 rfl oR oR rfl rfl rfl ao n oS rfl λh7 y a2=>?_;(try simp only[qt] at y);have h:=h.s1 a2;have O:=O.q9 n a2 an;have b3:=b3.q9 n a2 an;have n:=y;refine WK.done oR (c1 _ _ _ ?_);refine c7 (Sr λ_ c6=>za rfl (zz (c6 ?_)));refine zr (zr1 rfl rfl ?_);refine .inr ⟨d2,rfl,⟨e6,e5,?_,O,b3⟩,h⟩;unfold Sh.merge SP.add;dsimp only;rw[<- a3,<- g2];exact n
theorem aqj(b:Nat)(S:Sh)(w:World)(a:ShM 148 w b S)(c9:S.wf)(d1:S.num):Ret Tryz.prog 32 [.pointer (some ⟨b,0,none⟩),.pointer (some ⟨b,0,none⟩)] w λu w'=>(1099511627776<S.s.al+S.s.al/\u = .int .i64 2/\ShM 148 w' b S/\Chg [b] w w')\/(S.s.al+S.s.al<=1099511627776/\u = .int .i64 0/\ShM 148 w' b (S.merge S)/\Chg [b] w w'):=by
 obtain ⟨Z,rq,i,h,d⟩:=a;have g9:=i;have f4:=c9;obtain ⟨⟨a6,a5,a4,a3,a2,a1⟩,x,y,f5,f6⟩:=c9;have f:Chg [b] w w:=Chg.refl _ _;refine zE2 Tryz.func32 rfl ?_;refine Sr λ_ e3=>za rfl (zz (e3 (zc λ_ e2=>zc λ_ e1=>?_)));refine CW.jQ dZ oR λg5 d8 j=>?_;have f:=f.ta j;have i:=i.q8 j;have h:=h.q8 j;have d:=d.q8 j;refine ym rfl (yP rfl (yf rfl (yf rfl ?_)));refine WS.ev (Ev.load rfl rfl (i.at_ rfl)) rfl ?_;refine ym rfl (yP rfl (yf rfl (yf rfl ?_)));refine WS.ev (Ev.load rfl rfl (i.at_ rfl)) rfl ?_;refine WS.ev (Ev.kQ rfl rfl oO) rfl ?_;refine WS.ev (Ev.gtr rfl rfl) rfl ?_;refine WS.nil (d8 _ _ ?_);refine e1 ?_;refine zy rfl ?_ ?_<;>intro b2<;>try simp only[qs] at b2
 ·have d4:1099511627776<S.s.al+S.s.al:=by have:=b2;omega
  refine Sr λ_ e0=>za rfl (zz (e0 ?_));refine zr (zr1 rfl rfl ?_);exact .inl ⟨d4,rfl,⟨_,_,i,h,d⟩,f⟩
 have d0:S.s.al+S.s.al<=1099511627776:=by have:=b2;omega
 refine zkk (e2 ?_);refine CW.anj (λD s' w'=>D=[]/\∃ t a8:Nat,t=(if S.some/\(¬S.some\/key S.lo<key S.lo) then S.lo else S.lo)/\a8=(if S.some/\(¬S.some\/key S.hi<key S.hi) then S.hi else S.hi)/\BK w' b 148 [.int .i64 (S.s.na:Int),.int .i64 (S.s.up:Int),.int .i64 (S.s.dn:Int),.int .i64 (S.s.mi:Int),.int .i64 (S.s.pl:Int),.int .i64 (S.s.al:Int),.bool S.V.neg,Z,.int .i64 S.V.e,.bool S.Q.neg,rq,.int .i64 S.Q.e,.float .f64 t,.float .f64 a8]/\NU w' Z (wd S.V.m)/\NU w' rq (wd S.Q.m)/\Chg [b] w w'/\j0 [(0,.pointer (some ⟨b,0,none⟩)),(1,.pointer (some ⟨b,0,none⟩))] s') ?_ ?_
 ·refine Sr λ_ d9=>zm rfl ?_;refine WL.call hasF89 rfl rfl (xQ b S _ ⟨Z,rq,i,h,d⟩ ⟨a6,a5,a4,a3,a2,a1⟩) λv w1 O=>?_;obtain ⟨rfl,A⟩:=O;have f:=f.ta A;have i:=i.q8 A;have h:=h.q8 A;have d:=d.q8 A;refine zz (d9 ?_);refine zy rfl ?_ ?_<;>intro b1<;>try simp only[qs] at b1
  ·have o:S.some:=by simpa using b1
   have M:=o;rw[decide_eq_true o];refine CW.anj (λD s' w'=>D=[]/\∃ t:Nat,t=(if S.some/\(¬S.some\/key S.lo<key S.lo) then S.lo else S.lo)/\BK w' b 148 [.int .i64 (S.s.na:Int),.int .i64 (S.s.up:Int),.int .i64 (S.s.dn:Int),.int .i64 (S.s.mi:Int),.int .i64 (S.s.pl:Int),.int .i64 (S.s.al:Int),.bool S.V.neg,Z,.int .i64 S.V.e,.bool S.Q.neg,rq,.int .i64 S.Q.e,.float .f64 t,.float .f64 S.hi]/\NU w' Z (wd S.V.m)/\NU w' rq (wd S.Q.m)/\Chg [b] w w'/\j0 [(0,.pointer (some ⟨b,0,none⟩)),(1,.pointer (some ⟨b,0,none⟩))] s') ?_ ?_
   ·refine CW.azx 34 (decide (¬S.some\/key S.lo<key S.lo)) ?_ ?_
    ·intro n;refine CW.cQ 15 rfl dZ λf3 c3 a j=>?_;have n:=n.ta j;have i:=i.q8 j;have h:=h.q8 j;have d:=d.q8 j;have k:=i;refine wh 0 rfl a (eM rfl) ?_;refine WH.k7 1 rfl oR hasF89 rfl rfl (xQ b S _ ⟨Z,rq,i,h,d⟩ ⟨a6,a5,a4,a3,a2,a1⟩) λv w2 O=>?_;obtain ⟨rfl,A⟩:=O;rw[show decide (Sh.some S)=true from decide_eq_true o];have n:=n.ta A;have a:=a.trans A;refine ⟨a,?_⟩;refine wh 2 rfl a (λ_ _=>Ev.not rfl) (wh 3 rfl a (eM rfl) (wg 4 rfl rfl rfl rfl rfl a (eM rfl) (wg 5 rfl rfl rfl rfl rfl a (eP rfl) (wg 6 rfl rfl rfl rfl rfl a (eF rfl) (wg 7 rfl rfl rfl rfl rfl a (λ_ g=>Ev.load rfl rfl ((k.q8 g).at_ rfl)) (wg 8 rfl rfl rfl rfl rfl a (eM rfl) (wg 9 rfl rfl rfl rfl rfl a (eP rfl) (wg 10 rfl rfl rfl rfl rfl a (eF rfl) (wg 11 rfl rfl rfl rfl rfl a (λ_ g=>Ev.load rfl rfl ((k.q8 g).at_ rfl)) ?_)))))))));refine WH.rX 12 rfl oR rfl rfl rfl rfl hasF99 rfl rfl (lQ S.lo S.lo oO oO _) λv w3 O=>?_;obtain ⟨rfl,rfl⟩:=O;rw[atq (d1 M).1];refine ⟨a,?_⟩;refine wg 13 rfl rfl rfl rfl rfl a (λ_ _=>Ev.lss rfl rfl) (wh 14 rfl a (λ_ _=>Ev.aox rfl rfl rfl) ?_);refine WH.done oR (c3 _ _ _ ?_);refine ⟨rfl,n,j0.g8 rfl ?_ ?_⟩
     ·first|exact (decide_eq_true (.inl M)).symm|exact decide_eq_decide.2 (by rw[bqx];exact ⟨.inr,λq=>q.resolve_left (λz=>z M)⟩)
     exact SMg
    intro wM n;have f:=f.ta n;have i:=i.q8 n;have h:=h.q8 n;have d:=d.q8 n;refine zy rfl ?_ ?_<;>intro b0<;>try simp only[qs] at b0
    ·have hq : ¬S.some\/key S.lo<key S.lo:=by simpa using b0
     refine zS λ_ c2=>zm rfl (zm rfl (zP rfl (zf rfl (zl i rfl rfl (zP rfl (zf rfl ?_))))));refine WL.bJ rfl rfl o1 i oS rfl λf9 p U=>?_;(try simp only[qt] at p);have f:=f.s1 U;have h:=h.q9 i U an;have d:=d.q9 i U an;have i:=p;refine zz (c2 ?_);exact ⟨rfl,S.lo,(if_pos ⟨o,hq⟩).symm,i,h,d,f,(by first|((repeat (first|exact j0.refl|refine j0.oZ (by rfl) ?_));done)|((repeat (first|exact j0.nil|refine j0.cons rfl ?_));done))⟩
    have hq : ¬(¬S.some\/key S.lo<key S.lo):=by simpa using b0
    refine zkk ?_;exact ⟨rfl,S.lo,(if_neg (λq=>hq q.2)).symm,i,h,d,f,(by first|((repeat (first|exact j0.refl|refine j0.oZ (by rfl) ?_));done)|((repeat (first|exact j0.nil|refine j0.cons rfl ?_));done))⟩
   rintro _ s' wJ ⟨rfl,t,X,i,h,d,f,R⟩;refine CW.sub R ?_;refine CW.azx 56 (decide (¬S.some\/key S.hi<key S.hi)) ?_ ?_
   ·intro n;refine CW.cQ 15 rfl dZ λf2 c1 a j=>?_;have n:=n.ta j;have i:=i.q8 j;have h:=h.q8 j;have d:=d.q8 j;have k:=i;refine wh 0 rfl a (eM rfl) ?_;refine WH.k7 1 rfl oR hasF89 rfl rfl (xQ b ⟨S.s,S.V,S.Q,t,S.hi⟩ _ ⟨Z,rq,i,h,d⟩ ⟨a6,a5,a4,a3,a2,a1⟩) λv w4 O=>?_;obtain ⟨rfl,A⟩:=O;rw[show decide (Sh.some ⟨S.s,S.V,S.Q,t,S.hi⟩)=true from decide_eq_true o];have n:=n.ta A;have a:=a.trans A;refine ⟨a,?_⟩;refine wh 2 rfl a (λ_ _=>Ev.not rfl) (wh 3 rfl a (eM rfl) (wg 4 rfl rfl rfl rfl rfl a (eM rfl) (wg 5 rfl rfl rfl rfl rfl a (eP rfl) (wg 6 rfl rfl rfl rfl rfl a (eF rfl) (wg 7 rfl rfl rfl rfl rfl a (λ_ g=>Ev.load rfl rfl ((k.q8 g).at_ rfl)) (wg 8 rfl rfl rfl rfl rfl a (eM rfl) (wg 9 rfl rfl rfl rfl rfl a (eP rfl) (wg 10 rfl rfl rfl rfl rfl a (eF rfl) (wg 11 rfl rfl rfl rfl rfl a (λ_ g=>Ev.load rfl rfl ((k.q8 g).at_ rfl)) ?_)))))))));refine WH.rX 12 rfl oR rfl rfl rfl rfl hasF99 rfl rfl (lQ S.hi S.hi oO oO _) λv w5 O=>?_;obtain ⟨rfl,rfl⟩:=O;rw[atq (d1 M).2];refine ⟨a,?_⟩;refine wg 13 rfl rfl rfl rfl rfl a (λ_ _=>Ev.gtr rfl rfl) (wh 14 rfl a (λ_ _=>Ev.aox rfl rfl rfl) ?_);refine WH.done oR (c1 _ _ _ ?_);refine ⟨rfl,n,j0.g8 rfl ?_ ?_⟩
    ·first|exact (decide_eq_true (.inl M)).symm|exact decide_eq_decide.2 (by rw[afx];exact ⟨.inr,λq=>q.resolve_left (λz=>z M)⟩)
    exact SMg
   intro wM n;have f:=f.ta n;have i:=i.q8 n;have h:=h.q8 n;have d:=d.q8 n;refine zy rfl ?_ ?_<;>intro a9<;>try simp only[qs] at a9
   ·have hq : ¬S.some\/key S.hi<key S.hi:=by simpa using a9
    refine zS λ_ b9=>zm rfl (zm rfl (zP rfl (zf rfl (zl i rfl rfl (zP rfl (zf rfl ?_))))));refine WL.bJ rfl rfl o1 i oS rfl λf8 p T=>?_;(try simp only[qt] at p);have f:=f.s1 T;have h:=h.q9 i T an;have d:=d.q9 i T an;have i:=p;refine zz (b9 ?_);exact ⟨rfl,t,S.hi,X,(if_pos ⟨o,hq⟩).symm,i,h,d,f,(by first|((repeat (first|exact j0.refl|refine j0.oZ (by rfl) ?_));done)|((repeat (first|exact j0.nil|refine j0.cons rfl ?_));done))⟩
   have hq : ¬(¬S.some\/key S.hi<key S.hi):=by simpa using a9
   refine zkk ?_;exact ⟨rfl,t,S.hi,X,(if_neg (λq=>hq q.2)).symm,i,h,d,f,(by first|((repeat (first|exact j0.refl|refine j0.oZ (by rfl) ?_));done)|((repeat (first|exact j0.nil|refine j0.cons rfl ?_));done))⟩
  have o : ¬S.some:=by simpa using b1
  refine zkk ?_;exact ⟨rfl,S.lo,S.hi,(if_neg (λq=>o q.1)).symm,(if_neg (λq=>o q.1)).symm,i,h,d,f,(by first|((repeat (first|exact j0.refl|refine j0.oZ (by rfl) ?_));done)|((repeat (first|exact j0.nil|refine j0.cons rfl ?_));done))⟩
 rintro _ s' wJ ⟨rfl,t,a8,X,e5,i,h,d,f,R⟩;refine CW.sub R ?_;refine Sr λ_ c8=>zm rfl (zP rfl (zf rfl ?_));refine WL.ev (Ev.fZ (cs:=[.int .i64 (S.s.na:Int),.int .i64 (S.s.up:Int),.int .i64 (S.s.dn:Int),.int .i64 (S.s.mi:Int),.int .i64 (S.s.pl:Int),.int .i64 (S.s.al:Int)]) rfl rfl i rfl rfl) rfl ?_;refine WL.iZ (l:=[.int .i64 0,.int .i64 0,.int .i64 0,.int .i64 0,.int .i64 0,.int .i64 0]) rfl rfl λb5 g0 H J d3=>?_;have d2:=Nat.le_trans f.size d3;have f:=f.ta J;have h:=h.q8 J;have d:=d.q8 J;have e4:b≠b5:=by have:=i.lt;omega
 have i:=i.q8 J;refine zss rfl rfl ao H rfl λf7 Y I=>?_;(try simp only[qt] at Y);have f:=f.s1 I;have i:=i.kq I;have h:=h.q9 H I an;have d:=d.q9 H I an;have H:=Y;refine zz (c8 (zc λ_ c7=>?_));refine CW.gJ 52 53 rfl dZ λf1 b8 a j=>?_;have f:=f.ta j;have i:=i.q8 j;have H:=H.k0 j;have h:=h.q8 j;have d:=d.q8 j;have k:=i;have r:=H;refine wk 0 rfl a (eM rfl) (wk 1 rfl a (eM rfl) (wk 2 rfl a (eP rfl) (wk 3 rfl a (eF rfl) (wk 4 rfl a (eF rfl) (wk 5 rfl a (λ_ g=>Ev.load rfl rfl ((k.q8 g).at_ rfl)) (wk 6 rfl a (eF rfl) (wk 7 rfl a (λ_ g=>Ev.load rfl rfl ((r.q8 g).at_ rfl)) (wk 8 rfl a (λ_ _=>Ev.kQ rfl rfl oO) (wk 9 rfl a (eM rfl) (wk 10 rfl a (eP rfl) (wk 11 rfl a (eF rfl) (wk 12 rfl a (eF rfl) (wk 13 rfl a (λ_ g=>Ev.load rfl rfl ((k.q8 g).at_ rfl)) (wk 14 rfl a (eF rfl) (wk 15 rfl a (λ_ g=>Ev.load rfl rfl ((r.q8 g).at_ rfl)) (wk 16 rfl a (λ_ _=>Ev.kQ rfl rfl oO) (wk 17 rfl a (eM rfl) (wk 18 rfl a (eP rfl) (wk 19 rfl a (eF rfl) (wk 20 rfl a (eF rfl) (wk 21 rfl a (λ_ g=>Ev.load rfl rfl ((k.q8 g).at_ rfl)) (wk 22 rfl a (eF rfl) (wk 23 rfl a (λ_ g=>Ev.load rfl rfl ((r.q8 g).at_ rfl)) ?_)))))))))))))))))))))));refine wk 24 rfl a (λ_ _=>Ev.kQ rfl rfl oO) (wk 25 rfl a (eM rfl) (wk 26 rfl a (eP rfl) (wk 27 rfl a (eF rfl) (wk 28 rfl a (eF rfl) (wk 29 rfl a (λ_ g=>Ev.load rfl rfl ((k.q8 g).at_ rfl)) (wk 30 rfl a (eF rfl) (wk 31 rfl a (λ_ g=>Ev.load rfl rfl ((r.q8 g).at_ rfl)) (wk 32 rfl a (λ_ _=>Ev.kQ rfl rfl oO) (wk 33 rfl a (eM rfl) (wk 34 rfl a (eP rfl) (wk 35 rfl a (eF rfl) (wk 36 rfl a (eF rfl) (wk 37 rfl a (λ_ g=>Ev.load rfl rfl ((k.q8 g).at_ rfl)) (wk 38 rfl a (eF rfl) (wk 39 rfl a (λ_ g=>Ev.load rfl rfl ((r.q8 g).at_ rfl)) (wk 40 rfl a (λ_ _=>Ev.kQ rfl rfl oO) (wk 41 rfl a (eM rfl) (wk 42 rfl a (eP rfl) (wk 43 rfl a (eF rfl) (wk 44 rfl a (eF rfl) (wk 45 rfl a (λ_ g=>Ev.load rfl rfl ((k.q8 g).at_ rfl)) (wk 46 rfl a (eF rfl) (wk 47 rfl a (λ_ g=>Ev.load rfl rfl ((r.q8 g).at_ rfl)) ?_)))))))))))))))))))))))
 refine wk 48 rfl a (λ_ _=>Ev.kQ rfl rfl oO) ?_;refine WK.take 49 rfl oR oR oR oR oR oR a (λw' g=>Ev.build (vs:=_) (cs:=[.int .i64 ((S.s.na:Int)+(S.s.na:Int)),.int .i64 ((S.s.up:Int)+(S.s.up:Int)),.int .i64 ((S.s.dn:Int)+(S.s.dn:Int)),.int .i64 ((S.s.mi:Int)+(S.s.mi:Int)),.int .i64 ((S.s.pl:Int)+(S.s.pl:Int)),.int .i64 ((S.s.al:Int)+(S.s.al:Int))]) rfl oR) rfl ?_;refine wt 50 rfl (λ_=>a) (λ_=>Ev.nilPtr rfl) (wk 51 rfl a (eF rfl) ?_);refine WK.nZ 52 rfl oR oR rfl rfl rfl ao i oS rfl λe8 p G=>?_;(try simp only[qt] at p);have f:=f.s1 G;have h:=h.q9 i G an;have d:=d.q9 i G an;have i:=p;refine WK.done oR (b8 _ _ _ ?_);refine c7 (zc λ_ c6=>?_);refine CW.gJ 15 16 rfl dZ λf0 b7 a j=>?_;have f:=f.ta j;have i:=i.q8 j;have h:=h.q8 j;have d:=d.q8 j;have k:=i;refine wk 0 rfl a (eM rfl) (wk 1 rfl a (eM rfl) (wk 2 rfl a (eP rfl) (wk 3 rfl a (eF rfl) (wk 4 rfl a (λ_ g=>Ev.fZ rfl rfl (k.q8 g) rfl rfl) ?_))))
 try simp only[oL]
 refine wk 5 rfl a (eM rfl) (wk 6 rfl a (eP rfl) (wk 7 rfl a (eF rfl) (wk 8 rfl a (λ_ g=>Ev.fZ rfl rfl (k.q8 g) rfl rfl) ?_)))
 try simp only[oL]
 refine WK.k7 9 rfl oR hasF100 rfl rfl (bbx _ _ _ _ _ _ _ _ _ h h (bX x) (bX x) (by have:=x.len;omega) (by have:=x.len;omega)) λv w6 O=>?_;obtain ⟨hD,A⟩:=O;rw[jJ x x] at hD;obtain ⟨d7,g4,rfl,B⟩:=hD.cells;have f:=f.ta A;have i:=i.q8 A;have d:=d.q8 A;have a:=a.trans A;refine ⟨a,?_⟩;refine wk 10 rfl a (eM rfl) (wk 11 rfl a (eX rfl rfl) (wt 12 rfl (λ_=>a) (λ_=>Ev.extract rfl rfl) (wt 13 rfl (λ_=>a) (λ_=>Ev.nilPtr rfl) (wk 14 rfl a (eF rfl) ?_))));refine WK.nZ 15 rfl oR oR rfl rfl rfl ao i oS rfl λe7 p F=>?_;(try simp only[qt] at p);have f:=f.s1 F;have d:=d.q9 i F an;have B:=B.q9 i F an;have i:=p;refine WK.done oR (b7 _ _ _ ?_);refine c6 (zc λ_ c5=>?_);refine CW.gJ 15 16 rfl dZ λe9 b6 a j=>?_;have f:=f.ta j;have i:=i.q8 j;have d:=d.q8 j;have B:=B.q8 j;have k:=i;refine wk 0 rfl a (eM rfl) (wk 1 rfl a (eM rfl) (wk 2 rfl a (eP rfl) (wk 3 rfl a (eF rfl) (wk 4 rfl a (λ_ g=>Ev.fZ rfl rfl (k.q8 g) rfl rfl) ?_))))
 try simp only[oL]
 refine wk 5 rfl a (eM rfl) (wk 6 rfl a (eP rfl) (wk 7 rfl a (eF rfl) (wk 8 rfl a (λ_ g=>Ev.fZ rfl rfl (k.q8 g) rfl rfl) ?_)))
 try simp only[oL]
 refine WK.k7 9 rfl oR hasF100 rfl rfl (bbx _ _ _ _ _ _ _ _ _ d d (bX y) (bX y) (by have:=y.len;omega) (by have:=y.len;omega)) λv w7 O=>?_;obtain ⟨hD,A⟩:=O;rw[jJ y y] at hD;obtain ⟨d6,g3,rfl,b3⟩:=hD.cells;have f:=f.ta A;have i:=i.q8 A;have B:=B.q8 A;have a:=a.trans A;refine ⟨a,?_⟩;refine wk 10 rfl a (eM rfl) (wk 11 rfl a (eX rfl rfl) (wt 12 rfl (λ_=>a) (λ_=>Ev.extract rfl rfl) (wt 13 rfl (λ_=>a) (λ_=>Ev.nilPtr rfl) (wk 14 rfl a (eF rfl) ?_))));refine WK.nZ 15 rfl oR oR rfl rfl rfl ao i oS rfl λe6 p C=>?_;(try simp only[qt] at p);have f:=f.s1 C;have B:=B.q9 i C an;have b3:=b3.q9 i C an;have i:=p;refine WK.done oR (b6 _ _ _ ?_);refine c5 (Sr λ_ c4=>za rfl (zz (c4 ?_)));refine zr (zr1 rfl rfl ?_);refine .inr ⟨d0,rfl,⟨d7,d6,?_,B,b3⟩,f⟩;unfold Sh.merge SP.add;dsimp only;rw[<- X,<- e5];exact i
set_option exponentiation.threshold 9000
end
section
open Go Sx Wd Fl
theorem r6Count_spec(s:SP)(x:Nat)(w:World)(hs:s.le 1000000000000000)(hx:x<18446744073709551616):Ret Tryz.prog 94 [.agg [.int .i64 (s.na:Int),.int .i64 (s.up:Int),.int .i64 (s.dn:Int),.int .i64 (s.mi:Int),.int .i64 (s.pl:Int),.int .i64 (s.al:Int)].toArray,.float .f64 x] w λu w'=>u = .agg (countP s (k8 x)).cells.toArray/\Chg [] w w':=by
 have d7:=hs;obtain ⟨d6,d5,d4,d3,d2,d1⟩:=hs;have a:=crf w;have d8:=b7q x;refine zE2 Tryz.func94 rfl ?_;refine Sr λ_ a4=>?_;refine zBh rfl rfl rfl a λb2 c9 d b7 b6 U a=>?_;refine WL.iZ (l:=[.int .i64 0,.int .i64 0,.int .i64 0,.int .i64 0,.int .i64 0,.int .i64 0]) rfl rfl λb4 c8 b q j=>?_;have T:=Nat.le_trans a.size j;have a:=a.ta q;have a0:=zdd d.lt j;have d:=d.k0 q;refine zz (a4 (Sr λ_ a3=>zf rfl (zl d rfl rfl ?_)));(first|refine zi rfl rfl ?_|refine zo rfl rfl ?_);refine zf rfl ?_;refine WL.bJ rfl rfl o1 d oS rfl λc7 f p=>?_;(try simp only[qt] at f);have a:=a.s1 p;have b:=b.kq p;have d:=f;refine zz (a3 (zc λ_ h=>Sr λ_ a2=>zm rfl ?_));refine WL.call hasF161 rfl rfl (bzj x _ hx) λv w1 h'=>?_;obtain ⟨rfl,rfl⟩:=h';refine zz (a2 (CW.block (Sr λ_ a1=>zq rfl rfl (za rfl (zz (a1 ?_))))));refine zy rfl ?_ ?_<;>intro a9<;>try simp only[qs] at a9
 ·refine zR λ_ C=>?_
  refine zf rfl (zl d rfl rfl ?_);(first|refine zi rfl rfl ?_|refine zo rfl rfl ?_);refine zf rfl ?_;refine WL.bJ rfl rfl o1 d oS rfl λc6 f o=>?_;(try simp only[qt] at f);have a:=a.s1 o;have b:=b.kq o;have d:=f;refine WL.nil (C _ _ _ (h ?_));refine Sr λ_ R=>zg d rfl ?_;refine zss rfl rfl ao b rfl λc5 e Z=>?_;(try simp only[qt] at e);have a:=a.s1 Z;have b:=e;refine zz (R ?_);refine zr (k9.qJ rfl (aZ.cell rfl (b.fJ rfl rfl)) ?_);refine ⟨?_,a⟩;have g:k8 x=5:=by omega
  rw[g];simp[SP.cells,countP]
 refine Sr λ_ Q=>zq rfl rfl (za rfl (zz (Q ?_)));refine zy rfl ?_ ?_<;>intro a8<;>try simp only[qs] at a8
 ·refine zR λ_ B=>?_
  refine zf rfl (zl d rfl rfl ?_);(first|refine zi rfl rfl ?_|refine zo rfl rfl ?_);refine zf rfl ?_;refine WL.bJ rfl rfl o1 d oS rfl λc4 f n=>?_;(try simp only[qt] at f);have a:=a.s1 n;have b:=b.kq n;have d:=f;refine WL.nil (B _ _ _ (h ?_));refine Sr λ_ O=>zg d rfl ?_;refine zss rfl rfl ao b rfl λc3 e Y=>?_;(try simp only[qt] at e);have a:=a.s1 Y;have b:=e;refine zz (O ?_);refine zr (k9.qJ rfl (aZ.cell rfl (b.fJ rfl rfl)) ?_);refine ⟨?_,a⟩;have g:k8 x=3:=by omega
  rw[g];simp[SP.cells,countP]
 refine Sr λ_ M=>zq rfl rfl (za rfl (zz (M ?_)));refine zy rfl ?_ ?_<;>intro a7<;>try simp only[qs] at a7
 ·refine zR λ_ A=>?_
  refine zf rfl (zl d rfl rfl ?_);(first|refine zi rfl rfl ?_|refine zo rfl rfl ?_);refine zf rfl ?_;refine WL.bJ rfl rfl o1 d oS rfl λc2 f m=>?_;(try simp only[qt] at f);have a:=a.s1 m;have b:=b.kq m;have d:=f;refine WL.nil (A _ _ _ (h ?_));refine Sr λ_ J=>zg d rfl ?_;refine zss rfl rfl ao b rfl λc1 e X=>?_;(try simp only[qt] at e);have a:=a.s1 X;have b:=e;refine zz (J ?_);refine zr (k9.qJ rfl (aZ.cell rfl (b.fJ rfl rfl)) ?_);refine ⟨?_,a⟩;have g:k8 x=4:=by omega
  rw[g];simp[SP.cells,countP]
 refine Sr λ_ I=>zq rfl rfl (za rfl (zz (I ?_)));refine zy rfl ?_ ?_<;>intro a6<;>try simp only[qs] at a6
 ·refine zR λ_ z=>?_
  refine zf rfl (zl d rfl rfl ?_);(first|refine zi rfl rfl ?_|refine zo rfl rfl ?_);refine zf rfl ?_;refine WL.bJ rfl rfl o1 d oS rfl λb9 f k=>?_;(try simp only[qt] at f);have a:=a.s1 k;have b:=b.kq k;have d:=f;refine WL.nil (z _ _ _ (h ?_));refine Sr λ_ H=>zg d rfl ?_;refine zss rfl rfl ao b rfl λb8 e V=>?_;(try simp only[qt] at e);have a:=a.s1 V;have b:=e;refine zz (H ?_);refine zr (k9.qJ rfl (aZ.cell rfl (b.fJ rfl rfl)) ?_);refine ⟨?_,a⟩;have g:k8 x=1:=by omega
  rw[g];simp[SP.cells,countP]
 refine Sr λ_ G=>zq rfl rfl (za rfl (zz (G ?_)));refine zy rfl ?_ ?_<;>intro a5<;>try simp only[qs] at a5
 ·refine zR λ_ y=>?_
  refine zf rfl (zl d rfl rfl ?_);(first|refine zi rfl rfl ?_|refine zo rfl rfl ?_);refine zf rfl ?_;refine WL.bJ rfl rfl o1 d oS rfl λb3 f i=>?_;(try simp only[qt] at f);have a:=a.s1 i;have b:=b.kq i;have d:=f;refine WL.nil (y _ _ _ (h ?_));refine Sr λ_ F=>zg d rfl ?_;refine zss rfl rfl ao b rfl λb1 e t=>?_;(try simp only[qt] at e);have a:=a.s1 t;have b:=e;refine zz (F ?_);refine zr (k9.qJ rfl (aZ.cell rfl (b.fJ rfl rfl)) ?_);refine ⟨?_,a⟩;have g:k8 x=2:=by omega
  rw[g];simp[SP.cells,countP]
 refine zkk (h (Sr λ_ D=>zg d rfl ?_));refine zss rfl rfl ao b rfl λb0 e r=>?_
 (try simp only[qt] at e);have a:=a.s1 r
 have b:=e;refine zz (D ?_);refine zr (k9.qJ rfl (aZ.cell rfl (b.fJ rfl rfl)) ?_);refine ⟨?_,a⟩;have g:k8 x=0:=by omega
 rw[g];simp[SP.cells,countP]
theorem d0x(q:Bool)(l:Value)(z:List Nat)(v:Int)(w:World)(t:NU w l z):Ret Tryz.prog 188 [.agg [.bool q,l,.int .i64 v].toArray] w λu w'=>u = .agg [.bool (!q),l,.int .i64 v].toArray/\Chg [] w w':=by
 have a:=crf w;have C:=t;obtain ⟨⟨av,F,rfl,o,A⟩,D,B⟩:=t;refine zE1 Tryz.func188 rfl ?_;refine Sr λ_ n=>?_;refine zBh rfl rfl rfl a λH y b s r h a=>?_;refine zAh rfl rfl a λG x f j i g a=>?_;have k:=zdd b.lt i;have b:=b.k0 j;refine zz (n (Sr λ_ m=>zf rfl (zl b rfl rfl (zT rfl (zf rfl (zl b rfl rfl (zf rfl (zl b rfl rfl ?_))))))));refine WL.ev (Ev.build (vs:=_) (cs:=[_,_,_]) rfl rfl) rfl ?_;refine zss rfl rfl ao f rfl λp d e=>?_;(try simp only[qt] at d);have a:=a.s1 e;have f:=d;refine zz (m ?_);refine zr (k9.qJ rfl (aZ.cell rfl (f.fJ rfl rfl)) ?_);exact ⟨rfl,a⟩
theorem r3Sub_spec(na nb:Bool)(va vb:Value)(T R:List Nat)(Q O:Int)(w:World)(k:NU w va T)(j:NU w vb R)(Z : -9223372036854775808<=Q/\Q<=9223372036854775807)(Y : -9223372036854775808<=O/\O<=9223372036854775807)(X:T.length<=34359738368)(V:R.length<=34359738368):Ret Tryz.prog 111 [.agg [.bool na,va,.int .i64 Q].toArray,.agg [.bool nb,vb,.int .i64 O].toArray] w λu w'=>DR w' u (bix yQ (cX na (val T) Q) (cX (!nb) (val R) O))/\Chg [] w w':=by
 have a:=crf w;have b8:=k.one;have b7:=j.one;refine zE2 Tryz.func111 rfl ?_;refine Sr λ_ U=>?_;refine zBh rfl rfl rfl a λb2 b5 e p a9 F a=>?_;have k:=k.q8 p;have j:=j.q8 p;refine zBh rfl rfl rfl a λb3 b1 i n G D a=>?_;have k:=k.q8 n;have j:=j.q8 n;have M:=zdd e.lt G;have e:=e.k0 n;refine zAh rfl rfl a λb4 b0 b g o C a=>?_;have k:=k.q8 g;have j:=j.q8 g;have J:=zdd e.lt o;have e:=e.k0 g;have I:=zdd i.lt o;have i:=i.k0 g;refine za rfl (zz (U (zc λ_ B=>?_)));refine CW.gJ 6 8 rfl dZ λb6 A l h=>?_;have a:=a.ta h;have e:=e.k0 h;have i:=i.k0 h;have b:=b.k0 h;have k:=k.q8 h;have j:=j.q8 h;have x:=e;have t:=i;refine wk 0 rfl l (λ_ q=>Ev.rZ rfl rfl (x.q8 q) rfl) (wk 1 rfl l (λ_ q=>Ev.rZ rfl rfl (t.q8 q) rfl) ?_);refine WK.k7 2 rfl oR hasF188 rfl rfl (d0x _ _ _ _ _ j) λv w1 h'=>?_;obtain ⟨rfl,H⟩:=h';have a:=a.ta H;have b:=b.k0 H;have k:=k.q8 H;have j:=j.q8 H;have l:=l.trans H;refine ⟨l,?_⟩;refine WK.k7 3 rfl oR hasF100 rfl rfl (bbx _ _ _ _ _ _ _ _ _ k j Z Y X V) λv w2 h'=>?_;obtain ⟨a1,z⟩:=h';have a:=a.ta z;have b:=b.k0 z;have l:=l.trans z;refine ⟨l,?_⟩;rcases a1 with ⟨r,d,hd,rfl,y⟩|⟨hd,rfl⟩
 ·refine wk 4 rfl l (eX rfl rfl) (wk 5 rfl l (eX rfl rfl) ?_);refine WK.nZ 6 rfl oR oR rfl rfl rfl ao b oS rfl λa4 f m=>?_;(try simp only[qt] at f);have a:=a.s1 m;have y:=y.q9 b m an;have b:=f;refine WK.after 7 rfl oR oR (Ev.assign rfl) rfl ?_;refine WK.done oR (A _ _ _ ?_);refine B ?_;refine zr (k9.iX rfl (aZ.cell rfl (b.fJ rfl rfl)) (aZ.tmp rfl) ?_);exact ⟨.inl ⟨r,d,hd,rfl,y⟩,a⟩
 refine wk 4 rfl l (eX rfl rfl) (wk 5 rfl l (eX rfl rfl) ?_);refine WK.nZ 6 rfl oR oR rfl rfl rfl ao b oS rfl λa3 f s=>?_;(try simp only[qt] at f);have a:=a.s1 s;have b:=f;refine WK.after 7 rfl oR oR (Ev.assign rfl) rfl ?_;refine WK.done oR (A _ _ _ ?_);refine B ?_;refine zr (k9.iX rfl (aZ.cell rfl (b.fJ rfl rfl)) (aZ.tmp rfl) ?_);exact ⟨.inr ⟨hd,rfl⟩,a⟩
theorem mulD_zz:(gX Dy.zero Dy.zero).getD Dy.zero=Dy.zero:=by
  unfold gX
  rw[show Dy.zero.m*Dy.zero.m=0 from rfl,fX,if_neg oD,kX]
  rfl
theorem floatD_not{x:Nat}(d:x<18446744073709551616)(h : ¬(g6 x).cls<=2):dtq x=none:=by
  have e:=uJ d
  have a : ¬k8 x<=2:=λq=>h (b1j.1 q)
  have b:9218868437227405312<=x%9223372036854775808:=Classical.byContradiction λq=>a (by
    rw[e,if_neg oO,if_neg oO,if_neg oO]
    split
    · omega
    · split
      · omega
      · omega)
  unfold dtq dvj
  rw[if_pos b]
theorem c0j(b:Nat)(S:Sh)(x:Nat)(w:World)(hS:ShM 148 w b S)(a1:S.wf)(Q:x<18446744073709551616)(c5:S.num)(c6:(Sh.one x).num):Ret Tryz.prog 30 [.pointer (some ⟨b,0,none⟩),.float .f64 x] w λu w'=>(1099511627776<S.s.al+1/\u = .int .i64 2/\ShM 148 w' b S/\Chg [b] w w')\/(S.s.al+1<=1099511627776/\u = .int .i64 0/\ShM 148 w' b (S.merge (Sh.one x))/\Chg [b] w w'):=by
  have f:=crf w;have O:=hS;obtain ⟨rv,rq,y,f3,f4⟩:=hS;obtain ⟨e9,e8,e7,e6,e5,e4⟩:=a1.s;refine zE2 Tryz.func30 rfl ?_;refine Sr λ_ c1=>za rfl (zz (c1 (zc λ_ b9=>Sr λ_ b8=>zm rfl (zP rfl (zf rfl (zf rfl (zl y rfl rfl ?_)))))));refine WL.ev (Ev.geq rfl rfl) rfl ?_;refine zz (b8 ?_);refine zy rfl ?_ ?_<;>intro M<;>try simp only[qs] at M
  · have a9:1099511627776<S.s.al+1:=by have:=M;omega
    refine Sr λ_ b7=>za rfl (zz (b7 ?_));refine zr (zr1 rfl rfl ?_);exact .inl ⟨a9,rfl,O.q8 f,Chg.any f⟩
  have e0:S.s.al+1<=1099511627776:=by have:=M;omega
  refine zkk (b9 (Sr λ_ b5=>?_));refine WL.ev (Ev.build (vs:=_) (cs:=[_,_,_,_,_,_]) rfl rfl) rfl ?_;refine zm rfl ?_;refine WL.call hasF94 rfl rfl (r6Count_spec SP.zero x _ (by unfold SP.le;decide) Q) λv w1 A=>?_;obtain ⟨rfl,t⟩:=A;obtain ⟨j,I⟩ : ∃ j,j=countP SP.zero (k8 x):=⟨_,rfl⟩;rw[<- I];unfold SP.cells;have f:=f.ta t;have y:=y.q8 t;refine zm rfl (zm rfl ?_);refine WL.ev (Ev.build (vs:=_) (cs:=[.int .i64 (j.na:Int),.int .i64 (j.up:Int),.int .i64 (j.dn:Int),.int .i64 (j.mi:Int),.int .i64 (j.pl:Int),.int .i64 (j.al:Int),.bool false,.slice none 0 0,.int .i64 0,.bool false,.slice none 0 0,.int .i64 0,.float .f64 x,.float .f64 x]) rfl oR) rfl ?_;refine zBh rfl rfl rfl f λB d8 a J c8 R f=>?_;have b1:b≠B:=by have:=y.lt;omega
  have y:=y.q8 J;refine za rfl (zz (b5 (Sr λ_ a0=>zm rfl ?_)));refine WL.call hasF95 rfl rfl (r3Of_spec x _ Q) λv w2 A=>?_;obtain ⟨hD,t⟩:=A;obtain ⟨F,hF⟩ : ∃ F,F=fdy x:=⟨_,rfl⟩;have i:F.ok:=by rw[hF];exact fdy_ok x
  obtain ⟨rd,kd,rfl,g,c7⟩ : ∃ (rd:Value) (kd:Int),v = .tuple [.agg [.bool F.neg,rd,.int .i64 F.e].toArray,.int .i64 kd].toArray/\NU w2 rd (wd F.m)/\(kd=0\/(kd=30/\F=Dy.zero)):=by
    rw[hF];unfold fdy;rcases hD with ⟨r,d,H,rfl,hN⟩|⟨H,rfl⟩
    · have hc:(g6 x).cls<=2:=Classical.byContradiction λq=>by rw[floatD_not Q q] at H;cases H
      rw[dtx Q hc] at H;cases H;rw[if_pos hc];exact ⟨r,0,rfl,hN,.inl rfl⟩
    have hc : ¬(g6 x).cls<=2:=λq=>by rw[dtx Q q] at H;cases H
    rw[if_neg hc];exact ⟨_,30,rfl,by rw[show Dy.zero.m=0 from rfl,fX];exact NU.nil,.inr ⟨rfl,rfl⟩⟩
  have f1:=g.one;have f:=f.ta t;have y:=y.q8 t;have a:=a.k0 t;refine zm rfl (zx rfl rfl (zx rfl rfl ?_));refine zAh rfl rfl f λb6 e2 k C a5 a4 f=>?_;have g:=g.q8 C;have c3:b≠b6:=by have:=y.lt;omega
  have a3:=zdd a.lt a5;have a:=a.k0 C;refine zss rfl rfl ao k rfl λd7 G o=>?_;(try simp only[qt] at G);have f:=f.s1 o;have a:=a.kq o;have g:=g.q9 k o an;have k:=G;refine za rfl (zz (a0 ?_));refine CW.anj (λD s' w'=>D=[]/\(∃ T rt,BK w' B 148 [.int .i64 (j.na:Int),.int .i64 (j.up:Int),.int .i64 (j.dn:Int),.int .i64 (j.mi:Int),.int .i64 (j.pl:Int),.int .i64 (j.al:Int),.bool F.neg,T,.int .i64 F.e,.bool ((gX F F).getD Dy.zero).neg,rt,.int .i64 ((gX F F).getD Dy.zero).e,.float .f64 x,.float .f64 x]/\NU w' T (wd F.m)/\NU w' rt (wd ((gX F F).getD Dy.zero).m))/\Chg [] w w'/\j0 [(0,.pointer (some ⟨b,0,none⟩)),(5,.pointer (some ⟨B,0,none⟩))] s') ?_ ?_
  · refine Sr λ_ Z=>zm rfl (zq rfl rfl (zz (Z ?_)));refine zy rfl ?_ ?_<;>intro a8<;>try simp only[qs] at a8
    · refine Sr λ_ Y=>zm rfl (zg k rfl (zP rfl (zf rfl ?_)));refine zss rfl rfl ao a rfl λd6 h n=>?_
      (try simp only[qt] at h);have f:=f.s1 n
      have k:=k.kq n;have g:=g.q9 a n an;have a:=h;refine zz (Y (zS λ_ V=>zm rfl (zg k rfl (zg k rfl ?_))));refine WL.call hasF96 rfl rfl (sZ _ _ _ _ _ _ _ _ _ g g (bX i) (bX i) (by have:=i.len;omega) (by have:=i.len;omega)) λv w3 A=>?_;obtain ⟨hD,t⟩:=A;rw[jJ i i] at hD;obtain ⟨T,ks,rfl,z⟩:=hD.cells;have f0:=z.one;have f:=f.ta t;have a:=a.k0 t;have g:=g.q8 t;refine zm rfl (zx rfl rfl (zx rfl rfl (zP rfl (zf rfl ?_))));refine zss rfl rfl ao a rfl λd5 h l=>?_;(try simp only[qt] at h);have f:=f.s1 l;have g:=g.q9 a l an;have z:=z.q9 a l an;have a:=h;refine zz (V ?_);exact ⟨rfl,⟨_,_,a,g,z⟩,f,(by first|((repeat (first|exact j0.refl|refine j0.oZ (by rfl) ?_));done)|((repeat (first|exact j0.nil|refine j0.cons rfl ?_));done))⟩
    obtain ⟨-,d1⟩:=c7.resolve_left a8;subst d1;refine zkk ?_;rw[show (gX Dy.zero Dy.zero).getD Dy.zero=Dy.zero from mulD_zz];refine ⟨rfl,⟨_,_,a,?_,?_⟩,f,(by first|((repeat (first|exact j0.refl|refine j0.oZ (by rfl) ?_));done)|((repeat (first|exact j0.nil|refine j0.cons rfl ?_));done))⟩
    · rw[show Dy.zero.m=0 from rfl,fX];exact NU.nil
    rw[show Dy.zero.m=0 from rfl,fX];exact NU.nil
  rintro _ s' wJ ⟨rfl,⟨T,rt,a,d0,c9⟩,f,a2⟩;refine CW.sub a2 ?_;refine zc λ_ X=>?_;have p:Sh.one x=⟨j,F,(gX F F).getD Dy.zero,x,x⟩:=by unfold Sh.one;rw[hF,I];rfl
  have c2:(Sh.mk j F ((gX F F).getD Dy.zero) x x).wf:=p ▸ one_wf Q;have a7:j.al=1:=by rw[I];rfl
  have c4:(Sh.mk j F ((gX F F).getD Dy.zero) x x).num:=p ▸ c6;have f2:=O.lt;refine zR λ_ U=>?_;refine zm rfl (zm rfl ?_);refine WL.call hasF32 rfl rfl (bjq b B S ⟨j,F,(gX F F).getD Dy.zero,x,x⟩ _ (O.q8 f) a1 ⟨T,rt,a,d0,c9⟩ c2 oO c5 c4) λv w4 A=>?_;dsimp only at A;rw[a7,<- p] at A;have a6:=A;refine za rfl ?_;refine WL.nil (U _ _ _ (X ?_));refine zr (zr1 rfl rfl ?_);rcases a6 with ⟨h1,rfl,h2,h3⟩|⟨h1,rfl,h2,h3⟩
  · exact .inl ⟨h1,rfl,h2,(Chg.any f).trans h3⟩
  exact .inr ⟨h1,rfl,h2,(Chg.any f).trans h3⟩
theorem a5x(b:Nat)(S:Sh)(mode d e:Int)(w:World)(g:ShM 148 w b S)(C:S.wf):Ret Tryz.prog 103 [.pointer (some ⟨b,0,none⟩),.int .i64 mode,.agg [.int .i64 d,.int .i64 e].toArray] w λu w'=>u = .int .i64 (shE S.s mode d e)/\Chg [] w w':=by
 obtain ⟨rv,rq,h,a4,a5⟩:=g;obtain ⟨G,O,Q,R,T⟩:=C;obtain ⟨a2,a1,a0,Z,Y,X⟩:=G;have a:=crf w;refine zE3 Tryz.func103 rfl ?_;refine Sr λ_ B=>?_;refine zBh rfl rfl rfl a λb5 V f q U p a=>?_;have F:b≠b5:=by have:=h.lt;omega
 have h:=h.q8 q;refine za rfl (zz (B (Sr λ_ A=>zg f rfl ?_)));refine WL.call hasF180 rfl rfl (djq d e _) λv w1 J=>?_;obtain ⟨rfl,n⟩:=J;have a:=a.ta n;have h:=h.q8 n;have f:=f.k0 n;refine za rfl (zz (A (zc λ_ y=>?_)));refine CW.oX 19 (decide (¬((0<=mode/\mode<=4)/\yZ d e))) ?_ ?_
 ·refine zS λ_ i=>zm rfl (zL rfl rfl (zm rfl ?_));refine zb ?_ ?_<;>intro I<;>try simp only[qs] at I
  ·refine zv rfl (zv rfl (zt rfl rfl (zm rfl (zv rfl (zv rfl (zt rfl rfl (zz (i ?_))))))));refine ⟨rfl,rfl,j0.g8 rfl ?_ ?_⟩
   ·first|(simp_all;done)|(simp;omega)|(refine decide_eq_decide.2 ?_;omega)|(cases hdm:decide (yZ d e)<;>simp_all<;>omega)
   exact SMg
  refine zw rfl (zm rfl (zw rfl (zG rfl rfl (ze rfl rfl (zm rfl ?_)))));refine zb ?_ ?_<;>intro H<;>try simp only[qs] at H
  ·refine zv rfl (zv rfl (zt rfl rfl (zz (i ?_))));refine ⟨rfl,rfl,j0.g8 rfl ?_ ?_⟩
   ·first|(simp_all;done)|(simp;omega)|(refine decide_eq_decide.2 ?_;omega)|(cases hdm:decide (yZ d e)<;>simp_all<;>omega)
   exact SMg
  refine zw rfl (zm rfl (zw rfl (zT rfl (ze rfl rfl (zz (i ?_))))));refine ⟨rfl,rfl,j0.g8 rfl ?_ ?_⟩
  ·first|(simp_all;done)|(simp;omega)|(refine decide_eq_decide.2 ?_;omega)|(cases hdm:decide (yZ d e)<;>simp_all<;>omega)
  exact SMg
 refine zy rfl ?_ ?_<;>intro l<;>try simp only[qs] at l
 ·have D : ¬((0<=mode/\mode<=4)/\yZ d e):=l
  refine Sr λ_ x=>za rfl (zz (x ?_));refine zr (zr1 rfl rfl ?_);refine ⟨?_,a⟩;rw[show shE S.s mode d e=1 from if_pos D]
 have D : ¬¬((0<=mode/\mode<=4)/\yZ d e):=λz=>z l;have he:shE S.s mode d e=dzj S.s d e:=if_neg D;refine zkk (y (zc λ_ t=>?_));refine CW.cQ 7 rfl dZ λM o g k=>?_;have a:=a.ta k;have h:=h.q8 k;have f:=f.k0 k;have r:=h;have m:=f;refine wh 0 rfl g (eM rfl) (wh 1 rfl g (eP rfl) (wh 2 rfl g (eF rfl) (wh 3 rfl g (λ_ j=>Ev.fZ (cs:=[.int .i64 (S.s.na:Int),.int .i64 (S.s.up:Int),.int .i64 (S.s.dn:Int),.int .i64 (S.s.mi:Int),.int .i64 (S.s.pl:Int),.int .i64 (S.s.al:Int)]) rfl rfl (r.q8 j) rfl rfl) (wh 4 rfl g (λ_ j=>Ev.rZ rfl rfl (m.q8 j) rfl) ?_))));refine WH.k7 5 rfl oR hasF181 rfl rfl (djx S.s d e _ ⟨by omega,by omega,by omega,by omega,by omega,by omega⟩) λv w2 J=>?_;obtain ⟨rfl,n⟩:=J;have a:=a.ta n;have g:=g.trans n;refine ⟨g,?_⟩;refine wh 6 rfl g (eA rfl) ?_;refine WH.done oR (o _ _ _ ?_);refine t ?_;refine zr (zr1 rfl rfl ?_);rw[he];exact ⟨rfl,a⟩
theorem r21Mean_spec(b:Nat)(S:Sh)(mode k l:Int)(w:World)(f:ShM 148 w b S)(c4:S.wf):Ret Tryz.prog 37 [.pointer (some ⟨b,0,none⟩),.int .i64 mode,.agg [.int .i64 k,.int .i64 l].toArray] w λu w'=>(∃ x e,u = .tuple [.float .f64 x,.int .i64 e].toArray/\c8q S mode k l x e)/\Chg [] w w':=by
 obtain ⟨rv,rq,h,d,H⟩:=f;obtain ⟨c9,p,b2,b3,b4⟩:=c4;obtain ⟨b0,a9,a8,a7,a6,a5⟩:=c9;have a:=crf w;refine zE3 Tryz.func37 rfl ?_;refine Sr λ_ c3=>?_;refine zBh rfl rfl rfl a λb5 e1 j r d6 b6 a=>?_;have d:=d.q8 r;have H:=H.q8 r;have c8:b≠b5:=by have:=h.lt;omega
 have h:=h.q8 r;refine za rfl (za rfl (zz (c3 (Sr λ_ c2=>zm rfl (zm rfl (zg j rfl ?_))))));refine WL.call hasF103 rfl rfl (a5x b S mode k l _ ⟨rv,rq,h,d,H⟩ ⟨⟨b0,a9,a8,a7,a6,a5⟩,p,b2,b3,b4⟩) λv w1 y=>?_;obtain ⟨rfl,g⟩:=y;have a:=a.ta g;have h:=h.q8 g;have j:=j.k0 g;have d:=d.q8 g;refine za rfl (zz (c2 (zc λ_ c1=>Sr λ_ b9=>zm rfl (zN rfl rfl (zz (b9 ?_))))));refine zy rfl ?_ ?_<;>intro F<;>try simp only[qs] at F
 ·have I:shE S.s mode k l≠0:=F
  refine Sr λ_ b8=>zm rfl (za rfl (za rfl (zz (b8 ?_))));refine zr (zr2 rfl rfl rfl ?_);refine ⟨⟨_,_,rfl,?_⟩,a⟩;exact .inl ⟨I,rfl,rfl⟩
 have I:shE S.s mode k l=0:=by have:=F;omega
 refine zkk (c1 (zc λ_ a3=>?_));refine CW.cQ 11 rfl dZ λd3 M f i=>?_;have a:=a.ta i;have h:=h.q8 i;have j:=j.k0 i;have d:=d.q8 i;have t:=h;have G:=j;refine wh 0 rfl f (eM rfl) (wh 1 rfl f (eP rfl) (wh 2 rfl f (eF rfl) (wh 3 rfl f (λ_ o=>Ev.fZ (cs:=[.int .i64 (S.s.na:Int),.int .i64 (S.s.up:Int),.int .i64 (S.s.dn:Int),.int .i64 (S.s.mi:Int),.int .i64 (S.s.pl:Int),.int .i64 (S.s.al:Int)]) rfl rfl (t.q8 o) rfl rfl) (wh 4 rfl f (λ_ o=>Ev.rZ rfl rfl (G.q8 o) rfl) ?_))));refine WH.k7 5 rfl oR hasF104 rfl rfl (bzq S.s k l _ ⟨by omega,by omega,by omega,by omega,by omega,by omega⟩) λv w2 y=>?_;obtain ⟨rfl,g⟩:=y;have a4:=brq S.s k l;have a:=a.ta g;have h:=h.q8 g;have d:=d.q8 g;have f:=f.trans g;refine ⟨f,?_⟩;refine wh 6 rfl f (eM rfl) (wh 7 rfl f (eX rfl rfl) (wh 8 rfl f (eX rfl rfl) (wh 9 rfl f (eA rfl) (wh 10 rfl f (eA rfl) ?_))));refine WH.done oR (M _ _ _ ?_);refine a3 (zc λ_ a2=>Sr λ_ a1=>zm rfl (zz (a1 ?_)));refine zy rfl ?_ ?_<;>intro D<;>try simp only[qs] at D
 ·obtain ⟨x,c6,e5,c5⟩ : ∃ x,lZ S.s k l = .some x/\(lZ S.s k l).isSome=true/\(lZ S.s k l).getD 0=x:=a4.resolve_right (λq=>by have:=D;rw[q.2] at this;exact Bool.false_ne_true this);rw[c5]
  refine Sr λ_ a0=>zm rfl (za rfl (za rfl (zz (a0 ?_))));refine zr (zr2 rfl rfl rfl ?_);refine ⟨⟨_,_,rfl,?_⟩,a⟩;exact .inr ⟨I,.inl ⟨x,c6,rfl,rfl⟩⟩
 have hv:lZ S.s k l = .none:=by
  rcases a4 with ⟨_,_,q2,_⟩|q
  · have:=D;rw[q2] at this;exact absurd this oD
  exact q.1
 refine zkk (a2 (Sr λ_ Z=>zm rfl (zP rfl (zf rfl ?_))));refine WL.ev (Ev.fZ (cs:=[.int .i64 (S.s.na:Int),.int .i64 (S.s.up:Int),.int .i64 (S.s.dn:Int),.int .i64 (S.s.mi:Int),.int .i64 (S.s.pl:Int),.int .i64 (S.s.al:Int)]) rfl rfl h rfl rfl) rfl ?_;refine WL.call hasF107 rfl rfl (awq S.s _ ⟨b0,a9,a8,a7,a6,a5⟩) λv w3 y=>?_;obtain ⟨rfl,g⟩:=y;rw[show ((S.s.al:Int)-S.s.na-S.s.up-S.s.dn)=S.fin from rfl];have a:=a.ta g;have h:=h.q8 g;have d:=d.q8 g;refine za rfl (zz (Z (zc λ_ Y=>Sr λ_ X=>zm rfl (zq rfl rfl (zz (X ?_))))));refine zy rfl ?_ ?_<;>intro C<;>try simp only[qs] at C
 ·have z:S.fin=0:=C
  refine Sr λ_ U=>za rfl (za rfl (zz (U ?_)));refine zr (zr2 rfl rfl rfl ?_);refine ⟨⟨_,_,rfl,?_⟩,a⟩;exact .inr ⟨I,.inr ⟨hv,.inl ⟨z,rfl,rfl⟩⟩⟩
 have z:S.fin≠0:=C;refine zkk (Y (zc λ_ T=>Sr λ_ R=>zm rfl (zP rfl (zf rfl (zf rfl ?_)))));obtain ⟨⟨d1,d0,b1,d7,d4⟩,d8,d5⟩:=id d;refine WL.ev (Ev.load (v:=.slice d1 (wd S.V.m).length d0) rfl rfl (by rw[<- b1];exact h.at_ rfl)) rfl ?_;refine zn rfl (zq rfl rfl (zz (R ?_)));refine zy rfl ?_ ?_<;>intro B<;>try simp only[qs] at B
 ·have A:S.V.m=0:=rJ.1 (List.length_eq_zero_iff.1 (by have:=B;omega));refine Sr λ_ Q=>zm rfl (zP rfl (zf rfl ?_));refine WL.ev (Ev.fZ (cs:=[.int .i64 (S.s.na:Int),.int .i64 (S.s.up:Int),.int .i64 (S.s.dn:Int),.int .i64 (S.s.mi:Int),.int .i64 (S.s.pl:Int),.int .i64 (S.s.al:Int)]) rfl rfl h rfl rfl) rfl ?_
  refine zm rfl ?_;refine WL.call hasF105 rfl rfl (cax S.s mode _ ⟨by omega,by omega,by omega,by omega,by omega,by omega⟩) λv w4 y=>?_;obtain ⟨rfl,g⟩:=y;have a:=a.ta g;refine za rfl (za rfl (zz (Q ?_)));refine zr (zr2 rfl rfl rfl ?_);refine ⟨⟨_,_,rfl,?_⟩,a⟩;exact .inr ⟨I,.inr ⟨hv,.inr ⟨z,.inl ⟨A,rfl,rfl⟩⟩⟩⟩
 have A:S.V.m≠0:=λq=>by have h9:=B;rw[q,fX] at h9;exact h9 rfl
 refine zkk (T (zc λ_ O=>?_));refine CW.cQ 13 rfl dZ λd2 J f i=>?_;have a:=a.ta i;have h:=h.q8 i;have d:=d.q8 i;have t:=h;refine wh 0 rfl f (eM rfl) (wh 1 rfl f (eP rfl) (wh 2 rfl f (eF rfl) (wh 3 rfl f (λ_ o=>Ev.fZ rfl rfl (t.q8 o) rfl rfl) ?_)))
 try simp only[oL]
 refine wh 4 rfl f (eM rfl) (wh 7 rfl f (eM rfl) ?_);refine WH.k7 5 rfl oR hasF109 rfl rfl (baj S.fin _ (by unfold Sh.fin;omega)) λv w5 y=>?_;obtain ⟨⟨ri,rfl,b7⟩,g⟩:=y;have e6:=b7.one;have a:=a.ta g;have d:=d.q8 g;have f:=f.trans g;refine ⟨f,?_⟩;refine wh 6 rfl f (λ_ _=>Ev.build (vs:=_) (cs:=[_,_,_,_,_,_]) rfl rfl) ?_;refine WH.k7 8 rfl oR hasF108 rfl rfl (clj _ _ _ _ _ _ _ _ mode _ d b7 (bX p) (bX (xZ (by unfold Sh.fin;omega))) (by have:=p.len;omega) (by have:=(xZ (n:=S.fin) (by unfold Sh.fin;omega)).len;omega)) λv w6 y=>?_;obtain ⟨⟨xb,xe,rfl,hR⟩,g⟩:=y;rw[g7,g7] at hR;have a:=a.ta g;have f:=f.trans g;refine ⟨f,?_⟩;refine wh 9 rfl f (eX rfl rfl) (wh 10 rfl f (eX rfl rfl) (wh 11 rfl f (eA rfl) (wh 12 rfl f (eA rfl) ?_)));refine WH.done oR (J _ _ _ ?_);refine O ?_;refine zr (zr2 rfl rfl rfl ?_);refine ⟨⟨_,_,rfl,?_⟩,a⟩;exact .inr ⟨I,.inr ⟨hv,.inr ⟨z,.inr ⟨A,hR⟩⟩⟩⟩
theorem c0q(b:Nat)(S:Sh)(x:Nat)(w:World)(T:ShM 148 w b S)(p:S.wf):Ret Tryz.prog 112 [.pointer (some ⟨b,0,none⟩),.float .f64 x] w λu w'=>u = .tuple [.float .f64 (bxx S x).1,.int .i64 (bxx S x).2].toArray/\Chg [] w w':=by
 obtain ⟨Q,R,i,C,D⟩:=T;obtain ⟨B,H,I,J,M⟩:=p;obtain ⟨A,z,y,t,r,q⟩:=B;have a:=crf w;refine zE2 Tryz.func112 rfl ?_;refine Sr λ_ o=>za rfl (za rfl (zz (o (Sr λ_ n=>zm rfl ?_))));refine WL.call hasF89 rfl rfl (xQ b S _ ⟨Q,R,i,C,D⟩ ⟨A,z,y,t,r,q⟩) λv V G=>?_;obtain ⟨rfl,O⟩:=G;have a:=a.ta O;have i:=i.q8 O;refine za rfl (zz (n (zc λ_ m=>CW.block (Sr λ_ l=>zm rfl (zP rfl (zf rfl (zf rfl (zl i rfl rfl (zq rfl rfl (za rfl (zz (l ?_))))))))))));refine zy rfl ?_ ?_<;>intro e<;>try simp only[qs] at e
 ·have j:S.s.al=0:=by have:=e;omega
  refine Sr λ_ k=>za rfl (za rfl (zz (k ?_)));refine zr (zr2 rfl rfl rfl ?_);refine ⟨?_,a⟩;rw[show bxx S x=(0,3) from if_pos j]
 have j : ¬S.s.al=0:=by have:=e;omega
 refine Sr λ_ h=>zm rfl (zT rfl (za rfl (zz (h ?_))));refine zy rfl ?_ ?_<;>intro d<;>try simp only[qs] at d
 ·have F : ¬S.some:=by simpa using d
  refine Sr λ_ g=>?_;refine WL.call hasF110 rfl rfl (bsj _) λv U G=>?_;obtain ⟨rfl,rfl⟩:=G;refine za rfl (za rfl (zz (g ?_)));refine zr (zr2 rfl rfl rfl ?_);refine ⟨?_,a⟩;rw[show bxx S x=(9221120237041090560,0) from (if_neg j).trans (if_pos F)]
 have F : ¬¬S.some:=by simpa using d
 refine zkk (m (Sr λ_ f=>zm rfl (za rfl (za rfl (zz (f ?_))))));refine zr (zr2 rfl rfl rfl ?_);refine ⟨?_,a⟩;rw[show bxx S x=(x,0) from (if_neg j).trans (if_neg F)]
theorem First_spec(b:Nat)(S:Sh)(w:World)(z:ShM 148 w b S)(j:S.wf):Ret Tryz.prog 39 [.pointer (some ⟨b,0,none⟩)] w λu w'=>u = .tuple [.float .f64 (bxx S S.lo).1,.int .i64 (bxx S S.lo).2].toArray/\Chg [] w w':=by
 obtain ⟨x,y,t,r,s⟩:=z;obtain ⟨q,d,e,f,g⟩:=j;obtain ⟨p,o,n,m,l,k⟩:=q;have a:=crf w;refine zE1 Tryz.func39 rfl ?_;refine Sr λ_ i=>za rfl (za rfl (zz (i (Sr λ_ h=>zm rfl (zm rfl (zP rfl (zf rfl (zl t rfl rfl ?_))))))));refine WL.call hasF112 rfl rfl (c0q b S S.lo _ ⟨x,y,t,r,s⟩ ⟨⟨p,o,n,m,l,k⟩,d,e,f,g⟩) λv C B=>?_;obtain ⟨rfl,A⟩:=B;have a:=a.ta A;refine zx rfl rfl (zx rfl rfl (za rfl (za rfl (zz (h ?_)))));refine zr (zr2 rfl rfl rfl ?_);exact ⟨rfl,a⟩
theorem Last_spec(b:Nat)(S:Sh)(w:World)(z:ShM 148 w b S)(j:S.wf):Ret Tryz.prog 40 [.pointer (some ⟨b,0,none⟩)] w λu w'=>u = .tuple [.float .f64 (bxx S S.hi).1,.int .i64 (bxx S S.hi).2].toArray/\Chg [] w w':=by
 obtain ⟨x,y,t,r,s⟩:=z;obtain ⟨q,d,e,f,g⟩:=j;obtain ⟨p,o,n,m,l,k⟩:=q;have a:=crf w;refine zE1 Tryz.func40 rfl ?_;refine Sr λ_ i=>za rfl (za rfl (zz (i (Sr λ_ h=>zm rfl (zm rfl (zP rfl (zf rfl (zl t rfl rfl ?_))))))));refine WL.call hasF112 rfl rfl (c0q b S S.hi _ ⟨x,y,t,r,s⟩ ⟨⟨p,o,n,m,l,k⟩,d,e,f,g⟩) λv C B=>?_;obtain ⟨rfl,A⟩:=B;have a:=a.ta A;refine zx rfl rfl (zx rfl rfl (za rfl (za rfl (zz (h ?_)))));refine zr (zr2 rfl rfl rfl ?_);exact ⟨rfl,a⟩
end
section
open Go Sx Wd
theorem sgn_sw(a b:Nat):sgn a b = -sgn b a:=by unfold sgn;split<;>split<;>(try split)<;>omega
theorem cmp_num1{m k:Nat}{e:Int}(a:k<18446744073709551616):c3j (aoq k) (pZ k) m e=sgn (2*nz k*dyB e) (dyA m e):=by
  have h:=cmp_num (x:=m) (y:=1) (ex:=e) (ey:=0) a
  rwa [Nat.mul_one,Int.add_zero,Int.sub_zero,Nat.one_mul] at h
theorem cmp_mid1{m k d:Nat}{e:Int}(g:k<9223372036854775808)(i:(d:Int)=pZ (k+1)-pZ k):c3j (m*2) e (aoq k+aoq (k+1)*2^d) (pZ k)=sgn (dyA m e) ((nz k+nz (k+1))*dyB e):=by
  have h:=cmp_mid (x:=m) (y:=1) (ex:=e) (ey:=0) g i
  rw[Nat.mul_one,Int.add_zero,Int.sub_zero,Nat.one_mul] at h
  generalize aoq k+aoq (k+1)*2^d=s at *
  rw[sgn_sw,<- h]
  obtain ⟨a,b,f⟩ : ∃ a b:Nat,(a:Int)-b=e-pZ k:=by
    rcases Int.le_total e (pZ k) with q|q
    · exact ⟨0,(pZ k-e).toNat,by omega⟩
    · exact ⟨(e-pZ k).toNat,0,by omega⟩
  rw[coj (a:=a) (b:=b) f,coj (a:=b) (b:=a+1) oO,<- sgn_sw,Nat.mul_assoc,Nat.pow_succ,Nat.mul_comm 2]
structure KBl(x:Dy)(A B:Nat)(w0:World)(b3:Nat)(vn:Value)(g:Nat×Nat)(w:World):Prop where
  lt:g.1<g.2
  le:g.2<=9218868437227405312
  lo:2*nz g.1*B<=A
  hi:A<2*nz g.2*B\/g.2=9218868437227405312
  h3:BK w b3 219 [.int .i64 53,.int .i64 (-1074),.int .u64 9218868437227405312]
  hn:NU w vn (wd x.m)
  ch:Chg [] w0 w
theorem r3below_spec(x:Dy)(F:Value)(w:World)(h:NU w F (wd x.m))(Y:x.ok):Ret Tryz.prog 234 [.agg [.int .i64 53,.int .i64 (-1074),.int .u64 9218868437227405312].toArray,F,.int .i64 x.e] w λu w'=>∃ f:Nat,u = .int .u64 (f:Int)/\f<9218868437227405312/\2*nz f*dyB x.e<=dyA x.m x.e/\(dyA x.m x.e<2*nz (f+1)*dyB x.e\/f+1=9218868437227405312)/\Chg [] w w':=by
 have a:=crf w;have a5:=h.one;obtain ⟨A,hA⟩ : ∃ A,A=dyA x.m x.e:=⟨_,rfl⟩;obtain ⟨B,hB⟩ : ∃ B,B=dyB x.e:=⟨_,rfl⟩;rw[<- hA,<- hB];refine zE3 Tryz.func234 rfl ?_;refine Sr λ_ O=>?_;refine zBh rfl rfl rfl a λb3 a4 d C a0 z a=>?_;have h:=h.q8 C;refine za rfl (zz (O (Sr λ_ M=>za rfl (zz (M (Sr λ_ J=>zf rfl (zl d rfl rfl (za rfl (zz (J (zc λ_ I=>CW.block ?_)))))))))));refine CW.loop (S:=λg:Nat×Nat=>[(1,F),(2,.int .i64 x.e),(3,.pointer (some ⟨b3,0,none⟩)),(7,.int .u64 (g.1:Int)),(8,.int .u64 (g.2:Int))]) (Inv:=KBl x A B w b3 F) (mu:=λg=>g.2-g.1) ((0,9218868437227405312)) ?_ ?_ ?_
 ·exact ⟨by decide,Nat.le_refl _,by rw[show nz 0=0 from rfl,Nat.mul_zero,Nat.zero_mul];exact Nat.zero_le _,.inr rfl,d,h,a⟩
 ·exact SLp
 rintro ⟨f,t⟩ wr ⟨T,Z,i,k,d,h,a⟩;dsimp only at T Z i k;dsimp only;refine zc λ_ H=>Sr λ_ G=>zm rfl (zm rfl ?_)
 first|refine WL.ev (Ev.bfx rfl rfl oO oO) rfl ?_|refine WL.ev (Ev.czj rfl rfl oO) rfl ?_
 refine zG rfl rfl (zz (G ?_));refine zy rfl ?_ ?_<;>intro U<;>try simp only[qs] at U
 ·have R:f<(f+t)/2:=by omega
  have Q:(f+t)/2<t:=by omega
  refine zkk (H (CW.block (Sr λ_ y=>zm rfl (zm rfl ?_))))
  first|refine WL.ev (Ev.iJ rfl rfl oO) rfl ?_|refine WL.ev (Ev.abq rfl rfl) rfl ?_
  refine WL.ev (Ev.dlq (b:=2) rfl rfl oO (jX oO).2) rfl ?_;refine za rfl (zz (y (Sr λ_ s=>zg d rfl (zm rfl ?_))));refine WL.call hasF226 rfl rfl (qZ ((f+t)/2) _ oO) λv w1 X=>?_;obtain ⟨⟨va,rfl,V⟩,l⟩:=X;have a:=a.ta l;have d:=d.k0 l;have h:=h.q8 l;refine zm rfl (zx rfl rfl (zx rfl rfl (za rfl (za rfl (zz (s (Sr λ_ r=>zm rfl (zm rfl (zm rfl (zm rfl ?_))))))))));refine WL.call hasF225 rfl rfl (aax _ _ _ _ _ _ _ V h (by have:=a1j ((f+t)/2) oO;omega) (ok_e Y) (by have:=bgj ((f+t)/2);omega) (by have:=Y.len;omega)) λv w2 X=>?_;obtain ⟨rfl,l⟩:=X;rw[g7,g7,cmp_num1 oO,<- hB,<- hA];have a:=a.ta l;have d:=d.k0 l;have h:=h.q8 l;refine zQ rfl rfl (zz (r ?_));refine zy rfl ?_ ?_<;>intro D<;>try simp only[qs] at D
  ·have j:2*nz ((f+t)/2)*B<=A:=bjx.1 D
   refine zS λ_ o=>zm rfl (za rfl (zz (o ?_)));refine ⟨rfl,((f+t)/2,t),?_,?_,?_⟩
   ·exact SLp
   ·exact ⟨Q,Z,j,k,d,h,a⟩
   show t-(f+t)/2<t-f;omega
  have j:A<2*nz ((f+t)/2)*B:=Nat.lt_of_not_le λq=>by have:=bjx.2 q;omega
  refine zS λ_ n=>zm rfl (za rfl (zz (n ?_)));refine ⟨rfl,(f,(f+t)/2),?_,?_,?_⟩
  ·exact SLp
  ·exact ⟨R,by dsimp only;omega,i,.inl j,d,h,a⟩
  show (f+t)/2-f<t-f;omega
 have et:t=f+1:=by omega
 subst et;refine CW.exit ?_;refine I (Sr λ_ p=>zm rfl (za rfl (zz (p ?_))));refine zr (zr1 rfl rfl ?_);exact ⟨f,rfl,by omega,i,k,a⟩
theorem r3half_spec(k:Nat)(x:Dy)(U:Value)(w:World)(g:NU w U (wd x.m))(V:x.ok)(hk:k<9218868437227405312):Ret Tryz.prog 235 [.agg [.int .i64 53,.int .i64 (-1074),.int .u64 9218868437227405312].toArray,.int .u64 (k:Int),U,.int .i64 x.e] w λu w'=>u = .int .i64 (sgn (dyA x.m x.e) ((nz k+nz (k+1))*dyB x.e))/\Chg [] w w':=by
 have a:=crf w;have a5:=g.one;have a8:=cuq k;have a9:=a1j k oO;have a7:=bgj k;have a6:=bgj (k+1);have a2:=V.len;have M:=ok_e V;obtain ⟨d,t⟩ : ∃ d:Nat,(d:Int)=pZ (k+1)-pZ k:=⟨(pZ (k+1)-pZ k).toNat,by omega⟩;refine zE4 Tryz.func235 rfl ?_;refine Sr λ_ J=>?_;refine zBh rfl rfl rfl a λb4 a0 o z X s a=>?_;have g:=g.q8 z;refine za rfl (zz (J (Sr λ_ I=>zg o rfl (zm rfl ?_))));refine WL.call hasF226 rfl rfl (qZ (k) _ oO) λv w1 n=>?_;obtain ⟨⟨va,rfl,l⟩,f⟩:=n;have a:=a.ta f;have o:=o.k0 f;have g:=g.q8 f;refine zm rfl (zx rfl rfl (zx rfl rfl (za rfl (za rfl (zz (I (Sr λ_ H=>zg o rfl (zm rfl ?_))))))))
 first|refine WL.ev (Ev.iJ (b:=1) rfl rfl oO) rfl ?_|refine WL.ev (Ev.abq (b:=1) rfl rfl) rfl ?_
 refine WL.call hasF226 rfl rfl (qZ (k+1) _ oO) λv w2 n=>?_;obtain ⟨⟨vb,rfl,R⟩,f⟩:=n;have a:=a.ta f;have g:=g.q8 f;have l:=l.q8 f;refine zm rfl (zx rfl rfl (zx rfl rfl (za rfl (za rfl (zz (H (zc λ_ G=>Sr λ_ F=>zm rfl (zm rfl (zL rfl rfl (zz (F ?_)))))))))));refine zy rfl ?_ ?_<;>intro A<;>try simp only[qs] at A
 ·exact absurd A oO
 refine zkk (G (Sr λ_ r=>zm rfl (zm rfl (zm rfl (zm rfl ?_)))));refine WL.ev (Ev.dX rfl rfl oO) rfl ?_;rw[<- t];refine WL.call hasF172 rfl rfl (aaq _ _ _ R d oO oO) λv w3 n=>?_;obtain ⟨C,f,hF⟩:=n;rw[g7] at C;have Q:(wd (aoq (k+1)*2^d)).length<=3:=aX.2 (by have h7:=b6q (k+1);have h8:2^d<=2^1:=Nat.pow_le_pow_right oD oO;have T:=Nat.mul_le_mul (Nat.le_of_lt h7) h8;omega);have a:=a.ta f;have g:=g.q8 f;have l:=l.q8 f;refine WL.call hasF173 rfl rfl (b0q _ _ _ _ _ l C oO oO) λv w4 n=>?_;obtain ⟨i,f,hF⟩:=n;rw[g7,g7] at i;have a3:(wd (aoq k+aoq (k+1)*2^d)).length<=4:=aX.2 (by have h5:=b6q k;have h6:=aX.1 Q;omega);have a:=a.ta f;have g:=g.q8 f;refine za rfl (zz (r (Sr λ_ q=>zm rfl ?_)));refine WL.buildSlice (m:=1) (cs:=[kZ (2)]) oD oD rfl oR rfl λD p j=>?_;have h:=j.chg;have a:=a.ta h;have g:=g.q8 h;have i:=i.q8 h;have Z:NU p (.slice (some ⟨D,0,none⟩) 1 1) [2]:=NU.nX j.at_ (by intro y hy;rw[List.mem_singleton.1 hy];decide) oD oD oD;have Y:OB p D _ [2]:=j.at_;have O:=g;refine WL.call hasF165 rfl rfl (awx _ _ _ _ _ g Z oT) λv w5 n=>?_;obtain ⟨B,f,hF⟩:=n;rw[g7,show val [2]=2 from rfl] at B;have a4:(wd (x.m*2)).length<=8200:=by
  have T:=mul_len (bZ O.hw) (bZ Z.hw);rw[g7,show val [2]=2 from rfl] at T;simp only[List.length_cons,List.length_nil] at T;omega
 have a:=a.ta f;have i:=i.q8 f;refine zm rfl (zm rfl (zm rfl ?_));refine WL.call hasF225 rfl rfl (aax _ _ _ _ _ _ _ B i M oO oO oO) λv w6 n=>?_;obtain ⟨rfl,f⟩:=n;rw[g7,g7,cmp_mid1 oO t];have a:=a.ta f;refine za rfl (zz (q ?_));refine zr (zr1 rfl rfl ?_);exact ⟨rfl,a⟩
theorem d0q(x:Dy)(vn:Value)(mode:Int)(w:World)(y:NU w vn (wd x.m))(hx:x.ok)(hm:0<=mode/\mode<=4):Ret Tryz.prog 184 [.agg [.int .i64 53,.int .i64 (-1074),.int .u64 9218868437227405312].toArray,.bool x.neg,vn,.int .i64 x.e,.int .i64 mode] w λu w'=>∃ r:Nat,u = .int .u64 (r:Int)/\mX (dyA x.m x.e) (dyB x.e) x.neg mode r/\r<=9218868437227405312/\Chg [] w w':=by
 have g:=crf w;have k:=y.one;obtain ⟨A,hA⟩ : ∃ A,A=dyA x.m x.e:=⟨_,rfl⟩;obtain ⟨B,hB⟩ : ∃ B,B=dyB x.e:=⟨_,rfl⟩;rw[<- hA,<- hB];refine zE5 Tryz.func184 rfl ?_;refine Sr λ_ f0=>?_;refine zBh rfl rfl rfl g λb5 f9 s d7 f8 d6 g=>?_;have y:=y.q8 d7;refine za rfl (zz (f0 (Sr λ_ e9=>zg s rfl (zm rfl (zm rfl ?_)))));refine WL.call hasF234 rfl rfl (r3below_spec x vn _ y hx) λv w1 T=>?_;obtain ⟨f,rfl,j,l,i,t⟩:=T;rw[<- hA,<- hB] at l i;have g:=g.ta t;have s:=s.k0 t;have y:=y.q8 t;refine za rfl (zz (e9 (Sr λ_ e8=>zg s rfl (zm rfl ?_))));refine WL.call hasF226 rfl rfl (qZ (f) _ oO) λv w2 T=>?_;obtain ⟨⟨vc,rfl,f5⟩,t⟩:=T;have g:=g.ta t;have s:=s.k0 t;have y:=y.q8 t;refine zm rfl (zx rfl rfl (zx rfl rfl (za rfl (za rfl (zz (e8 (zc λ_ e7=>Sr λ_ e6=>zm rfl (zm rfl (zm rfl (zm rfl ?_))))))))));refine WL.call hasF225 rfl rfl (aax _ _ _ _ _ _ _ f5 y (by have:=a1j (f) oO;omega) (ok_e hx) (by have:=bgj (f);omega) (by have:=hx.len;omega)) λv w3 T=>?_;obtain ⟨rfl,t⟩:=T;rw[g7,g7,cmp_num1 oO,<- hB,<- hA];have g:=g.ta t;have s:=s.k0 t;have y:=y.q8 t;refine zq rfl rfl (zz (e6 ?_));refine zy rfl ?_ ?_<;>intro R<;>try simp only[qs] at R
 ·have he:=bmx.1 R
  refine Sr λ_ d3=>zm rfl (za rfl (zz (d3 ?_)));refine zr (zr1 rfl rfl ?_);exact ⟨f,rfl,near_eq j i he,by omega,g⟩
 have o:2*nz f*B≠A:=λq=>R (bmx.2 q);refine zkk (e7 (Sr λ_ d2=>zg s rfl (zm rfl (zm rfl (zm rfl ?_)))));refine WL.call hasF235 rfl rfl (r3half_spec f x vn _ y hx j) λv w4 T=>?_;obtain ⟨rfl,t⟩:=T;rw[<- hB,<- hA];obtain ⟨M,hM⟩ : ∃ M,M=(nz f+nz (f+1))*B:=⟨_,rfl⟩;rw[<- hM];have d4:=bjx (a:=M) (b:=A);have f2:=bmx (a:=M) (b:=A);have f1:=sgn_sw A M;obtain ⟨h,hh⟩ : ∃ h,h=sgn A M:=⟨_,rfl⟩;obtain ⟨h4,d5⟩ : ∃ h,h=sgn M A:=⟨_,rfl⟩;rw[<- hh,<- d5] at f1;rw[<- d5] at d4 f2;rw[<- hh];have g:=g.ta t;refine za rfl (zz (d2 (Sr λ_ d1=>za rfl (zz (d1 (zc λ_ n=>Sr λ_ d0=>zm rfl (zz (d0 (CW.block (Sr λ_ c9=>zq rfl rfl (za rfl (zz (c9 ?_)))))))))))));refine zy rfl ?_ ?_<;>intro e0<;>try simp only[qs] at e0
 ·have p:mode=0:=e0
  refine zR λ_ z=>?_;refine zm rfl (zG rfl rfl (zm rfl ?_));refine zb ?_ ?_<;>intro f4<;>try simp only[qs] at f4
  ·have d:upM mode x.neg f A ((nz f+nz (f+1))*B)=true:=by
    rw[<- hM,p,b4q,decide_eq_true (show M<A by omega)];rfl
   refine zv rfl (zv rfl (zv rfl (zu rfl (zu rfl (zu rfl (zv rfl (zt rfl rfl (za rfl ?_))))))));refine WL.nil (z _ _ _ (n ?_));refine zc λ_ c8=>Sr λ_ c7=>zm rfl (zz (c7 ?_));refine CW.nJ rfl ?_;refine zR λ_ a2=>?_;refine zm rfl ?_
   first|refine WL.ev (Ev.iJ (b:=1) rfl rfl oO) rfl ?_|refine WL.ev (Ev.abq (b:=1) rfl rfl) rfl ?_
   refine za rfl ?_;refine WL.nil (a2 _ _ _ (c8 ?_));refine Sr λ_ c6=>zm rfl (za rfl (zz (c6 ?_)));refine zr (zr1 rfl rfl ?_);exact ⟨f+1,rfl,pX j l i o (on:=true) (by first|exact d|exact d.trans k) rfl,by omega,g⟩
  refine zw rfl (zm rfl (zw rfl (zq rfl rfl (zw rfl (zm rfl ?_)))));refine zb ?_ ?_<;>intro f3<;>try simp only[qs] at f3
  ·have d:upM mode x.neg f A ((nz f+nz (f+1))*B)=decide (f%2=1):=by
    rw[<- hM,p,b4q,decide_eq_false (show ¬M<A by omega),decide_eq_true (show M=A by omega)];simp
   refine zw rfl (zm rfl (zw rfl ?_));refine WL.ev (Ev.dhx (b:=2) rfl rfl oO) rfl ?_;refine zw rfl (zq rfl rfl ?_);rw[show decide (((f%2:Nat):Int)=1)=decide (f%2=1) from decide_eq_decide.2 oO];refine zw rfl (zt rfl rfl (ze rfl rfl (za rfl ?_)));refine WL.nil (z _ _ _ (n ?_));refine zc λ_ H=>Sr λ_ c5=>zm rfl (zz (c5 ?_));refine zy rfl ?_ ?_<;>intro Q<;>try simp only[qs] at Q
   ·have k:=decide_eq_true Q
    refine zR λ_ a1=>?_;refine zm rfl ?_
    first|refine WL.ev (Ev.iJ (b:=1) rfl rfl oO) rfl ?_|refine WL.ev (Ev.abq (b:=1) rfl rfl) rfl ?_
    refine za rfl ?_;refine WL.nil (a1 _ _ _ (H ?_));refine Sr λ_ c4=>zm rfl (za rfl (zz (c4 ?_)));refine zr (zr1 rfl rfl ?_);exact ⟨f+1,rfl,pX j l i o (on:=true) (by first|exact d|exact d.trans k) rfl,by omega,g⟩
   have k:=decide_eq_false Q;refine zkk (H (Sr λ_ c3=>zm rfl (za rfl (zz (c3 ?_)))));refine zr (zr1 rfl rfl ?_);exact ⟨f,rfl,pX j l i o (on:=false) (by first|exact d|exact d.trans k) rfl,by omega,g⟩
  have d:upM mode x.neg f A ((nz f+nz (f+1))*B)=false:=by
   rw[<- hM,p,b4q,decide_eq_false (show ¬M<A by omega),decide_eq_false (show ¬M=A by omega)];rfl
  refine zv rfl (zv rfl (zv rfl (zw rfl (ze rfl rfl (ze rfl rfl (za rfl ?_))))));refine WL.nil (z _ _ _ (n ?_));refine zc λ_ c2=>Sr λ_ c1=>zm rfl (zz (c1 ?_));refine CW.mQ rfl ?_;refine zkk (c2 (Sr λ_ b9=>zm rfl (za rfl (zz (b9 ?_)))));refine zr (zr1 rfl rfl ?_);exact ⟨f,rfl,pX j l i o (on:=false) (by first|exact d|exact d.trans k) rfl,by omega,g⟩
 refine Sr λ_ b8=>zq rfl rfl (za rfl (zz (b8 ?_)));refine zy rfl ?_ ?_<;>intro d9<;>try simp only[qs] at d9
 ·have p:mode=2:=d9
  have d:upM mode x.neg f A ((nz f+nz (f+1))*B) = !x.neg:=by rw[p,up_up]
  refine zR λ_ a0=>?_;refine zm rfl (zT rfl (za rfl ?_));refine WL.nil (a0 _ _ _ (n ?_));refine zc λ_ G=>Sr λ_ b7=>zm rfl (zz (b7 ?_));refine zy rfl ?_ ?_<;>intro O<;>try simp only[qs] at O
  ·have k:(!x.neg)=true:=by simpa using O
   refine zR λ_ Z=>?_;refine zm rfl ?_
   first|refine WL.ev (Ev.iJ (b:=1) rfl rfl oO) rfl ?_|refine WL.ev (Ev.abq (b:=1) rfl rfl) rfl ?_
   refine za rfl ?_;refine WL.nil (Z _ _ _ (G ?_));refine Sr λ_ b6=>zm rfl (za rfl (zz (b6 ?_)));refine zr (zr1 rfl rfl ?_);exact ⟨f+1,rfl,pX j l i o (on:=true) (by first|exact d|exact d.trans k) rfl,by omega,g⟩
  have k:(!x.neg)=false:=by simpa using O
  refine zkk (G (Sr λ_ b4=>zm rfl (za rfl (zz (b4 ?_)))));refine zr (zr1 rfl rfl ?_);exact ⟨f,rfl,pX j l i o (on:=false) (by first|exact d|exact d.trans k) rfl,by omega,g⟩
 refine Sr λ_ b3=>zq rfl rfl (za rfl (zz (b3 ?_)));refine zy rfl ?_ ?_<;>intro d8<;>try simp only[qs] at d8
 ·have p:mode=3:=d8
  have d:upM mode x.neg f A ((nz f+nz (f+1))*B)=x.neg:=by rw[p,up_down]
  refine zR λ_ Y=>?_;refine zm rfl (za rfl ?_);refine WL.nil (Y _ _ _ (n ?_));refine zc λ_ F=>Sr λ_ b2=>zm rfl (zz (b2 ?_));refine zy rfl ?_ ?_<;>intro J<;>try simp only[qs] at J
  ·have k:x.neg=true:=by simpa using J
   refine zR λ_ X=>?_;refine zm rfl ?_
   first|refine WL.ev (Ev.iJ (b:=1) rfl rfl oO) rfl ?_|refine WL.ev (Ev.abq (b:=1) rfl rfl) rfl ?_
   refine za rfl ?_;refine WL.nil (X _ _ _ (F ?_));refine Sr λ_ b1=>zm rfl (za rfl (zz (b1 ?_)));refine zr (zr1 rfl rfl ?_);exact ⟨f+1,rfl,pX j l i o (on:=true) (by first|exact d|exact d.trans k) rfl,by omega,g⟩
  have k:x.neg=false:=by simpa using J
  refine zkk (F (Sr λ_ b0=>zm rfl (za rfl (zz (b0 ?_)))));refine zr (zr1 rfl rfl ?_);exact ⟨f,rfl,pX j l i o (on:=false) (by first|exact d|exact d.trans k) rfl,by omega,g⟩
 refine Sr λ_ a9=>zq rfl rfl (za rfl (zz (a9 ?_)));refine zy rfl ?_ ?_<;>intro I<;>try simp only[qs] at I
 ·have p:mode=4:=I
  have d:upM mode x.neg f A ((nz f+nz (f+1))*B)=decide (h4<=0):=by rw[<- hM,p,up_away];exact decide_eq_decide.2 d4.symm
  refine zR λ_ V=>?_;refine zm rfl ?_;refine WL.ev (Ev.geq rfl rfl) rfl ?_;refine za rfl ?_;refine WL.nil (V _ _ _ (n ?_));refine zc λ_ D=>Sr λ_ a8=>zm rfl (zz (a8 ?_));refine zy rfl ?_ ?_<;>intro C<;>try simp only[qs] at C
  ·have k:decide (h4<=0)=true:=decide_eq_true (by have:=C;omega);refine zR λ_ U=>?_
   refine zm rfl ?_
   first|refine WL.ev (Ev.iJ (b:=1) rfl rfl oO) rfl ?_|refine WL.ev (Ev.abq (b:=1) rfl rfl) rfl ?_
   refine za rfl ?_;refine WL.nil (U _ _ _ (D ?_));refine Sr λ_ a7=>zm rfl (za rfl (zz (a7 ?_)));refine zr (zr1 rfl rfl ?_);exact ⟨f+1,rfl,pX j l i o (on:=true) (by first|exact d|exact d.trans k) rfl,by omega,g⟩
  have k:decide (h4<=0)=false:=decide_eq_false (by have:=C;omega);refine zkk (D (Sr λ_ a6=>zm rfl (za rfl (zz (a6 ?_)))));refine zr (zr1 rfl rfl ?_);exact ⟨f,rfl,pX j l i o (on:=false) (by first|exact d|exact d.trans k) rfl,by omega,g⟩
 have p:mode=1:=by omega
 have d:upM mode x.neg f A ((nz f+nz (f+1))*B)=false:=by rw[p,up_zero]
 refine zkk (n (zc λ_ a5=>Sr λ_ a4=>zm rfl (zz (a4 ?_))));refine CW.mQ rfl ?_;refine zkk (a5 (Sr λ_ a3=>zm rfl (za rfl (zz (a3 ?_)))));refine zr (zr1 rfl rfl ?_);exact ⟨f,rfl,pX j l i o (on:=false) (by first|exact d|exact d.trans k) rfl,by omega,g⟩
theorem r3Round_spec(x:Dy)(vn:Value)(mode:Int)(w:World)(T:NU w vn (wd x.m))(R:x.ok):Ret Tryz.prog 106 [.agg [.bool x.neg,vn,.int .i64 x.e].toArray,.int .i64 mode] w λu w'=>(∃ bits e,u = .tuple [.float .f64 bits,.int .i64 e].toArray/\cyq (some x) mode bits e)/\Chg [] w w':=by
 have a:=crf w;have b7:=T.one;have b5:=R.len;refine zE2 Tryz.func106 rfl ?_;refine Sr λ_ a0=>?_;refine zBh rfl rfl rfl a λb2 b3 a3 M a8 I a=>?_;have T:=T.q8 M;refine za rfl (za rfl (zz (a0 (zc λ_ Z=>?_))));refine CW.oX 14 (decide (mode<0\/4<mode)) ?_ ?_
 ·refine zS λ_ y=>zm rfl (zL rfl rfl (zm rfl ?_));refine zb ?_ ?_<;>intro a1<;>try simp only[qs] at a1
  ·refine zv rfl (zv rfl (zt rfl rfl (zz (y ?_))));refine ⟨rfl,rfl,j0.g8 rfl ?_ ?_⟩
   ·first|(simp;omega)|(simp_all;done)|(refine decide_eq_decide.2 ?_;omega)
   exact SMg
  refine zw rfl (zm rfl (zw rfl (zG rfl rfl (ze rfl rfl (zz (y ?_))))));refine ⟨rfl,rfl,j0.g8 rfl ?_ ?_⟩
  ·first|(simp;omega)|(simp_all;done)|(refine decide_eq_decide.2 ?_;omega)
  exact SMg
 refine zy rfl ?_ ?_<;>intro t<;>try simp only[qs] at t
 ·have U:=t
  refine Sr λ_ Y=>za rfl (za rfl (zz (Y ?_)));refine zr (zr2 rfl rfl rfl ?_);exact ⟨⟨_,_,rfl,.inl ⟨by omega,rfl,rfl⟩⟩,a⟩
 have U:0<=mode/\mode<=4:=by have:=t;omega
 refine zkk (Z (Sr λ_ X=>zg a3 rfl ?_));refine WL.call hasF154 rfl rfl (rQ _ _ _ _ _ T (ok_e R) oO) λv w1 Q=>?_;obtain ⟨hD,j⟩:=Q;rw[g7,nQ R] at hD;obtain ⟨rm,d9,a2,rfl,f⟩:=hD.resolve_right (λq=>by cases q.1);cases a2;have b8:=f.one;have a:=a.ta j;refine zm rfl (zx rfl rfl (zx rfl rfl ?_));refine zAh rfl rfl a λb6 b1 d J a7 H a=>?_;have f:=f.q8 J;refine zss rfl rfl ao d rfl λb0 n l=>?_;(try simp only[qt] at n);have a:=a.s1 l;have f:=f.q9 d l an;have d:=n;refine za rfl (zz (X (zc λ_ V=>Sr λ_ G=>zm rfl (zT rfl (zz (G ?_))))));refine CW.mQ rfl ?_;refine zkk (V (zc λ_ F=>?_));refine CW.cQ 10 rfl dZ λa5 A h p=>?_;have a:=a.ta p;have d:=d.k0 p;have f:=f.q8 p;have g:=d;refine wh 1 rfl h (eF rfl) (wh 2 rfl h (λ_ i=>Ev.load rfl rfl ((g.q8 i).at_ rfl)) (wh 3 rfl h (eF rfl) (wh 4 rfl h (λ_ i=>Ev.load rfl rfl ((g.q8 i).at_ rfl)) (wh 5 rfl h (eF rfl) (wh 6 rfl h (λ_ i=>Ev.load rfl rfl ((g.q8 i).at_ rfl)) (wh 7 rfl h (eM rfl) ?_))))));refine WH.k7 0 rfl oR hasF162 rfl rfl (b0x _) λv w2 Q=>?_;obtain ⟨rfl,j⟩:=Q;have a:=a.ta j;have d:=d.k0 j;have f:=f.q8 j;have h:=h.trans j;refine ⟨h,?_⟩;refine WH.k7 8 rfl oR hasF184 rfl rfl (d0q x rm mode _ f R U) λv w3 Q=>?_;obtain ⟨r,rfl,O,hr,j⟩:=Q;have a:=a.ta j;have d:=d.k0 j;have h:=h.trans j;refine ⟨h,?_⟩;refine wh 9 rfl h (eA rfl) ?_;refine WH.done oR (A _ _ _ ?_);refine F (zc λ_ k=>Sr λ_ D=>zf rfl (zl d rfl rfl (zz (D ?_))));refine zy rfl ?_ ?_<;>intro s<;>try simp only[qs] at s
 ·have o:=s
  refine zR λ_ z=>?_;refine zm rfl ?_
  first|refine WL.ev (Ev.iJ (b:=9223372036854775808) rfl rfl oO) rfl ?_|refine WL.ev (Ev.abq (b:=9223372036854775808) rfl rfl) rfl ?_
  refine za rfl ?_;refine WL.nil (z _ _ _ (k ?_));refine Sr λ_ C=>zm rfl ?_;refine WL.ev (Ev.ext rfl (ext82 _ _)) rfl ?_;refine za rfl (za rfl (zz (C ?_)));refine zr (zr2 rfl rfl rfl ?_);refine ⟨⟨_,_,rfl,.inr ⟨U,.inr ⟨x,r,rfl,O,hr,?_,rfl⟩⟩⟩,a⟩;rw[if_pos o];omega
 have o:x.neg=false:=by simpa using s
 refine zkk (k (Sr λ_ B=>zm rfl ?_));refine WL.ev (Ev.ext rfl (ext82 _ _)) rfl ?_;refine za rfl (za rfl (zz (B ?_)));refine zr (zr2 rfl rfl rfl ?_);refine ⟨⟨_,_,rfl,.inr ⟨U,.inr ⟨x,r,rfl,O,hr,?_,rfl⟩⟩⟩,a⟩;rw[if_neg (by rw[o];exact Bool.false_ne_true)];omega
end
section
open Go Sx Wd Fl
theorem r21Sum_spec(b:Nat)(S:Sh)(mode j k:Int)(w:World)(f:ShM 148 w b S)(a7:S.wf):Ret Tryz.prog 36 [.pointer (some ⟨b,0,none⟩),.int .i64 mode,.agg [.int .i64 j,.int .i64 k].toArray] w λu w'=>(∃ x e,u = .tuple [.float .f64 x,.int .i64 e].toArray/\crq S mode j k x e)/\Chg [] w w':=by
 obtain ⟨rv,rq,g,d,B⟩:=f;obtain ⟨b8,o,U,X,Y⟩:=a7;obtain ⟨b6,b4,b3,b2,b1,b0⟩:=b8;have a:=crf w;refine zE3 Tryz.func36 rfl ?_;refine Sr λ_ a6=>?_;refine zBh rfl rfl rfl a λb5 d1 h l c7 Z a=>?_;have d:=d.q8 l;have B:=B.q8 l;have b7:b≠b5:=by have:=g.lt;omega
 have g:=g.q8 l;refine za rfl (za rfl (zz (a6 (Sr λ_ a5=>zm rfl (zm rfl (zg h rfl ?_))))));refine WL.call hasF103 rfl rfl (a5x b S mode j k _ ⟨rv,rq,g,d,B⟩ ⟨⟨b6,b4,b3,b2,b1,b0⟩,o,U,X,Y⟩) λv w1 C=>?_;obtain ⟨rfl,i⟩:=C;have a:=a.ta i;have g:=g.q8 i;have h:=h.k0 i;have d:=d.q8 i;refine za rfl (zz (a5 (zc λ_ a4=>Sr λ_ a3=>zm rfl (zN rfl rfl (zz (a3 ?_))))));refine zy rfl ?_ ?_<;>intro z<;>try simp only[qs] at z
 ·have h0:shE S.s mode j k≠0:=z
  refine Sr λ_ a2=>zm rfl (za rfl (za rfl (zz (a2 ?_))));refine zr (zr2 rfl rfl rfl ?_);refine ⟨⟨_,_,rfl,?_⟩,a⟩;exact .inl ⟨h0,rfl,rfl⟩
 have h0:shE S.s mode j k=0:=by have:=z;omega
 refine zkk (a4 (zc λ_ Q=>?_));refine CW.cQ 11 rfl dZ λc3 D f n=>?_;have a:=a.ta n;have g:=g.q8 n;have h:=h.k0 n;have d:=d.q8 n;have a0:=g;have A:=h;refine wh 0 rfl f (eM rfl) (wh 1 rfl f (eP rfl) (wh 2 rfl f (eF rfl) (wh 3 rfl f (λ_ p=>Ev.fZ (cs:=[.int .i64 (S.s.na:Int),.int .i64 (S.s.up:Int),.int .i64 (S.s.dn:Int),.int .i64 (S.s.mi:Int),.int .i64 (S.s.pl:Int),.int .i64 (S.s.al:Int)]) rfl rfl (a0.q8 p) rfl rfl) (wh 4 rfl f (λ_ p=>Ev.rZ rfl rfl (A.q8 p) rfl) ?_))));refine WH.k7 5 rfl oR hasF104 rfl rfl (bzq S.s j k _ ⟨by omega,by omega,by omega,by omega,by omega,by omega⟩) λv w2 C=>?_;obtain ⟨rfl,i⟩:=C;have R:=brq S.s j k;have a:=a.ta i;have g:=g.q8 i;have d:=d.q8 i;have f:=f.trans i;refine ⟨f,?_⟩;refine wh 6 rfl f (eM rfl) (wh 7 rfl f (eX rfl rfl) (wh 8 rfl f (eX rfl rfl) (wh 9 rfl f (eA rfl) (wh 10 rfl f (eA rfl) ?_))));refine WH.done oR (D _ _ _ ?_);refine Q (zc λ_ O=>Sr λ_ M=>zm rfl (zz (M ?_)));refine zy rfl ?_ ?_<;>intro y<;>try simp only[qs] at y
 ·obtain ⟨x,a9,d4,a8⟩ : ∃ x,lZ S.s j k = .some x/\(lZ S.s j k).isSome=true/\(lZ S.s j k).getD 0=x:=R.resolve_right (λq=>by have:=y;rw[q.2] at this;exact Bool.false_ne_true this);rw[a8]
  refine Sr λ_ J=>zm rfl (za rfl (za rfl (zz (J ?_))));refine zr (zr2 rfl rfl rfl ?_);refine ⟨⟨_,_,rfl,?_⟩,a⟩;exact .inr ⟨h0,.inl ⟨x,a9,rfl,rfl⟩⟩
 have hv:lZ S.s j k = .none:=by
  rcases R with ⟨_,_,q2,_⟩|q
  · have:=y;rw[q2] at this;exact absurd this oD
  exact q.1
 refine zkk (O (zc λ_ I=>Sr λ_ H=>zm rfl (zP rfl (zf rfl (zf rfl ?_)))));obtain ⟨⟨c1,b9,T,c8,c5⟩,c9,c6⟩:=id d;refine WL.ev (Ev.load (v:=.slice c1 (wd S.V.m).length b9) rfl rfl (by rw[<- T];exact g.at_ rfl)) rfl ?_;refine zn rfl (zq rfl rfl (zz (H ?_)));refine zy rfl ?_ ?_<;>intro t<;>try simp only[qs] at t
 ·have r:S.V.m=0:=rJ.1 (List.length_eq_zero_iff.1 (by have:=t;omega));refine Sr λ_ G=>zm rfl (zP rfl (zf rfl ?_));refine WL.ev (Ev.fZ (cs:=[.int .i64 (S.s.na:Int),.int .i64 (S.s.up:Int),.int .i64 (S.s.dn:Int),.int .i64 (S.s.mi:Int),.int .i64 (S.s.pl:Int),.int .i64 (S.s.al:Int)]) rfl rfl g rfl rfl) rfl ?_
  refine zm rfl ?_;refine WL.call hasF105 rfl rfl (cax S.s mode _ ⟨by omega,by omega,by omega,by omega,by omega,by omega⟩) λv w3 C=>?_;obtain ⟨rfl,i⟩:=C;have a:=a.ta i;refine za rfl (za rfl (zz (G ?_)));refine zr (zr2 rfl rfl rfl ?_);refine ⟨⟨_,_,rfl,?_⟩,a⟩;exact .inr ⟨h0,.inr ⟨hv,.inl ⟨r,rfl,rfl⟩⟩⟩
 have r:S.V.m≠0:=λq=>by have h9:=t;rw[q,fX] at h9;exact h9 rfl
 refine zkk (I (Sr λ_ F=>zm rfl (zP rfl (zf rfl ?_))));refine WL.ev (Ev.fZ rfl rfl g rfl rfl) rfl ?_
 try simp only[oL]
 refine zm rfl ?_;refine WL.call hasF106 rfl rfl (r3Round_spec S.V rv mode _ d o) λv w4 C=>?_;obtain ⟨⟨xb,xe,rfl,hR⟩,i⟩:=C;have a:=a.ta i;refine zx rfl rfl (zx rfl rfl (za rfl (za rfl (zz (F ?_)))));refine zr (zr2 rfl rfl rfl ?_);refine ⟨⟨_,_,rfl,?_⟩,a⟩;exact .inr ⟨h0,.inr ⟨hv,.inr ⟨r,hR⟩⟩⟩
def numD(n:Int)(V Q:Dy):Dy:=(crj ((gX (cJ n) Q).getD Dy.zero) ((gX V V).getD Dy.zero)).getD Dy.zero
def denD(n less:Int):Dy:=(gX (cJ n) (cJ (n-less))).getD Dy.zero
def varRefR(S:Sh)(less mode pn pi:Int)(b:Nat)(e:Int):Prop:=
  (¬(less=0\/less=1)/\b=0/\e=1)\/((less=0\/less=1)/\((shE S.s mode pn pi≠0/\b=0/\e=shE S.s mode pn pi)\/(shE S.s mode pn pi=0/\
    ((auq S.s pn pi/\b=9221120237041090560/\e=0)\/(¬auq S.s pn pi/\((S.fin<=less/\b=0/\e=3)\/(less<S.fin/\
      bwq (numD S.fin S.V S.Q).neg (denD S.fin less).neg (numD S.fin S.V S.Q).m (denD S.fin less).m (numD S.fin S.V S.Q).e (denD S.fin less).e mode b e)))))))
theorem subD_ok{x y d:Dy}(a:x.ok)(h:crj x y = .some d):d.ok:=by
  unfold crj at h
  cases hf:cX (!y.neg) y.m y.e with
  | none=>rw[hf] at h;cases h
  | some z=>rw[hf] at h;exact addD_ok a (jZ hf) h
theorem bwj{d:Dy}(h:d.ok):(wd d.m).length<=34359738368:=by have:=h.len;omega
theorem r21Var_spec(b:Nat)(S:Sh)(M mode pn pi:Int)(w:World)(q:ShM 148 w b S)(p1:S.wf):Ret Tryz.prog 38 [.pointer (some ⟨b,0,none⟩),.int .i64 M,.int .i64 mode,.agg [.int .i64 pn,.int .i64 pi].toArray] w λu w'=>(∃ x e,u = .tuple [.float .f64 x,.int .i64 e].toArray/\varRefR S M mode pn pi x e)/\Chg [] w w':=by
 obtain ⟨rv,rq,F,i,j⟩:=q;obtain ⟨p3,X,b6,n3,n4⟩:=p1;obtain ⟨m9,m8,m7,m6,m5,m4⟩:=p3;have g:=crf w;refine zE4 Tryz.func38 rfl ?_;refine Sr λ_ o9=>?_;refine zBh rfl rfl rfl g λb7 r7 d5 f1 r5 n5 g=>?_;have i:=i.q8 f1;have j:=j.q8 f1;have p2:b≠b7:=by have:=F.lt;omega
 have F:=F.q8 f1;refine za rfl (za rfl (zz (o9 (zc λ_ o8=>?_))));refine CW.oX 26 (decide (¬(M=0\/M=1))) ?_ ?_
 ·refine zS λ_ l2=>zm rfl (zL rfl rfl (zm rfl ?_));refine zb ?_ ?_<;>intro p5<;>try simp only[qs] at p5
  ·refine zv rfl (zv rfl (zt rfl rfl (zz (l2 ?_))));refine ⟨rfl,rfl,j0.g8 rfl ?_ ?_⟩
   ·first|(simp_all;done)|(simp;omega)|(refine decide_eq_decide.2 ?_;omega)
   exact SMg
  refine zw rfl (zm rfl (zw rfl (zG rfl rfl (ze rfl rfl (zz (l2 ?_))))));refine ⟨rfl,rfl,j0.g8 rfl ?_ ?_⟩
  ·first|(simp_all;done)|(simp;omega)|(refine decide_eq_decide.2 ?_;omega)
  exact SMg
 refine zy rfl ?_ ?_<;>intro i4<;>try simp only[qs] at i4
 ·have hl : ¬(M=0\/M=1):=i4
  refine Sr λ_ o7=>za rfl (za rfl (zz (o7 ?_)));refine zr (zr2 rfl rfl rfl ?_);refine ⟨⟨_,_,rfl,?_⟩,g⟩;exact .inl ⟨hl,rfl,rfl⟩
 have hl:M=0\/M=1:=i4;refine zkk (o8 (Sr λ_ o6=>zm rfl (zm rfl (zg d5 rfl ?_))));refine WL.call hasF103 rfl rfl (a5x b S mode pn pi _ ⟨rv,rq,F,i,j⟩ ⟨⟨m9,m8,m7,m6,m5,m4⟩,X,b6,n3,n4⟩) λv w1 h'=>?_;obtain ⟨rfl,k⟩:=h';have g:=g.ta k;have F:=F.q8 k;have d5:=d5.k0 k;have i:=i.q8 k;have j:=j.q8 k;refine za rfl (zz (o6 (zc λ_ o5=>Sr λ_ m3=>zm rfl (zN rfl rfl (zz (m3 ?_))))));refine zy rfl ?_ ?_<;>intro i3<;>try simp only[qs] at i3
 ·have h0:shE S.s mode pn pi≠0:=i3
  refine Sr λ_ m2=>zm rfl (za rfl (za rfl (zz (m2 ?_))));refine zr (zr2 rfl rfl rfl ?_);refine ⟨⟨_,_,rfl,?_⟩,g⟩;exact .inr ⟨hl,.inl ⟨h0,rfl,rfl⟩⟩
 have h0:shE S.s mode pn pi=0:=by have:=i3;omega
 refine zkk (o5 (zc λ_ m1=>?_));refine CW.seqMD 63 (decide (auq S.s pn pi)) ?_ ?_
 ·refine CW.jQ dZ oR λr4 d3 I=>?_;have F:=F.q8 I;have d5:=d5.k0 I;refine ym rfl (yP rfl (yf rfl (yf rfl ?_)));refine WS.ev (Ev.load rfl rfl (F.at_ rfl)) rfl ?_;refine WS.ev (Ev.gtr rfl rfl) rfl ?_;refine ym rfl ?_;refine WS.afq (λi0=>?_) (λi0=>?_)
  ·(try simp only[qs] at i0);refine yw rfl (yf rfl (yw rfl ?_));refine WS.ev (Ev.load rfl rfl (d5.at_ rfl)) rfl ?_
   refine yw rfl ?_;refine WS.ev (Ev.eql rfl rfl) rfl ?_;refine yt rfl rfl (ym rfl ?_);refine WS.afq (λh9=>?_) (λh9=>?_)
   ·(try simp only[qs] at h9);refine yv rfl (yv rfl (yv rfl (yv rfl (yv rfl (yv rfl (yv rfl (yv rfl (yv rfl (yv rfl (yv rfl (yv rfl (yv rfl (yu rfl (yu rfl (yu rfl (yv rfl (yt rfl rfl ?_)))))))))))))))));refine WS.nil (d3 _ _ ?_);refine ⟨rfl,rfl,j0.g8 rfl ?_ ?_⟩
    ·unfold auq;first|exact (decide_eq_true oO).symm|exact (decide_eq_false oO).symm|(simp_all;done)|(refine decide_eq_decide.2 ?_;omega)
    exact SMg
   (try simp only[qs] at h9);refine yw rfl (ym rfl (yw rfl (yP rfl (yw rfl (yf rfl (yw rfl (yf rfl (yw rfl ?_))))))));refine WS.ev (Ev.load rfl rfl (F.at_ rfl)) rfl ?_
   refine yw rfl (ym rfl (yw rfl (yP rfl (yw rfl (yf rfl (yw rfl (yf rfl (yw rfl ?_))))))));refine WS.ev (Ev.load rfl rfl (F.at_ rfl)) rfl ?_;refine yw rfl ?_
   first|refine WS.ev (Ev.kQ rfl rfl oO) rfl ?_|refine WS.ev (Ev.add rfl rfl) rfl ?_
   refine yw rfl ?_;refine WS.ev (Ev.gtr rfl rfl) rfl ?_;refine yw rfl (ym rfl ?_);refine WS.afq (λh8=>?_) (λh8=>?_)
   ·(try simp only[qs] at h8);refine yw rfl (yf rfl (yw rfl ?_));refine WS.ev (Ev.load rfl rfl (d5.at_ rfl)) rfl ?_
    refine yw rfl ?_;refine WS.ev (Ev.eql rfl rfl) rfl ?_;refine yw rfl (yt rfl rfl (ye rfl rfl ?_));refine WS.nil (d3 _ _ ?_);refine ⟨rfl,rfl,j0.g8 rfl ?_ ?_⟩
    ·unfold auq;first|exact (decide_eq_true oO).symm|exact (decide_eq_false oO).symm|(simp_all;done)|(refine decide_eq_decide.2 ?_;omega)
    exact SMg
   (try simp only[qs] at h8);refine yv rfl (yv rfl (yv rfl (yw rfl (ye rfl rfl (ye rfl rfl ?_)))));refine WS.nil (d3 _ _ ?_);refine ⟨rfl,rfl,j0.g8 rfl ?_ ?_⟩
   ·unfold auq;first|exact (decide_eq_true oO).symm|exact (decide_eq_false oO).symm|(simp_all;done)|(refine decide_eq_decide.2 ?_;omega)
   exact SMg
  (try simp only[qs] at i0);refine yv rfl (yv rfl (yv rfl (ye rfl rfl (ym rfl (yw rfl (ym rfl (yw rfl (yP rfl (yw rfl (yf rfl (yw rfl (yf rfl (yw rfl ?_)))))))))))));refine WS.ev (Ev.load rfl rfl (F.at_ rfl)) rfl ?_
  refine yw rfl (ym rfl (yw rfl (yP rfl (yw rfl (yf rfl (yw rfl (yf rfl (yw rfl ?_))))))));refine WS.ev (Ev.load rfl rfl (F.at_ rfl)) rfl ?_;refine yw rfl ?_
  first|refine WS.ev (Ev.kQ rfl rfl oO) rfl ?_|refine WS.ev (Ev.add rfl rfl) rfl ?_
  refine yw rfl ?_;refine WS.ev (Ev.gtr rfl rfl) rfl ?_;refine yw rfl (ym rfl ?_);refine WS.afq (λh7=>?_) (λh7=>?_)
  ·(try simp only[qs] at h7);refine yw rfl (yf rfl (yw rfl ?_));refine WS.ev (Ev.load rfl rfl (d5.at_ rfl)) rfl ?_
   refine yw rfl ?_;refine WS.ev (Ev.eql rfl rfl) rfl ?_;refine yw rfl (yt rfl rfl (ye rfl rfl ?_));refine WS.nil (d3 _ _ ?_);refine ⟨rfl,rfl,j0.g8 rfl ?_ ?_⟩
   ·unfold auq;first|exact (decide_eq_true oO).symm|exact (decide_eq_false oO).symm|(simp_all;done)|(refine decide_eq_decide.2 ?_;omega)
   exact SMg
  (try simp only[qs] at h7);refine yv rfl (yv rfl (yv rfl (yw rfl (ye rfl rfl (ye rfl rfl ?_)))));refine WS.nil (d3 _ _ ?_);refine ⟨rfl,rfl,j0.g8 rfl ?_ ?_⟩
  ·unfold auq;first|exact (decide_eq_true oO).symm|exact (decide_eq_false oO).symm|(simp_all;done)|(refine decide_eq_decide.2 ?_;omega)
  exact SMg
 intro I;have g:=g.ta I;have F:=F.q8 I;have i:=i.q8 I;have j:=j.q8 I;refine zy rfl ?_ ?_<;>intro i2<;>try simp only[qs] at i2
 ·have n8:auq S.s pn pi:=i2
  refine Sr λ_ m0=>?_;refine WL.call hasF110 rfl rfl (bsj _) λv w2 h'=>?_;obtain ⟨rfl,rfl⟩:=h';refine za rfl (za rfl (zz (m0 ?_)));refine zr (zr2 rfl rfl rfl ?_);refine ⟨⟨_,_,rfl,?_⟩,g⟩;exact .inr ⟨hl,.inr ⟨h0,.inl ⟨n8,rfl,rfl⟩⟩⟩
 have n7 : ¬auq S.s pn pi:=i2;refine zkk (m1 (Sr λ_ l9=>zm rfl (zP rfl (zf rfl ?_))));refine WL.ev (Ev.fZ (cs:=[.int .i64 (S.s.na:Int),.int .i64 (S.s.up:Int),.int .i64 (S.s.dn:Int),.int .i64 (S.s.mi:Int),.int .i64 (S.s.pl:Int),.int .i64 (S.s.al:Int)]) rfl rfl F rfl rfl) rfl ?_;refine WL.call hasF107 rfl rfl (awq S.s _ ⟨m9,m8,m7,m6,m5,m4⟩) λv w3 h'=>?_;obtain ⟨rfl,k⟩:=h';rw[show ((S.s.al:Int)-S.s.na-S.s.up-S.s.dn)=S.fin from rfl];have g:=g.ta k;have F:=F.q8 k;have i:=i.q8 k;have j:=j.q8 k;refine za rfl (zz (l9 (zc λ_ l8=>Sr λ_ l7=>zm rfl (zm rfl (zQ rfl rfl (zz (l7 ?_)))))));refine zy rfl ?_ ?_<;>intro i1<;>try simp only[qs] at i1
 ·have hf:S.fin<=M:=i1
  refine Sr λ_ l6=>za rfl (za rfl (zz (l6 ?_)));refine zr (zr2 rfl rfl rfl ?_);refine ⟨⟨_,_,rfl,?_⟩,g⟩;exact .inr ⟨hl,.inr ⟨h0,.inr ⟨n7,.inl ⟨hf,rfl,rfl⟩⟩⟩⟩
 have hf:M<S.fin:=by have:=i1;omega
 obtain ⟨A,hA⟩ : ∃ A,A=(gX (cJ S.fin) S.Q).getD Dy.zero:=⟨_,rfl⟩;obtain ⟨B,hB⟩ : ∃ B,B=(gX S.V S.V).getD Dy.zero:=⟨_,rfl⟩;obtain ⟨C,f7⟩ : ∃ C,C=(crj A B).getD Dy.zero:=⟨_,rfl⟩;obtain ⟨E,hE⟩ : ∃ E,E=(gX (cJ S.fin) (cJ (S.fin-M))).getD Dy.zero:=⟨_,rfl⟩;have d7:A.ok:=hA ▸ tZ λd h=>mJ h;have h1:B.ok:=hB ▸ tZ λd h=>mJ h;have g5:E.ok:=hE ▸ tZ λd h=>mJ h;have g9:C.ok:=f7 ▸ tZ (x:=crj A B) λd h=>subD_ok d7 h;have n2:numD S.fin S.V S.Q=C:=by unfold numD;rw[<- hA,<- hB,f7]
 have n6:denD S.fin M=E:=by unfold denD;rw[hE]
 refine zkk (l8 (Sr λ_ l5=>zm rfl ?_));refine WL.call hasF109 rfl rfl (baj (S.fin) _ (by unfold Sh.fin;omega)) λv w4 h'=>?_;obtain ⟨⟨rn,rfl,f⟩,k⟩:=h';have J:(cJ (S.fin)).ok:=xZ (by unfold Sh.fin;omega);have e7:=f.one;have g:=g.ta k;have F:=F.q8 k;have i:=i.q8 k;have j:=j.q8 k;refine zAh rfl rfl g λd6 q7 a d1 p4 k2 g=>?_;have i:=i.q8 d1;have j:=j.q8 d1;have f:=f.q8 d1;have o2:b≠d6:=by have:=F.lt;omega
 have F:=F.q8 d1;refine zss rfl rfl ao a rfl λq5 f3 b8=>?_;(try simp only[qt] at f3);have g:=g.s1 b8;have F:=F.kq b8;have i:=i.q9 a b8 an;have j:=j.q9 a b8 an;have f:=f.q9 a b8 an;have a:=f3;refine zz (l5 ?_);refine CW.anj (λD s' w'=>D=[]/\∃ (b1:Nat) (ra:Value),BK w' b 148 [.int .i64 (S.s.na:Int),.int .i64 (S.s.up:Int),.int .i64 (S.s.dn:Int),.int .i64 (S.s.mi:Int),.int .i64 (S.s.pl:Int),.int .i64 (S.s.al:Int),.bool S.V.neg,rv,.int .i64 S.V.e,.bool S.Q.neg,rq,.int .i64 S.Q.e,.float .f64 S.lo,.float .f64 S.hi]/\NU w' rv (wd S.V.m)/\NU w' rq (wd S.Q.m)/\BK w' d6 89 [.bool (cJ S.fin).neg,rn,.int .i64 (cJ S.fin).e]/\NU w' rn (wd (cJ S.fin).m)/\BK w' b1 89 [.bool A.neg,ra,.int .i64 A.e]/\NU w' ra (wd A.m)/\Chg [] w w'/\j0 [(0,.pointer (some ⟨b,0,none⟩)),(1,.int .i64 M),(2,.int .i64 mode),(11,.int .i64 S.fin),(12,.pointer (some ⟨d6,0,none⟩)),(13,.pointer (some ⟨b1,0,none⟩))] s') ?_ ?_
 ·refine CW.cQ 12 rfl dZ λr3 g3 q I=>?_;have g:=g.ta I;have F:=F.q8 I;have a:=a.k0 I;have i:=i.q8 I;have j:=j.q8 I;have f:=f.q8 I;have d9:=F;have d2:=a;refine wh 0 rfl q (λ_ c8=>Ev.rZ rfl rfl (d2.q8 c8) rfl) (wh 1 rfl q (eM rfl) (wh 2 rfl q (eP rfl) (wh 3 rfl q (eF rfl) (wh 4 rfl q (λ_ c8=>Ev.fZ rfl rfl (d9.q8 c8) rfl rfl) ?_))))
  try simp only[oL]
  refine WH.c4q 5 9 oR ?_ ?_
  ·refine ahj.call 5 rfl hasF96 rfl rfl (sZ _ _ _ _ _ _ _ _ _ f j (bX J) (bX b6) (bwj J) (bwj b6)) λv w5 h'=>?_;obtain ⟨hD,k⟩:=h';rw[jJ J b6] at hD;obtain ⟨ra,o4,rfl,z⟩:=hD.cells;rw[<- hA] at z;rw[<- hA];have e9:=z.one;have g:=g.ta k;have F:=F.q8 k;have a:=a.k0 k;have i:=i.q8 k;have j:=j.q8 k;have f:=f.q8 k;have q:=q.trans k;refine ⟨q,?_⟩;refine wh 6 rfl q (eM rfl) (wh 7 rfl q (eX rfl rfl) (wh 8 rfl q (eX rfl rfl) ?_));refine WH.wQ (l:=[.bool false,.slice none 0 0,.int .i64 0]) 9 rfl oR q rfl rfl λb1 l0 o O a7 b4=>?_;have d0:=Nat.le_trans q.size a7;have q:=b4;have e5:=Nat.le_trans g.size a7;have g:=g.ta O;have i:=i.q8 O;have j:=j.q8 O;have f:=f.q8 O;have z:=z.q8 O;have f6:b≠b1:=by have:=F.lt;omega
   have F:=F.q8 O;have e3:=zdd a.lt a7;have a:=a.k0 O;refine WH.sX 10 rfl oR q d0 rfl rfl rfl ao o oS rfl λq4 c1 a9 q=>?_;(try simp only[qt] at c1);have g:=g.s1 a9;have F:=F.kq a9;have a:=a.kq a9;have i:=i.q9 o a9 an;have j:=j.q9 o a9 an;have f:=f.q9 o a9 an;have z:=z.q9 o a9 an;have o:=c1;refine wh 11 rfl q (eA rfl) ?_;refine WH.done oR (g3 _ _ _ ?_);exact ⟨rfl,b1,ra,F,i,j,a,f,o,z,g,(by first|((repeat (first|exact j0.refl|refine j0.oZ (by rfl) ?_));done)|((repeat (first|exact j0.nil|refine j0.cons rfl ?_));done))⟩
  refine ahj.wQ (l:=[.bool false,.slice none 0 0,.int .i64 0]) 9 rfl q rfl rfl λb1 l0 o O a7 b4=>?_;have d0:=Nat.le_trans q.size a7;have q:=b4;have e5:=Nat.le_trans g.size a7;have g:=g.ta O;have i:=i.q8 O;have j:=j.q8 O;have f:=f.q8 O;have f6:b≠b1:=by have:=F.lt;omega
  have F:=F.q8 O;have e3:=zdd a.lt a7;have a:=a.k0 O;refine WH.k7 5 rfl oR hasF96 rfl rfl (sZ _ _ _ _ _ _ _ _ _ f j (bX J) (bX b6) (bwj J) (bwj b6)) λv w6 h'=>?_;obtain ⟨hD,k⟩:=h';rw[jJ J b6] at hD;obtain ⟨ra,o4,rfl,z⟩:=hD.cells;rw[<- hA] at z;rw[<- hA];have e9:=z.one;have g:=g.ta k;have F:=F.q8 k;have a:=a.k0 k;have o:=o.k0 k;have i:=i.q8 k;have j:=j.q8 k;have f:=f.q8 k;have q:=q.trans k;refine ⟨q,?_⟩;refine wh 6 rfl q (eM rfl) (wh 7 rfl q (eX rfl rfl) (wh 8 rfl q (eX rfl rfl) ?_));refine WH.sX 10 rfl oR q d0 rfl rfl rfl ao o oS rfl λq3 c1 a8 q=>?_;(try simp only[qt] at c1);have g:=g.s1 a8;have F:=F.kq a8;have a:=a.kq a8;have i:=i.q9 o a8 an;have j:=j.q9 o a8 an;have f:=f.q9 o a8 an;have z:=z.q9 o a8 an;have o:=c1;refine wh 11 rfl q (eA rfl) ?_;refine WH.done oR (g3 _ _ _ ?_);exact ⟨rfl,b1,ra,F,i,j,a,f,o,z,g,(by first|((repeat (first|exact j0.refl|refine j0.oZ (by rfl) ?_));done)|((repeat (first|exact j0.nil|refine j0.cons rfl ?_));done))⟩
 rintro _ s' wJ ⟨rfl,b1,ra,F,i,j,a,f,o,z,g,d4⟩;refine CW.sub d4 ?_;have e7:=f.one;have e9:=z.one;refine CW.anj (λD s' w'=>D=[]/\∃ (b1:Nat) (ra:Value) (c4:Nat) (rb:Value),BK w' b 148 [.int .i64 (S.s.na:Int),.int .i64 (S.s.up:Int),.int .i64 (S.s.dn:Int),.int .i64 (S.s.mi:Int),.int .i64 (S.s.pl:Int),.int .i64 (S.s.al:Int),.bool S.V.neg,rv,.int .i64 S.V.e,.bool S.Q.neg,rq,.int .i64 S.Q.e,.float .f64 S.lo,.float .f64 S.hi]/\NU w' rv (wd S.V.m)/\NU w' rq (wd S.Q.m)/\BK w' d6 89 [.bool (cJ S.fin).neg,rn,.int .i64 (cJ S.fin).e]/\NU w' rn (wd (cJ S.fin).m)/\BK w' b1 89 [.bool A.neg,ra,.int .i64 A.e]/\NU w' ra (wd A.m)/\BK w' c4 89 [.bool B.neg,rb,.int .i64 B.e]/\NU w' rb (wd B.m)/\Chg [] w w'/\j0 [(0,.pointer (some ⟨b,0,none⟩)),(1,.int .i64 M),(2,.int .i64 mode),(11,.int .i64 S.fin),(12,.pointer (some ⟨d6,0,none⟩)),(13,.pointer (some ⟨b1,0,none⟩)),(15,.pointer (some ⟨c4,0,none⟩))] s') ?_ ?_
 ·refine CW.cQ 15 rfl dZ λr2 g2 q I=>?_;have g:=g.ta I;have F:=F.q8 I;have a:=a.k0 I;have o:=o.k0 I;have i:=i.q8 I;have j:=j.q8 I;have f:=f.q8 I;have z:=z.q8 I;have d9:=F;refine wh 0 rfl q (eM rfl) (wh 1 rfl q (eP rfl) (wh 2 rfl q (eF rfl) (wh 3 rfl q (λ_ c8=>Ev.fZ rfl rfl (d9.q8 c8) rfl rfl) ?_)))
  try simp only[oL]
  refine wh 4 rfl q (eM rfl) (wh 5 rfl q (eP rfl) (wh 6 rfl q (eF rfl) (wh 7 rfl q (λ_ c8=>Ev.fZ rfl rfl (d9.q8 c8) rfl rfl) ?_)))
  try simp only[oL]
  refine WH.c4q 8 12 oR ?_ ?_
  ·refine ahj.call 8 rfl hasF96 rfl rfl (sZ _ _ _ _ _ _ _ _ _ i i (bX X) (bX X) (bwj X) (bwj X)) λv w7 h'=>?_;obtain ⟨hD,k⟩:=h';rw[jJ X X] at hD;obtain ⟨rb,o3,rfl,R⟩:=hD.cells;rw[<- hB] at R;rw[<- hB];have g4:=R.one;have g:=g.ta k;have F:=F.q8 k;have a:=a.k0 k;have o:=o.k0 k;have i:=i.q8 k;have j:=j.q8 k;have f:=f.q8 k;have z:=z.q8 k;have q:=q.trans k;refine ⟨q,?_⟩;refine wh 9 rfl q (eM rfl) (wh 10 rfl q (eX rfl rfl) (wh 11 rfl q (eX rfl rfl) ?_));refine WH.wQ (l:=[.bool false,.slice none 0 0,.int .i64 0]) 12 rfl oR q rfl rfl λc4 k5 t G Y b4=>?_;have c9:=Nat.le_trans q.size Y;have q:=b4;have e4:=Nat.le_trans g.size Y;have g:=g.ta G;have i:=i.q8 G;have j:=j.q8 G;have f:=f.q8 G;have z:=z.q8 G;have R:=R.q8 G;have f5:b≠c4:=by have:=F.lt;omega
   have F:=F.q8 G;have e2:=zdd a.lt Y;have a:=a.k0 G;have e1:=zdd o.lt Y;have o:=o.k0 G;refine WH.sX 13 rfl oR q c9 rfl rfl rfl ao t oS rfl λq2 b9 a3 q=>?_;(try simp only[qt] at b9);have g:=g.s1 a3;have F:=F.kq a3;have a:=a.kq a3;have o:=o.kq a3;have i:=i.q9 t a3 an;have j:=j.q9 t a3 an;have f:=f.q9 t a3 an;have z:=z.q9 t a3 an;have R:=R.q9 t a3 an;have t:=b9;refine wh 14 rfl q (eA rfl) ?_;refine WH.done oR (g2 _ _ _ ?_);exact ⟨rfl,b1,ra,c4,rb,F,i,j,a,f,o,z,t,R,g,(by first|((repeat (first|exact j0.refl|refine j0.oZ (by rfl) ?_));done)|((repeat (first|exact j0.nil|refine j0.cons rfl ?_));done))⟩
  refine ahj.wQ (l:=[.bool false,.slice none 0 0,.int .i64 0]) 12 rfl q rfl rfl λc4 k5 t G Y b4=>?_;have c9:=Nat.le_trans q.size Y;have q:=b4;have e4:=Nat.le_trans g.size Y;have g:=g.ta G;have i:=i.q8 G;have j:=j.q8 G;have f:=f.q8 G;have z:=z.q8 G;have f5:b≠c4:=by have:=F.lt;omega
  have F:=F.q8 G;have e2:=zdd a.lt Y;have a:=a.k0 G;have e1:=zdd o.lt Y;have o:=o.k0 G;refine WH.k7 8 rfl oR hasF96 rfl rfl (sZ _ _ _ _ _ _ _ _ _ i i (bX X) (bX X) (bwj X) (bwj X)) λv w8 h'=>?_;obtain ⟨hD,k⟩:=h';rw[jJ X X] at hD;obtain ⟨rb,o3,rfl,R⟩:=hD.cells;rw[<- hB] at R;rw[<- hB];have g4:=R.one;have g:=g.ta k;have F:=F.q8 k;have a:=a.k0 k;have o:=o.k0 k;have t:=t.k0 k;have i:=i.q8 k;have j:=j.q8 k;have f:=f.q8 k;have z:=z.q8 k;have q:=q.trans k;refine ⟨q,?_⟩;refine wh 9 rfl q (eM rfl) (wh 10 rfl q (eX rfl rfl) (wh 11 rfl q (eX rfl rfl) ?_));refine WH.sX 13 rfl oR q c9 rfl rfl rfl ao t oS rfl λq1 b9 a2 q=>?_;(try simp only[qt] at b9);have g:=g.s1 a2;have F:=F.kq a2;have a:=a.kq a2;have o:=o.kq a2;have i:=i.q9 t a2 an;have j:=j.q9 t a2 an;have f:=f.q9 t a2 an;have z:=z.q9 t a2 an;have R:=R.q9 t a2 an;have t:=b9;refine wh 14 rfl q (eA rfl) ?_;refine WH.done oR (g2 _ _ _ ?_);exact ⟨rfl,b1,ra,c4,rb,F,i,j,a,f,o,z,t,R,g,(by first|((repeat (first|exact j0.refl|refine j0.oZ (by rfl) ?_));done)|((repeat (first|exact j0.nil|refine j0.cons rfl ?_));done))⟩
 rintro _ s' wJ ⟨rfl,b1,ra,c4,rb,F,i,j,a,f,o,z,t,R,g,d4⟩;refine CW.sub d4 ?_;have e7:=f.one;have e9:=z.one;have g4:=R.one;refine Sr λ_ l4=>zg o rfl (zg t rfl ?_);refine WL.call hasF111 rfl rfl (r3Sub_spec _ _ _ _ _ _ _ _ _ z R (bX d7) (bX h1) (bwj d7) (bwj h1)) λv w9 h'=>?_;obtain ⟨hD,k⟩:=h';rw[g7,g7,nQ d7] at hD;obtain ⟨rc,kc,rfl,r⟩:=DR.cells (x:=crj A B) hD;rw[<- f7] at r;rw[<- f7];have n1:=r.one;have g:=g.ta k;have F:=F.q8 k;have a:=a.k0 k;have t:=t.k0 k;have i:=i.q8 k;have j:=j.q8 k;have f:=f.q8 k;refine zm rfl (zx rfl rfl (zx rfl rfl ?_));refine zAh rfl rfl g λc3 q6 n b0 f0 k1 g=>?_;have i:=i.q8 b0;have j:=j.q8 b0;have f:=f.q8 b0;have r:=r.q8 b0;have o0:b≠c3:=by have:=F.lt;omega
 have F:=F.q8 b0;have i8:=zdd a.lt f0;have a:=a.k0 b0;have i7:=zdd t.lt f0;have t:=t.k0 b0;refine zss rfl rfl ao n rfl λq0 f2 a4=>?_;(try simp only[qt] at f2);have g:=g.s1 a4;have F:=F.kq a4;have a:=a.kq a4;have t:=t.kq a4;have i:=i.q9 n a4 an;have j:=j.q9 n a4 an;have f:=f.q9 n a4 an;have r:=r.q9 n a4 an;have n:=f2;refine za rfl (zz (l4 ?_));refine CW.anj (λD s' w'=>D=[]/\∃ (c3:Nat) (rc:Value) (a6:Nat) (rd:Value),BK w' b 148 [.int .i64 (S.s.na:Int),.int .i64 (S.s.up:Int),.int .i64 (S.s.dn:Int),.int .i64 (S.s.mi:Int),.int .i64 (S.s.pl:Int),.int .i64 (S.s.al:Int),.bool S.V.neg,rv,.int .i64 S.V.e,.bool S.Q.neg,rq,.int .i64 S.Q.e,.float .f64 S.lo,.float .f64 S.hi]/\NU w' rv (wd S.V.m)/\NU w' rq (wd S.Q.m)/\BK w' d6 89 [.bool (cJ S.fin).neg,rn,.int .i64 (cJ S.fin).e]/\NU w' rn (wd (cJ S.fin).m)/\BK w' c3 89 [.bool C.neg,rc,.int .i64 C.e]/\NU w' rc (wd C.m)/\BK w' a6 89 [.bool E.neg,rd,.int .i64 E.e]/\NU w' rd (wd E.m)/\Chg [] w w'/\j0 [(0,.pointer (some ⟨b,0,none⟩)),(1,.int .i64 M),(2,.int .i64 mode),(11,.int .i64 S.fin),(12,.pointer (some ⟨d6,0,none⟩)),(17,.pointer (some ⟨c3,0,none⟩)),(19,.pointer (some ⟨a6,0,none⟩))] s') ?_ ?_
 ·refine CW.cQ 12 rfl dZ λr1 e6 q I=>?_;have g:=g.ta I;have F:=F.q8 I;have a:=a.k0 I;have t:=t.k0 I;have n:=n.k0 I;have i:=i.q8 I;have j:=j.q8 I;have f:=f.q8 I;have r:=r.q8 I;have d2:=a;refine wh 0 rfl q (λ_ c8=>Ev.rZ rfl rfl (d2.q8 c8) rfl) (wh 1 rfl q (eM rfl) (wh 2 rfl q (eM rfl) (wh 3 rfl q (λ_ _=>Ev.dX rfl rfl (by unfold Sh.fin at *;omega)) ?_)));refine WH.c4q 4 9 oR ?_ ?_
  ·refine ahj.call 4 rfl hasF109 rfl rfl (baj (S.fin-M) _ (by unfold Sh.fin at *;omega)) λv s4 h'=>?_;obtain ⟨⟨rm,rfl,b5⟩,k⟩:=h';have U:(cJ (S.fin-M)).ok:=xZ (by unfold Sh.fin at *;omega);have n0:=b5.one;have g:=g.ta k;have F:=F.q8 k;have a:=a.k0 k;have t:=t.k0 k;have n:=n.k0 k;have i:=i.q8 k;have j:=j.q8 k;have f:=f.q8 k;have r:=r.q8 k;have q:=q.trans k;refine ⟨q,?_⟩;refine WH.c4q 5 9 oR ?_ ?_
   ·refine ahj.call 5 rfl hasF96 rfl rfl (sZ _ _ _ _ _ _ _ _ _ f b5 (bX J) (bX U) (bwj J) (bwj U)) λv s3 h'=>?_;obtain ⟨hD,k⟩:=h';rw[jJ J U] at hD;obtain ⟨rd,l1,rfl,H⟩:=hD.cells;rw[<- hE] at H;rw[<- hE];have e8:=H.one;have g:=g.ta k;have F:=F.q8 k;have a:=a.k0 k;have t:=t.k0 k;have n:=n.k0 k;have i:=i.q8 k;have j:=j.q8 k;have f:=f.q8 k;have r:=r.q8 k;have q:=q.trans k;refine ⟨q,?_⟩;refine wh 6 rfl q (eM rfl) (wh 7 rfl q (eX rfl rfl) (wh 8 rfl q (eX rfl rfl) ?_));refine WH.wQ (l:=[.bool false,.slice none 0 0,.int .i64 0]) 9 rfl oR q rfl rfl λa6 f8 y p T b4=>?_;have b2:=Nat.le_trans q.size T;have q:=b4;have c7:=Nat.le_trans g.size T;have g:=g.ta p;have i:=i.q8 p;have j:=j.q8 p;have f:=f.q8 p;have r:=r.q8 p;have H:=H.q8 p;have d8:b≠a6:=by have:=F.lt;omega
    have F:=F.q8 p;have c6:=zdd a.lt T;have a:=a.k0 p;have i6:c4≠a6:=by have:=t.lt;omega
    have c5:c3≠a6:=by have:=n.lt;omega
    have n:=n.k0 p;refine WH.sX 10 rfl oR q b2 rfl rfl rfl ao y oS rfl λp9 a5 a1 q=>?_;(try simp only[qt] at a5);have g:=g.s1 a1;have F:=F.kq a1;have a:=a.kq a1;have n:=n.kq a1;have i:=i.q9 y a1 an;have j:=j.q9 y a1 an;have f:=f.q9 y a1 an;have r:=r.q9 y a1 an;have H:=H.q9 y a1 an;have y:=a5;refine wh 11 rfl q (eA rfl) ?_;refine WH.done oR (e6 _ _ _ ?_);exact ⟨rfl,c3,rc,a6,rd,F,i,j,a,f,n,r,y,H,g,(by first|((repeat (first|exact j0.refl|refine j0.oZ (by rfl) ?_));done)|((repeat (first|exact j0.nil|refine j0.cons rfl ?_));done))⟩
   refine ahj.wQ (l:=[.bool false,.slice none 0 0,.int .i64 0]) 9 rfl q rfl rfl λa6 f8 y p T b4=>?_;have b2:=Nat.le_trans q.size T;have q:=b4;have c7:=Nat.le_trans g.size T;have g:=g.ta p;have i:=i.q8 p;have j:=j.q8 p;have f:=f.q8 p;have r:=r.q8 p;have b5:=b5.q8 p;have d8:b≠a6:=by have:=F.lt;omega
   have F:=F.q8 p;have c6:=zdd a.lt T;have a:=a.k0 p;have c5:c3≠a6:=by have:=n.lt;omega
   have n:=n.k0 p;refine WH.k7 5 rfl oR hasF96 rfl rfl (sZ _ _ _ _ _ _ _ _ _ f b5 (bX J) (bX U) (bwj J) (bwj U)) λv w12 h'=>?_;obtain ⟨hD,k⟩:=h';rw[jJ J U] at hD;obtain ⟨rd,l1,rfl,H⟩:=hD.cells;rw[<- hE] at H;rw[<- hE];have e8:=H.one;have g:=g.ta k;have F:=F.q8 k;have a:=a.k0 k;have n:=n.k0 k;have y:=y.k0 k;have i:=i.q8 k;have j:=j.q8 k;have f:=f.q8 k;have r:=r.q8 k;have q:=q.trans k;refine ⟨q,?_⟩;refine wh 6 rfl q (eM rfl) (wh 7 rfl q (eX rfl rfl) (wh 8 rfl q (eX rfl rfl) ?_));refine WH.sX 10 rfl oR q b2 rfl rfl rfl ao y oS rfl λp8 a5 a0 q=>?_;(try simp only[qt] at a5);have g:=g.s1 a0;have F:=F.kq a0;have a:=a.kq a0;have n:=n.kq a0;have i:=i.q9 y a0 an;have j:=j.q9 y a0 an;have f:=f.q9 y a0 an;have r:=r.q9 y a0 an;have H:=H.q9 y a0 an;have y:=a5;refine wh 11 rfl q (eA rfl) ?_;refine WH.done oR (e6 _ _ _ ?_);exact ⟨rfl,c3,rc,a6,rd,F,i,j,a,f,n,r,y,H,g,(by first|((repeat (first|exact j0.refl|refine j0.oZ (by rfl) ?_));done)|((repeat (first|exact j0.nil|refine j0.cons rfl ?_));done))⟩
  refine ahj.wQ (l:=[.bool false,.slice none 0 0,.int .i64 0]) 9 rfl q rfl rfl λa6 f8 y p T b4=>?_;have b2:=Nat.le_trans q.size T;have q:=b4;have c7:=Nat.le_trans g.size T;have g:=g.ta p;have i:=i.q8 p;have j:=j.q8 p;have f:=f.q8 p;have r:=r.q8 p;have d8:b≠a6:=by have:=F.lt;omega
  have F:=F.q8 p;have c6:=zdd a.lt T;have a:=a.k0 p;have c5:c3≠a6:=by have:=n.lt;omega
  have n:=n.k0 p;refine WH.k7 4 rfl oR hasF109 rfl rfl (baj (S.fin-M) _ (by unfold Sh.fin at *;omega)) λv s0 h'=>?_;obtain ⟨⟨rm,rfl,b5⟩,k⟩:=h';have U:(cJ (S.fin-M)).ok:=xZ (by unfold Sh.fin at *;omega);have n0:=b5.one;have g:=g.ta k;have F:=F.q8 k;have a:=a.k0 k;have n:=n.k0 k;have y:=y.k0 k;have i:=i.q8 k;have j:=j.q8 k;have f:=f.q8 k;have r:=r.q8 k;have q:=q.trans k;refine ⟨q,?_⟩;refine WH.k7 5 rfl oR hasF96 rfl rfl (sZ _ _ _ _ _ _ _ _ _ f b5 (bX J) (bX U) (bwj J) (bwj U)) λv r9 h'=>?_;obtain ⟨hD,k⟩:=h';rw[jJ J U] at hD;obtain ⟨rd,l1,rfl,H⟩:=hD.cells;rw[<- hE] at H;rw[<- hE];have e8:=H.one;have g:=g.ta k;have F:=F.q8 k;have a:=a.k0 k;have n:=n.k0 k;have y:=y.k0 k;have i:=i.q8 k;have j:=j.q8 k;have f:=f.q8 k;have r:=r.q8 k;have q:=q.trans k;refine ⟨q,?_⟩;refine wh 6 rfl q (eM rfl) (wh 7 rfl q (eX rfl rfl) (wh 8 rfl q (eX rfl rfl) ?_));refine WH.sX 10 rfl oR q b2 rfl rfl rfl ao y oS rfl λp7 a5 Z q=>?_;(try simp only[qt] at a5);have g:=g.s1 Z;have F:=F.kq Z;have a:=a.kq Z;have n:=n.kq Z;have i:=i.q9 y Z an;have j:=j.q9 y Z an;have f:=f.q9 y Z an;have r:=r.q9 y Z an;have H:=H.q9 y Z an;have y:=a5;refine wh 11 rfl q (eA rfl) ?_;refine WH.done oR (e6 _ _ _ ?_);exact ⟨rfl,c3,rc,a6,rd,F,i,j,a,f,n,r,y,H,g,(by first|((repeat (first|exact j0.refl|refine j0.oZ (by rfl) ?_));done)|((repeat (first|exact j0.nil|refine j0.cons rfl ?_));done))⟩
 rintro _ s' wJ ⟨rfl,c3,rc,a6,rd,F,i,j,a,f,n,r,y,H,g,d4⟩;refine CW.sub d4 ?_;have e7:=f.one;have n1:=r.one;have e8:=H.one;refine Sr λ_ l3=>zg n rfl (zg y rfl ?_);refine WL.ev (Ev.build (vs:=_) (cs:=[_,_,_,_,_,_]) rfl rfl) rfl ?_;refine zm rfl ?_;refine WL.call hasF108 rfl rfl (clj _ _ _ _ _ _ _ _ mode _ r H (bX g9) (bX g5) (bwj g9) (bwj g5)) λv r8 h'=>?_;obtain ⟨⟨xb,xe,rfl,hR⟩,k⟩:=h';rw[g7,g7] at hR;have g:=g.ta k;refine zx rfl rfl (zx rfl rfl (za rfl (za rfl (zz (l3 ?_)))));refine zr (zr2 rfl rfl rfl ?_);refine ⟨⟨_,_,rfl,?_⟩,g⟩;refine .inr ⟨hl,.inr ⟨h0,.inr ⟨n7,.inr ⟨hf,?_⟩⟩⟩⟩;rw[n2,n6];exact hR
def leB(n k:Nat):List Nat:=(List.range k).map λi=>n/256^i%256
theorem leB_zero(n:Nat):leB n 0=[]:=rfl
theorem dpj(n k:Nat):leB n (k+1)=leB n k++[n/256^k%256]:=by unfold leB;rw[List.range_succ,List.map_append];rfl
theorem iQ(n k:Nat):(leB n k).length=k:=by unfold leB;rw[List.length_map,List.length_range]
def alq(d:Dy):List Nat:=leB (if d.neg=true then 1 else 0) 1++leB (d.e+4096).toNat 2++leB (wd d.m).length 2++((wd d.m).map λx=>leB x 4).flatten
def ahx(S:Sh):List Nat:=leB S.s.na 8++leB S.s.up 8++leB S.s.dn 8++leB S.s.mi 8++leB S.s.pl 8++leB S.s.al 8++alq S.V++alq S.Q++(if S.some then leB S.lo 8++leB S.hi 8 else [])
theorem chq.refl(w:World)(v:Value):chq w v v:=λb h=>.inl h
theorem chq.trans{w w':World}{v v' a:Value}(h:chq w v v')(e:chq w' v' a)(d:w.heap.size<=w'.heap.size):chq w v a:=λb hb=>by
  rcases e b hb with q|q
  · exact h b q
  · exact .inr (Nat.le_trans d q)
theorem Chg.grew{a w w':World}{v v':Value}(h:Chg v.ownBlock.toList a w)(b:Chg v'.ownBlock.toList w w')(d:chq a v v'):Chg v.ownBlock.toList a w':=h.step b λy hy=>by
  rcases d y (Option.mem_toList.1 hy) with q|q
  · exact .inl (Option.mem_toList.2 q)
  · exact .inr q
structure YG(lo:Nat)(v0:Value)(w0:World)(v:Value)(L:List Nat)(w:World):Prop where
  g:GR w 5 u8v lo [] v L
  ch:Chg v0.ownBlock.toList w0 w
  gr:chq w0 v0 v
theorem YG.q8{lo:Nat}{b v:Value}{a w w':World}{L:List Nat}(h:YG lo b a v L w)(d:Chg [] w w'):YG lo b a v L w':=⟨h.g.q8 d,h.ch.trans (Chg.any d),h.gr⟩
theorem YG.start{lo:Nat}{v:Value}{w:World}{L:List Nat}(h:GR w 5 u8v lo [] v L):YG lo v w v L w:=⟨h,Chg.refl _ _,chq.refl _ _⟩
theorem YG.next{lo:Nat}{d v v':Value}{b w w':World}{L e:List Nat}(h:YG lo d b v L w)(a:YG lo v w v' e w'):YG lo d b v' e w':=⟨a.g,Chg.grew h.ch a.ch h.gr,h.gr.trans a.gr h.ch.size⟩
structure KPt(lo k n:Nat)(L:List Nat)(v0:Value)(w0:World)(g:Nat×Value)(w:World):Prop where
  hi:g.1<=k
  y:YG lo v0 w0 g.2 (L++leB n g.1) w
theorem bbj(lo n k:Nat)(h:Value)(L:List Nat)(w:World)(M:GR w 5 u8v lo [] h L)(C:lo<=w.heap.size)(T:n<18446744073709551616)(U:k<=8)(V:L.length<=1000000000):Ret Tryz.prog 189 [h,.int .u64 (n:Int),.int .i64 (k:Int)] w λu w'=>YG lo h w u (L++leB n k) w':=by
 have a:=YG.start M;refine zE3 Tryz.func189 rfl ?_;refine Sr λ_ B=>za rfl (zz (B (zc λ_ A=>Sr λ_ z=>za rfl (zz (z (CW.block ?_))))));refine CW.loop (S:=λg:Nat×Value=>[(0,g.2),(1,.int .u64 ((n/256^g.1:Nat):Int)),(2,.int .i64 (k:Int)),(7,.int .i64 (g.1:Int))]) (Inv:=KPt lo k n L h w) (mu:=λg=>k-g.1) ((0,h)) ?_ ?_ ?_
 ·exact ⟨Nat.zero_le _,by dsimp only;rw[leB_zero,List.append_nil];exact a⟩
 ·refine j0.cons rfl (j0.cons (by show _=some (Value.int .u64 ((n/256^0:Nat):Int));rw[Nat.pow_zero,Nat.div_one];rfl) (j0.cons rfl (j0.cons rfl j0.nil)))
 rintro ⟨i,R⟩ Q ⟨J,a⟩;dsimp only at J a;dsimp only;have I:n/256^i<=n:=Nat.div_le_self _ _;refine zc λ_ y=>Sr λ_ x=>zm rfl (zm rfl (zL rfl rfl (zz (x ?_))));refine zy rfl ?_ ?_<;>intro F<;>try simp only[qs] at F
 ·refine zkk (y (zc λ_ v=>CW.block (Sr λ_ p=>zm rfl (zm rfl ?_))));refine WL.ev (Ev.coq rfl rfl) rfl ?_
  refine WL.buildSlice (m:=1) (cs:=[u8v (n/256^i%256)]) oD oD rfl oR rfl λO H d=>?_;have r:=d.at_;have a:=a.q8 d.chg;refine WL.growV (f:=u8v) (news:=[n/256^i%256]) (by rfl) (λ_=>rfl) rfl rfl a.g rfl (RW.one_f r rfl) (Nat.le_trans C a.ch.size) (by simp only[List.length_append,iQ,List.length_cons,List.length_nil];omega) (by simp only[List.length_append,iQ,List.length_cons,List.length_nil];omega) rfl λt G e q s _=>?_;rw[List.append_assoc,<- dpj] at e;have a:=a.next ⟨e,q,s⟩
  refine za rfl (zz (p ?_));refine zR λ_ l=>?_;refine zm rfl ?_;refine WL.ev (Ev.avx (b:=8) rfl rfl (by simp only[IntKind.bits];omega)) rfl ?_;rw[Nat.div_div_eq_div_mul,show (256:Nat)^i*2^8=256^(i+1) from rfl];refine za rfl ?_;refine WL.nil (l _ _ _ (v ?_));refine zS λ_ j=>zm rfl ?_;(first|refine zi rfl rfl ?_|refine zo rfl rfl ?_);refine za rfl (zz (j ?_));refine ⟨rfl,(i+1,t),?_,?_,?_⟩
  ·exact SLp
  ·exact ⟨by dsimp only;omega,a⟩
  show k-(i+1)<k-i;omega
 have D:i=k:=by omega
 subst D;refine CW.exit ?_;refine A (Sr λ_ o=>zm rfl (za rfl (zz (o ?_))));refine zr (zr1 rfl rfl ?_);exact a
theorem d9q{l:List Nat}{i:Nat}(h:i<l.length):((l.take (i+1)).map λy=>leB y 4).flatten=((l.take i).map λy=>leB y 4).flatten++leB (l.getD i 0) 4:=by
  rw[asq h,List.map_append,List.flatten_append];simp
theorem bpj(l:List Nat):((l.map λy=>leB y 4).flatten).length=4*l.length:=by
  induction l with
  | nil=>rfl
  | cons a l ih=>rw[List.map_cons,List.flatten_cons,List.length_append,iQ,ih,List.length_cons];omega
theorem GR.notM{w:World}{e T:TypeId}{f:Nat->Value}{lo bk:Nat}{X:List Nat}{v:Value}{l:List Nat}{cs:List Value}(h:GR w e f lo X v l)(b:BK w bk T cs)(a:e≠T):bk∉v.ownBlock.toList:=λq=>h.dnq b a (Option.mem_toList.1 q)
structure KPd(x:Dy)(b3 cx:Nat)(ax:Option Addr)(L:List Nat)(w0:World)(g:Nat×Value)(w:World):Prop where
  hi:g.1<=(wd x.m).length
  hb:BK w b3 89 [.bool x.neg,.slice ax (wd x.m).length cx,.int .i64 x.e]
  g:GR w 5 u8v w0.heap.size [] g.2 (L++(((wd x.m).take g.1).map λy=>leB y 4).flatten)
  ch:Chg [] w0 w
theorem cmx(x:Dy)(rx J:Value)(L:List Nat)(h w:World)(a3:NU h rx (wd x.m))(b:Chg [] h w)(a:GR w 5 u8v h.heap.size [] J L)(he : -4096<=x.e/\x.e<=61439)(hl:(wd x.m).length<=65535)(hL:L.length<=1000000):Ret Tryz.prog 190 [J,.agg [.bool x.neg,rx,.int .i64 x.e].toArray] w λu w'=>GR w' 5 u8v h.heap.size [] u (L++alq x)/\Chg [] h w':=by
 obtain ⟨⟨I,H,rfl,a0,B⟩,a2,b1⟩:=a3;have b4:=a.one;refine zE2 Tryz.func190 rfl ?_;refine Sr λ_ X=>?_;refine zBh rfl rfl rfl b λM a7 d F a6 C b=>?_;have a:=a.q8 F;refine za rfl (zz (X (Sr λ_ V=>za rfl (zz (V ?_)))));refine CW.anj (λD s' w'=>D=[]/\BK w' M 89 [.bool x.neg,.slice I (wd x.m).length H,.int .i64 x.e]/\GR w' 5 u8v h.heap.size [] J L/\Chg [] h w'/\j0 [(0,J),(3,.pointer (some ⟨M,0,none⟩)),(5,.int .u64 (((if x.neg=true then 1 else 0):Nat):Int))] s') ?_ ?_
 ·refine Sr λ_ U=>zf rfl (zl d rfl rfl (zz (U ?_)));refine zy rfl ?_ ?_<;>intro k<;>try simp only[qs] at k
  ·have j:=k
   rw[if_pos j];refine zS λ_ R=>za rfl (zz (R ?_));exact ⟨rfl,d,a,b,(by first|((repeat (first|exact j0.refl|refine j0.oZ (by rfl) ?_));done)|((repeat (first|exact j0.nil|refine j0.cons rfl ?_));done))⟩
  have j : ¬x.neg=true:=by simpa using k
  rw[if_neg j];refine zkk ?_;exact ⟨rfl,d,a,b,(by first|((repeat (first|exact j0.refl|refine j0.oZ (by rfl) ?_));done)|((repeat (first|exact j0.nil|refine j0.cons rfl ?_));done))⟩
 rintro _ s' wJ ⟨rfl,d,a,b,A⟩;refine CW.sub A ?_;refine Sr λ_ T=>zm rfl (zm rfl ?_);refine WL.call hasF189 rfl rfl (bbj h.heap.size ((if x.neg=true then 1 else 0)) 1 _ _ _ a b.size (by split<;>omega) oD (by first|omega|(simp only[List.length_append,iQ,bpj,List.length_take];omega))) λa9 w1 f=>?_;have d:=d.dJ f.ch (a.notM d oD);have b:=GR.frame a f.ch b (Nat.le_refl _);have a:=f.g;refine za rfl (zz (T (Sr λ_ z=>zm rfl (zf rfl (zl d rfl rfl ?_)))));refine WL.ev (Ev.kQ rfl rfl oO) rfl ?_;obtain ⟨G,Z⟩ : ∃ G:Nat,(G:Int)=x.e+4096:=⟨(x.e+4096).toNat,by omega⟩;rw[<- Z];refine WL.ev (Ev.eZ rfl rfl (jX oO)) rfl ?_;refine WL.call hasF189 rfl rfl (bbj h.heap.size (G) 2 _ _ _ a b.size oO oD (by first|omega|(simp only[List.length_append,iQ,bpj,List.length_take];omega))) λa8 w2 f=>?_;have d:=d.dJ f.ch (a.notM d oD);have b:=GR.frame a f.ch b (Nat.le_refl _);have a:=f.g;refine za rfl (zz (z (Sr λ_ y=>zm rfl (zf rfl ?_))));refine WL.ev (Ev.load (v:=.slice I (wd x.m).length H) rfl rfl (d.at_ rfl)) rfl ?_;refine zn rfl ?_;refine WL.ev (Ev.eZ rfl rfl (jX oO)) rfl ?_;refine WL.call hasF189 rfl rfl (bbj h.heap.size ((wd x.m).length) 2 _ _ _ a b.size oO oD (by first|omega|(simp only[List.length_append,iQ,bpj,List.length_take];omega))) λQ w3 f=>?_;have d:=d.dJ f.ch (a.notM d oD);have b:=GR.frame a f.ch b (Nat.le_refl _);have a:=f.g;refine za rfl (zz (y (zc λ_ t=>Sr λ_ s=>za rfl (zz (s (CW.block ?_))))));refine CW.loop (S:=λg:Nat×Value=>[(0,g.2),(3,.pointer (some ⟨M,0,none⟩)),(6,.int .i64 (g.1:Int))]) (Inv:=KPd x M H I (((L++leB (if x.neg=true then 1 else 0) 1)++leB G 2)++leB (wd x.m).length 2) h) (mu:=λg=>(wd x.m).length-g.1) ((0,Q)) ?_ ?_ ?_
 ·exact ⟨Nat.zero_le _,d,by dsimp only;rw[List.take_zero,List.map_nil,List.flatten_nil,List.append_nil];exact a,b⟩
 ·exact SLp
 rintro ⟨i,vi⟩ wr ⟨hi,d,a,b⟩;dsimp only at hi d a b;dsimp only;refine zc λ_ r=>Sr λ_ q=>zm rfl (zf rfl ?_);refine WL.ev (Ev.load (v:=.slice I (wd x.m).length H) rfl rfl (d.at_ rfl)) rfl ?_;refine zn rfl (zL rfl rfl (zz (q ?_)));refine zy rfl ?_ ?_<;>intro a1<;>try simp only[qs] at a1
 ·have b0:=a2.getD i
  refine zkk (r (zc λ_ p=>CW.block ?_));refine zR λ_ n=>?_;refine zm rfl (zf rfl ?_);refine WL.ev (Ev.load (v:=.slice I (wd x.m).length H) rfl rfl (d.at_ rfl)) rfl ?_;refine zm rfl ?_;refine WL.ev (Ev.ixR (i) rfl rfl (B.q8 b) oO oO oT) rfl ?_;refine WL.ev (Ev.load rfl rfl ((B.q8 b).u32 oF)) rfl ?_;refine WL.ev (Ev.eZ rfl rfl (jX oO)) rfl ?_;refine WL.call hasF189 rfl rfl (bbj h.heap.size ((wd x.m).getD i 0) 4 _ _ _ a b.size oO oD (by first|omega|(simp only[List.length_append,iQ,bpj,List.length_take];omega))) λO w4 f=>?_;have d:=d.dJ f.ch (a.notM d oD);have b:=GR.frame a f.ch b (Nat.le_refl _);have a:=f.g;rw[List.append_assoc,<- d9q oO] at a;refine za rfl ?_;refine WL.nil (n _ _ _ (p ?_));refine zS λ_ l=>zm rfl ?_;(first|refine zi rfl rfl ?_|refine zo rfl rfl ?_);refine za rfl (zz (l ?_));refine ⟨rfl,(i+1,O),?_,?_,?_⟩
  ·exact SLp
  ·exact ⟨by dsimp only;omega,d,a,b⟩
  show (wd x.m).length-(i+1)<(wd x.m).length-i;omega
 have Y:i=(wd x.m).length:=by omega
 subst Y;rw[List.take_length] at a;refine CW.exit ?_;refine t (Sr λ_ o=>zm rfl (za rfl (zz (o ?_))));refine zr (zr1 rfl rfl ?_);refine ⟨?_,b⟩;have e1:(x.e+4096).toNat=G:=by omega
 unfold alq;rw[e1,<- List.append_assoc,<- List.append_assoc,<- List.append_assoc];exact a
structure Sh.ex(S:Sh):Prop where
  v : -4096<=S.V.e/\S.V.e<=61439
  q : -4096<=S.Q.e/\S.Q.e<=61439
  lv:(wd S.V.m).length<=160
  lq:(wd S.Q.m).length<=160
theorem pJ(d:Dy):(alq d).length=5+4*(wd d.m).length:=by
  unfold alq
  rw[List.length_append,List.length_append,List.length_append,iQ,iQ,iQ,bpj]
structure KEn(b bc:Nat)(S:Sh)(rv rq:Value)(w0:World)(g:Nat×Value)(w:World):Prop where
  hi:g.1<=6
  hb:BK w b 148 [.int .i64 (S.s.na:Int),.int .i64 (S.s.up:Int),.int .i64 (S.s.dn:Int),.int .i64 (S.s.mi:Int),.int .i64 (S.s.pl:Int),.int .i64 (S.s.al:Int),.bool S.V.neg,rv,.int .i64 S.V.e,.bool S.Q.neg,rq,.int .i64 S.Q.e,.float .f64 S.lo,.float .f64 S.hi]
  hc:BK w bc 3 [.int .i64 (S.s.na:Int),.int .i64 (S.s.up:Int),.int .i64 (S.s.dn:Int),.int .i64 (S.s.mi:Int),.int .i64 (S.s.pl:Int),.int .i64 (S.s.al:Int)]
  g:GR w 5 u8v w0.heap.size [] g.2 ((([S.s.na,S.s.up,S.s.dn,S.s.mi,S.s.pl,S.s.al].take g.1).map λy=>leB y 8).flatten)
  ch:Chg [] w0 w
theorem cnt6_le{s:SP}(h:s.le 1099511627776)(i:Nat):[s.na,s.up,s.dn,s.mi,s.pl,s.al].getD i 0<=1099511627776:=by
  obtain ⟨a,b,c,d,e,f⟩:=h
  match i with
  | 0=>exact a
  | 1=>exact b
  | 2=>exact c
  | 3=>exact d
  | 4=>exact e
  | 5=>exact f
  | (_+6)=>exact Nat.zero_le _
theorem cnt6_at(s:SP){i:Nat}(h:i<6):[Value.int .i64 (s.na:Int),.int .i64 (s.up:Int),.int .i64 (s.dn:Int),.int .i64 (s.mi:Int),.int .i64 (s.pl:Int),.int .i64 (s.al:Int)][i]?=some (.int .i64 (([s.na,s.up,s.dn,s.mi,s.pl,s.al].getD i 0:Nat):Int)):=by
  have a:i=0\/i=1\/i=2\/i=3\/i=4\/i=5:=by omega
  rcases a with rfl|rfl|rfl|rfl|rfl|rfl<;>rfl
theorem dtj{l:List Nat}{i:Nat}(h:i<l.length):((l.take (i+1)).map λy=>leB y 8).flatten=((l.take i).map λy=>leB y 8).flatten++leB (l.getD i 0) 8:=by
  rw[asq h,List.map_append,List.flatten_append];simp
theorem qQ(l:List Nat):((l.map λy=>leB y 8).flatten).length=8*l.length:=by
  induction l with
  | nil=>rfl
  | cons a l ih=>rw[List.map_cons,List.flatten_cons,List.length_append,iQ,ih,List.length_cons];omega
theorem dkq(b:Nat)(S:Sh)(w:World)(f:ShM 148 w b S)(b7:S.wf)(z:S.num)(p:S.ex):Ret Tryz.prog 113 [.pointer (some ⟨b,0,none⟩)] w λu w'=>GR w' 5 u8v w.heap.size [] u (ahx S)/\Chg [] w w':=by
 obtain ⟨rv,rq,l,A,B⟩:=f;obtain ⟨⟨a4,a3,a2,a1,a0,Z⟩,c2,c3,c4,c5⟩:=b7;have r:=l;have c6:=p.lv;have c7:=p.lq;have a:=crf w;refine zE1 Tryz.func113 rfl ?_;refine Sr λ_ b6=>za rfl (zz (b6 (Sr λ_ b5=>za rfl (zz (b5 (zc λ_ b4=>?_))))));refine CW.cQ 32 rfl dZ λd5 b1 f a6=>?_;have a:=a.ta a6;have l:=l.q8 a6;have n:=l;refine wh 0 rfl f (eM rfl) (wh 1 rfl f (eP rfl) (wh 2 rfl f (eF rfl) (wh 3 rfl f (eF rfl) (wh 4 rfl f (λ_ j=>Ev.load rfl rfl ((n.q8 j).at_ rfl)) (wh 5 rfl f (eM rfl) (wh 6 rfl f (eP rfl) (wh 7 rfl f (eF rfl) (wh 8 rfl f (eF rfl) (wh 9 rfl f (λ_ j=>Ev.load rfl rfl ((n.q8 j).at_ rfl)) (wh 10 rfl f (eM rfl) (wh 11 rfl f (eP rfl) (wh 12 rfl f (eF rfl) (wh 13 rfl f (eF rfl) (wh 14 rfl f (λ_ j=>Ev.load rfl rfl ((n.q8 j).at_ rfl)) (wh 15 rfl f (eM rfl) (wh 16 rfl f (eP rfl) (wh 17 rfl f (eF rfl) (wh 18 rfl f (eF rfl) (wh 19 rfl f (λ_ j=>Ev.load rfl rfl ((n.q8 j).at_ rfl)) (wh 20 rfl f (eM rfl) (wh 21 rfl f (eP rfl) (wh 22 rfl f (eF rfl) (wh 23 rfl f (eF rfl) ?_)))))))))))))))))))))));refine wh 24 rfl f (λ_ j=>Ev.load rfl rfl ((n.q8 j).at_ rfl)) (wh 25 rfl f (eM rfl) (wh 26 rfl f (eP rfl) (wh 27 rfl f (eF rfl) (wh 28 rfl f (eF rfl) (wh 29 rfl f (λ_ j=>Ev.load rfl rfl ((n.q8 j).at_ rfl)) ?_)))));refine WH.buildSlice 30 (m:=6) (cs:=[.int .i64 (S.s.na:Int),.int .i64 (S.s.up:Int),.int .i64 (S.s.dn:Int),.int .i64 (S.s.mi:Int),.int .i64 (S.s.pl:Int),.int .i64 (S.s.al:Int)]) rfl oR oD oD rfl oR rfl λa7 c9 t=>?_;have f:=f.trans t.chg;refine ⟨f,?_⟩;have h:=t.at_;have a:=a.trans t.chg;have l:=l.q8 t.chg;refine wh 31 rfl f (eA rfl) ?_;refine WH.done oR (b1 _ _ _ ?_);refine b4 (zc λ_ b3=>Sr λ_ b2=>za rfl (zz (b2 (CW.block ?_))));refine CW.loop (S:=λg:Nat×Value=>[(0,.pointer (some ⟨b,0,none⟩)),(3,g.2),(4,.slice (some ⟨a7,0,none⟩) 6 6),(5,.int .i64 (g.1:Int))]) (Inv:=KEn b a7 S rv rq w) (mu:=λg=>6-g.1) ((0,.slice none 0 0)) ?_ ?_ ?_
 ·exact ⟨by decide,l,h,GR.nil,a⟩
 ·exact SLp
 rintro ⟨i,vi⟩ wr ⟨hi,l,h,d,a⟩;dsimp only at hi h d a;dsimp only;refine zc λ_ Y=>Sr λ_ X=>zm rfl (zm rfl (zn rfl (zL rfl rfl (zz (X ?_)))));refine zy rfl ?_ ?_<;>intro b9<;>try simp only[qs] at b9
 ·have d6:=cnt6_le ⟨a4,a3,a2,a1,a0,Z⟩ i
  refine zkk (Y (zc λ_ U=>CW.block ?_));refine zR λ_ G=>?_;refine zm rfl (zm rfl (zm rfl ?_));refine WL.ev (Ev.ixB (i) rfl rfl oO oO) rfl ?_;refine WL.ev (Ev.load (v:=.int .i64 (([S.s.na,S.s.up,S.s.dn,S.s.mi,S.s.pl,S.s.al].getD i 0:Nat):Int)) rfl rfl (h.at_ (cnt6_at S.s oO))) rfl ?_;refine WL.ev (Ev.eZ rfl rfl (jX oO)) rfl ?_;refine WL.call hasF189 rfl rfl (bbj w.heap.size ([S.s.na,S.s.up,S.s.dn,S.s.mi,S.s.pl,S.s.al].getD i 0) 8 _ _ _ d a.size oO oD (by first|omega|(simp only[List.length_append,iQ,qQ,pJ,List.length_take,List.length_cons,List.length_nil];omega))) λa8 w1 o=>?_;have a5:=d;have e:=GR.frame d o.ch a (Nat.le_refl _);have l:=r.q8 e;have a:=e;have d:=o.g;have h:=h.dJ o.ch (λq=>absurd q (a5.notM h oD));rw[<- dtj (by simp only[List.length_cons,List.length_nil];omega)] at d;refine za rfl ?_;refine WL.nil (G _ _ _ (U ?_));refine zS λ_ F=>zm rfl ?_;(first|refine zi rfl rfl ?_|refine zo rfl rfl ?_);refine za rfl (zz (F ?_));refine ⟨rfl,(i+1,a8),?_,?_,?_⟩
  ·exact SLp
  ·exact ⟨by dsimp only;omega,l,h,d,a⟩
  show 6-(i+1)<6-i;omega
 have b8:i=6:=by omega
 subst b8;have d:GR wr 5 u8v w.heap.size [] vi (([S.s.na,S.s.up,S.s.dn,S.s.mi,S.s.pl,S.s.al].map λy=>leB y 8).flatten):=d;refine CW.exit ?_;refine b3 (Sr λ_ T=>zm rfl (zm rfl (zP rfl (zf rfl ?_))));refine WL.ev (Ev.fZ rfl rfl l rfl rfl) rfl ?_
 try simp only[oL]
 refine WL.call hasF190 rfl rfl (cmx S.V rv _ _ w _ A a d p.v (by have:=p.lv;omega) (by simp only[List.length_append,qQ,pJ,List.length_cons,List.length_nil];have:=p.lv;omega)) λd4 w2 o=>?_;obtain ⟨d,e⟩:=o;have l:=r.q8 e;have a:=e;refine za rfl (zz (T (Sr λ_ R=>zm rfl (zm rfl (zP rfl (zf rfl ?_))))));refine WL.ev (Ev.fZ rfl rfl l rfl rfl) rfl ?_
 try simp only[oL]
 refine WL.call hasF190 rfl rfl (cmx S.Q rq _ _ w _ B a d p.q (by have:=p.lq;omega) (by simp only[List.length_append,qQ,pJ,List.length_cons,List.length_nil];have:=p.lv;omega)) λd3 w3 o=>?_;obtain ⟨d,e⟩:=o;have l:=r.q8 e;have a:=e;refine za rfl (zz (R (Sr λ_ O=>zm rfl ?_)));refine WL.call hasF89 rfl rfl (xQ b S _ ⟨rv,rq,l,A.q8 a,B.q8 a⟩ ⟨a4,a3,a2,a1,a0,Z⟩) λv w4 o=>?_;obtain ⟨rfl,hC⟩:=o;have d:=d.q8 hC;have a:=a.ta hC;have l:=l.q8 hC;refine za rfl (zz (O (zc λ_ x=>Sr λ_ M=>zm rfl (zz (M ?_)))));refine zy rfl ?_ ?_<;>intro C<;>try simp only[qs] at C
 ·have k:S.some:=by simpa using C
  refine Sr λ_ J=>zm rfl (zm rfl (zP rfl (zf rfl (zl l rfl rfl ?_))));refine WL.call hasF191 rfl rfl (yX S.lo oO _) λv w5 o=>?_;obtain ⟨rfl,rfl⟩:=o;rw[show canon S.lo=S.lo from by unfold canon;rw[(z k).1];rfl];refine WL.call hasF189 rfl rfl (bbj w.heap.size (S.lo) 8 _ _ _ d a.size oO oD (by first|omega|(simp only[List.length_append,iQ,qQ,pJ,List.length_take,List.length_cons,List.length_nil];omega))) λd2 w6 o=>?_;have e:=GR.frame d o.ch a (Nat.le_refl _);have l:=r.q8 e;have a:=e;have d:=o.g;refine za rfl (zz (J ?_));refine zR λ_ D=>?_;refine zm rfl (zm rfl (zP rfl (zf rfl (zl l rfl rfl ?_))));refine WL.call hasF191 rfl rfl (yX S.hi oO _) λv w7 o=>?_;obtain ⟨rfl,rfl⟩:=o;rw[show canon S.hi=S.hi from by unfold canon;rw[(z k).2];rfl];refine WL.call hasF189 rfl rfl (bbj w.heap.size (S.hi) 8 _ _ _ d a.size oO oD (by first|omega|(simp only[List.length_append,iQ,qQ,pJ,List.length_take,List.length_cons,List.length_nil];omega))) λd1 w8 o=>?_;have e:=GR.frame d o.ch a (Nat.le_refl _);have l:=r.q8 e;have a:=e;have d:=o.g;refine za rfl ?_;refine WL.nil (D _ _ _ (x ?_));refine Sr λ_ I=>zm rfl (za rfl (zz (I ?_)));refine zr (zr1 rfl rfl ?_);refine ⟨?_,a⟩;unfold ahx;rw[if_pos k]
  simpa using d
 have k : ¬S.some:=by simpa using C
 refine zkk (x (Sr λ_ H=>zm rfl (za rfl (zz (H ?_)))));refine zr (zr1 rfl rfl ?_);refine ⟨?_,a⟩;unfold ahx;rw[if_neg k,List.append_nil]
 simpa using d
end
section
open Go Sx Wd
def YB(w:World)(b:Nat)(E:TypeId)(l:List Nat):Prop:=w.heap[b]?=some (.cells (l.map u8v).toArray E (0,0))
section
variable {w w':World} {b:Nat} {E:TypeId} {l:List Nat} {T:List Nat}
theorem YB.row(h:YB w b E l):RW w (some ⟨b,0,none⟩) (l.map u8v):=RW.of_heap h
theorem YB.q8(h:YB w b E l)(a:Chg [] w w'):YB w' b E l:=a.heap h oS
theorem u8_one(l:List Nat): ∀ v∈l.map u8v,v.oneCell'=true:=λv hv=>by obtain ⟨x,_,rfl⟩:=List.mem_map.1 hv;rfl
theorem madeY{z:Value}(a:z.cells = #[.int .u8 0])(n:Nat):madeCells z.cells (n*1)=((List.replicate n 0).map u8v).toArray:=by
  rw[a,Nat.mul_one]
  apply Array.ext'
  simp[madeCells,List.map_replicate,u8v,Nat.mod_one,List.map_const']
theorem copy_pad(p xs:List Nat)(n:Nat):(p++List.replicate (xs.length+n) 0).take p.length++xs++(p++List.replicate (xs.length+n) 0).drop (p.length+xs.length)=p++xs++List.replicate n 0:=by
  rw[List.take_left',List.drop_append,List.drop_replicate]
  · simp
  · rfl
theorem set_pad(p:List Nat)(x n:Nat):(p++List.replicate (n+1) 0).set p.length x=p++[x]++List.replicate n 0:=by
  rw[List.set_append_right _ _ (Nat.le_refl _),Nat.sub_self,List.replicate_succ,List.set_cons_zero];simp
end
namespace Sx
section
variable {P:Program} {n:Nat} {D:List Deferred} {s:Sl} {w:World} {ops:Array Oper} {K:KK} {rest:List Oper} {ty:TypeId} {pos:String} {af:Array Edge} {d:Nat} {x y:Operand}
theorem WL.makeY(j i:Nat){t:TypeId}{e a:Nat}{o p:IntKind}{l c:Int}{m g:Nat}{z:Value}[hT:aJ P t (.slice e) m g z][hE:aJ P e (.int .u8) 1 a (.int .u8 0)](r:k6 s x=some (.int o l))(q:k6 s y=some (.int p c))
    (v:l=(j:Int)) (B:c=(i:Int)) (u:j<=i) (F:a*i<=281474976710656) (C:i<=281474976710656) (A:Nat.blt d n=true)
    (k : ∀ b w',YB w' b e (List.replicate i 0)->Chg [] w w'->w.heap.size<=b->WL P ops K rest n D ((d,.slice (some ⟨b,0,none⟩) j i)::s) w'):WL P ops K (⟨some d,.makeSlice t x y,ty,pos,af,none⟩::rest) n D s w:=by
  subst v;subst B
  refine WL.make (hT:=hT) (hE:=hE) r q oO oO (by rw[show (a:Int)*(i:Int)=((a*i:Nat):Int) by simp];omega) oO A λb w' f=>?_
  have h:=f.at_
  rw[show (i:Int).toNat=i by omega,madeY (by rfl)] at h
  exact k b w' h f.chg f.ge
theorem WL.storeY{t:TypeId}{h:TypeDesc}{a:Nat}{z:Value}{b i v:Nat}{l:List Nat}{E:TypeId}[hT:aJ P t h 1 a z](e:k6 s x=some (.pointer (some ⟨b,i,none⟩)))(d:k6 s y=some (.int .u8 (v:Int)))
    (g:YB w b E l) (f:i<l.length) (k : ∀ w',YB w' b E (l.set i v)->Chg [b] w w'->WL P ops K rest n D s w'):WL P ops K (⟨none,.store t x y,ty,pos,af,none⟩::rest) n D s w:=
  WL.store (l:=l.map u8v) (v:=u8v v) e d rfl g (by simpa using f) λw' hu=>k w' (by have:=hu.at_;rw[<- List.map_set] at this;exact this) hu.chg
theorem ev_copyY{t t':TypeId}{e Y:Nat}{b o m c c2:Nat}{a:Option Addr}{l xs:List Nat}{F u:Nat}{z ze:Value}{X:TypeDesc}[hT:aJ P t (.slice e) F u z][hE:aJ P e X 1 Y ze](I:k6 s x=some (.slice (some ⟨b,o,none⟩) m c))(H:k6 s y=some (.slice a xs.length c2))(D:YB w b e l)(C:RW w a (xs.map u8v))(p:0<xs.length)(hm:xs.length<=m)(hf:o+xs.length<=l.length):
    ∃ w',Ev P s (.call ⟨.builtin .copy,[x,y].toArray,#[t,t']⟩) ty w (goInt xs.length) w'/\YB w' b e (l.take o++xs++l.drop (o+xs.length))/\Chg [b] w w':=by
  obtain ⟨i,Q,r,O,M⟩:=hE.inf
  have k:(P.info? e).map (·.size)=some 1:=by rw[Q];simp[r]
  obtain ⟨ad,rfl⟩:=C.some_ (by simpa using p)
  have h:(xs.map u8v).length=Nat.min xs.length m:=by
    show _=min xs.length m
    simp;omega
  have d:=run_copy_row (P:=P) w t t' ty e b o m c ad xs.length c2 (l.map u8v).toArray e (xs.map u8v) hT.und k D h
    (λj v J=>by
      obtain ⟨Z,V,R⟩:=C j v J
      cases V;exact R)
    oT (u8_one _)
  rw[List.length_map] at d
  obtain ⟨A,f⟩ : ∃ A,A=w.setRow b ((l.map u8v).toArray.toList.take o++xs.map u8v++(l.map u8v).toArray.toList.drop (o+xs.length)).toArray:=⟨_,rfl⟩
  rw[<- f] at d
  refine ⟨A,λρ d' G af g B=>?_,?_,?_⟩
  · have U:=B x _ I
    have T:=B y _ H
    simp[execOp,resolve,invoke,builtin,U,T,d]
  · have:=setRow_heap w b _ ((l.map u8v).toArray.toList.take o++xs.map u8v++(l.map u8v).toArray.toList.drop (o+xs.length)).toArray e (0,0) D
    rw[<- f] at this
    unfold YB
    rw[this]
    simp[List.map_drop,List.map_take]
  · subst f
    exact ⟨rfl,rfl,rfl,by simp[World.setRow],λq hq n=>setRow_other w b q _ (by simpa using n)⟩
theorem WH.copyY(i:Nat){j:World}{g:List Nat}{fuel:Nat}{f:Array Bool}{t t':TypeId}{e Z:Nat}{b o m B c c2:Nat}{a:Option Addr}{l:List Nat}(xs:List Nat){F A:Nat}{z ze:Value}{Y:TypeDesc}[hT:aJ P t (.slice e) F A z][hE:aJ P e Y 1 Z ze](Q:ops[i]?=some ⟨some d,.call ⟨.builtin .copy,[x,y].toArray,#[t,t']⟩,ty,pos,af,none⟩)(I:Region.ready .any ops f=[i])(X:Chg g j w)(v:b∈g)
    (H:k6 s x=some (.slice (some ⟨b,o,none⟩) m c)) (G:k6 s y=some (.slice a B c2)) (O:B=xs.length) (V:YB w b e l) (p:RW w a (xs.map u8v)) (r:0<xs.length) (M:xs.length<=m) (R:o+xs.length<=l.length) (U:Nat.blt d n=true)
    (k : ∀ w',YB w' b e (l.take o++xs++l.drop (o+xs.length))->Chg [b] w w'->Chg g j w'->WH P ops K (Chg g j) fuel (f.setIfInBounds i true) n D ((d,goInt xs.length)::s) w'):WH P ops K (Chg g j) (fuel+1) f n D s w:=by
  subst O
  obtain ⟨w',T,u,C⟩:=ev_copyY (P:=P) (ty:=ty) (t:=t) (t':=t') (hT:=hT) (hE:=hE) H G V p r M R
  have h:=X.trans (C.mono (T':=g) λq J=>by rw[List.mem_singleton.1 J];exact v)
  exact WH.one i Q I T h U (k w' u C h)
theorem CW.a2j{A:AQ}{b:Nat}{l:List Oper}(a:List Nat)(m:Nat)(d:l.length=m)(e:P.follows .mixedOrders=true)
    (h : ∀ R:KK,(∀ D s w,A .normal D s w->R D s w)->Chg a w.drew w.drew->Chg [] w w.drew->WH P l.toArray R (Chg a w.drew) m (Array.replicate m false) n D s w.drew):CW P (.region b l.toArray true) A n D s w:=
  CW.regionH (Chg a w.drew) m d e λR hR=>h R hR (Chg.refl _ _) (Chg.drew _ _)
end
end Sx
end
section
open Go Sx Wd
def sB(s:ByteArray):List Nat:=s.data.toList.map UInt8.toNat
def bA(l:List Nat):ByteArray:=⟨(l.map UInt8.ofNat).toArray⟩
theorem bA_size(l:List Nat):(bA l).size=l.length:=by
  show (bA l).data.size=_
  simp[bA]
namespace Sx
section
variable {P:Program} {n:Nat} {D:List Deferred} {s:Sl} {w:World} {ops:Array Oper} {K:KK} {rest:List Oper} {ty:TypeId} {pos:String} {af:Array Edge} {d:Nat} {x y:Operand}
theorem bytes_fold(l:List Nat)(r:ByteArray):(l.map λ(x:Nat)=>(x:Int)).foldl (λr n=>r.push (UInt8.ofNat n.toNat)) r=⟨r.data++(l.map UInt8.ofNat).toArray⟩:=by
  induction l generalizing r with
  | nil=>simp
  | cons a l ih=>
    simp only[List.map_cons,List.foldl_cons]
    rw[ih]
    congr 1
    apply Array.ext'
    simp[ByteArray.push]
theorem Ev.toStr{src dst e:TypeId}{n f d h C:Nat}{z k:Value}{a:Option Addr}{m c:Nat}{l:List Nat}[A:aJ P src (.slice e) n f z][hE:aJ P e (.int .u8) 1 C (.int .u8 0)][B:aJ P dst .string d h k]
    (o:k6 s x=some (.slice a m c)) (q:m=l.length) (i:RW w a (l.map u8v)):Ev P s (.convert src dst x) ty w (.string (bA l)) w:=λρ d' pos af g hρ=>by
  have e1:=hρ x _ o
  subst q
  have h0:=run_convert_bytes_string (P:=P) w src dst e a l.length c A.und hE.und B.und
  have h1:(Conv.bytesToString (.slice a l.length c)).run P w = .ok (.string (bA l)) w:=by
    cases a with
    | none=>
      cases l with
      | nil=>rfl
      | cons u r=>obtain ⟨b,e,_⟩:=i 0 _ rfl;cases e
    | some b=>
      have t:(loadCells b l.length).run P w = .ok ((l.map λ(x:Nat)=>(x:Int)).map (Value.int .u8)).toArray w:=by
        have:=run_loadCells_list (P:=P) (w:=w) b (l.map u8v) λj v p=>by
          obtain ⟨D,e,y⟩:=i j v p
          cases e;exact y
        simp only[List.length_map] at this
        rw[this,List.map_map]
        rfl
      rw[run_bytesToString (P:=P) w b l.length c _ t,bytes_fold]
      congr 2
      first|(simp[bA,ByteArray.empty,ByteArray.emptyWithCapacity];done)|(simp[bA,ByteArray.empty,ByteArray.emptyWithCapacity];rfl)
  simp[execOp,e1,h0,h1]
end
end Sx
section
variable {w w':World} {e es lo m:Nat} {X:List Nat} {v:Value} {l:List Value}
end
end
end Go.Proofs.YtomlallhlakhfaaGreatDoor