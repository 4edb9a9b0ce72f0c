/- Part 6 of what the proof rests on. No condition. -/
import Derived.Test.YtomlallhlakhfaaGreatDoorZd5
import Derived.Laws.StructEq
import Derived.Lib.AppendStr
import Derived.Laws.BytesString
set_option linter.unusedVariables false
set_option linter.unusedSimpArgs false
set_option maxRecDepth 100000
set_option maxHeartbeats 4000000
namespace Go.Proofs.YtomlallhlakhfaaGreatDoor
section
open Go Sx Wd Fl
theorem getD_v{x y v:Dy}(a:x.ok)(b:y.ok)(h:bgj xX (.some x) (cQ (!y.neg) y.m y.e) = .some v):v.ok:=by
  cases hf:cQ (!y.neg) y.m y.e with
  | none=>rw[hf] at h;cases h
  | some z=>rw[hf] at h;exact addD_ok a (iJ hf) h
def asj(s:SP)(pn pi:Int):Prop:=(0<s.na/\pn=0)\/(0<s.up+s.dn/\pi=0)
instance (s:SP)(pn pi:Int):Decidable (asj s pn pi):=by unfold asj;exact inferInstance
def varShR(S:Sh)(less mode pn pi:Int)(b:Nat)(e:Int):Prop:=
  (¬(less=0\/less=1)/\b=0/\e=1)\/((less=0\/less=1)/\((shE S.s mode pn pi≠0/\b=0/\e=shE S.s mode pn pi)\/(shE S.s mode pn pi=0/\
    ((asj S.s pn pi/\b=9221120237041090560/\e=0)\/(¬asj S.s pn pi/\((S.fin<=less/\b=0/\e=3)\/(less<S.fin/\momR S.fin S.V S.Q less mode b e)))))))
theorem momOf_spec(V Q:Dy)(rv rq:Value)(n k mode:Int)(w:World)(f:NU w rv (wd V.m))(A:NU w rq (wd Q.m))(B:V.ok)(a1:Q.ok)(hg:GW w):Ret Tryz.prog 79 [.int .i64 n,.agg [.bool V.neg,rv,.int .i64 V.e].toArray,.agg [.bool Q.neg,rq,.int .i64 Q.e].toArray,.int .i64 k,.int .i64 mode] w λu w'=>(∃ x e,u = .tuple [.float .f64 x,.int .i64 e].toArray/\momR n V Q k mode x e)/\Chg [] w w':=by
 have a:=crf w;have D:=hg;have r1:=f.one;have r2:=A.one;refine zE5 Tryz.func79 rfl ?_;refine Sr λ_ m6=>?_;refine zBh rfl rfl rfl a λb6 p3 c e7 p1 l5 a=>?_;have f:=f.q5 e7;have A:=A.q5 e7;refine zBh rfl rfl rfl a λb7 p2 d6 d0 l6 l4 a=>?_;have f:=f.q5 d0;have A:=A.q5 d0;have m2:=zdd c.lt l6;have c:=c.k0 d0;refine za rfl (za rfl (zz (m6 (zc λ_ m5=>?_))));refine CW.axj 28 (decide (¬((0<=mode/\mode<=4)/\(k=0\/k=1)/\1<=n/\n<=1099511627776))) ?_ ?_
 ·intro b2;refine zS λ_ f1=>zm rfl (zm rfl ?_);refine WL.call hasF143 rfl rfl (momMay_spec mode k _) λv w1 I=>?_;obtain ⟨rfl,rfl⟩:=I;refine zT rfl (zm rfl ?_);refine zb ?_ ?_<;>intro n2<;>try simp only[qs] at n2
  ·refine zv rfl (zv rfl (zt rfl rfl (zm rfl (zv rfl (zv rfl (zt rfl rfl (zz (f1 ?_))))))));refine ⟨rfl,b2,q9.g7 rfl ?_ ?_⟩
   ·first|(simp_all;done)|(simp;omega)|(refine decide_eq_decide.2 ?_;omega)|(simp_all;omega)
   exact SMg
  refine zw rfl (zm rfl (zw rfl (zL rfl rfl (ze rfl rfl (zm rfl ?_)))));refine zb ?_ ?_<;>intro n1<;>try simp only[qs] at n1
  ·refine zv rfl (zv rfl (zt rfl rfl (zz (f1 ?_))));refine ⟨rfl,b2,q9.g7 rfl ?_ ?_⟩
   ·first|(simp_all;done)|(simp;omega)|(refine decide_eq_decide.2 ?_;omega)|(simp_all;omega)
   exact SMg
  refine zw rfl (zm rfl (zw rfl (zG rfl rfl (ze rfl rfl (zz (f1 ?_))))));refine ⟨rfl,b2,q9.g7 rfl ?_ ?_⟩
  ·first|(simp_all;done)|(simp;omega)|(refine decide_eq_decide.2 ?_;omega)|(simp_all;omega)
  exact SMg
 intro wM b2;have a:=a.ta b2;have c:=c.k0 b2;have d6:=d6.k0 b2;have f:=f.q5 b2;have A:=A.q5 b2;refine zy rfl ?_ ?_<;>intro f7<;>try simp only[qs] at f7
 ·have hq : ¬((0<=mode/\mode<=4)/\(k=0\/k=1)/\1<=n/\n<=1099511627776):=f7
  refine Sr λ_ m4=>za rfl (za rfl (zz (m4 ?_)));refine zr (zr2 rfl rfl rfl ?_);refine ⟨⟨_,_,rfl,?_⟩,a⟩;exact .inl ⟨hq,rfl,rfl⟩
 have hq:(0<=mode/\mode<=4)/\(k=0\/k=1)/\1<=n/\n<=1099511627776:=f7;obtain ⟨r0,q7,q6,q4⟩:=id hq;refine zkk (m5 (zc λ_ f2=>?_));refine CW.bZ 10 rfl cJ λq3 f0 t c6=>?_;have a:=a.ta c6;have c:=c.k0 c6;have d6:=d6.k0 c6;have f:=f.q5 c6;have A:=A.q5 c6;have f8:=d6;refine wh 0 rfl t (eM rfl) (wh 2 rfl t (λ_ m7=>Ev.oQ rfl rfl (f8.q5 m7) rfl) ?_);refine WH.c2j 1 7 oR ?_ ?_
 ·refine ahj.call 1 rfl hasF144 rfl rfl (bcx n _ (D.q5 a) oO) λv w2 I=>?_;obtain ⟨⟨ri,rfl,c0⟩,j⟩:=I;have m8:=c0.one;have T:(cZ n).ok:=wZ oO;have a:=a.ta j;have c:=c.k0 j;have f:=f.q5 j;have A:=A.q5 j;have t:=t.trans j;refine ⟨t,?_⟩;refine WH.c2j 3 7 oR ?_ ?_
  ·refine ahj.call 3 rfl hasF71 rfl rfl (uQ _ _ _ _ _ _ _ _ _ c0 A (D.q5 a) (aJ T) (aJ a1)) λv w3 I=>?_;obtain ⟨R,j⟩:=I;rw[jX T a1] at R;obtain ⟨rx,k1,rfl,d,b9⟩:=R.bij;have l3:=d.one;have a:=a.ta j;have c:=c.k0 j;have f:=f.q5 j;have t:=t.trans j;refine ⟨t,?_⟩;refine wh 4 rfl t (eM rfl) (wh 5 rfl t (eX rfl rfl) (wh 6 rfl t (eX rfl rfl) ?_));refine WH.vZ (l:=[.bool false,.slice none 0 0,.int .i64 0]) 7 rfl oR t rfl rfl λm1 e2 b h p d7=>?_;have J:=Nat.le_trans t.size p;have t:=d7;have a5:=Nat.le_trans a.size p;have a:=a.ta h;have f:=f.q5 h;have d:=d.q5 h;have b4:=zdd c.lt p;have c:=c.k0 h;refine WH.sQ 8 rfl oR t J rfl rfl rfl ao b oS rfl λo4 H b1 t=>?_;(try simp only[qt] at H);have a:=a.s1 b1;have c:=c.kq b1;have f:=f.q8 b b1 an;have d:=d.q8 b b1 an;have b:=H;refine wh 9 rfl t (eA rfl) ?_;refine WH.done oR (f0 _ _ _ ?_);refine f2 (Sr λ_ m3=>zg c rfl (zg c rfl ?_));refine WL.call hasF71 rfl rfl (uQ _ _ _ _ _ _ _ _ _ f f (D.q5 a) (aJ B) (aJ B)) λv w4 I=>?_;obtain ⟨R,j⟩:=I;rw[jX B B] at R;obtain ⟨ry,k2,rfl,s,b8⟩:=R.bij;have l2:=s.one;have a:=a.ta j;have b:=b.k0 j;have d:=d.q5 j;refine zm rfl (zx rfl rfl (zx rfl rfl ?_));refine zAh rfl rfl a λm0 e1 i r X a4 a=>?_;have d:=d.q5 r;have s:=s.q5 r;have a2:=zdd b.lt X;have b:=b.k0 r;refine zss rfl rfl ao i rfl λo3 G b0=>?_;(try simp only[qt] at G);have a:=a.s1 b0;have b:=b.kq b0;have d:=d.q8 i b0 an;have s:=s.q8 i b0 an
   have i:=G;refine za rfl (zz (m3 (zc λ_ l0=>?_)));refine CW.oJ 47 (decide (k1≠0\/k2≠0)) ?_ ?_
   ·refine zS λ_ e5=>zm rfl (zN rfl rfl (zm rfl ?_));refine zb ?_ ?_<;>intro n0<;>try simp only[qs] at n0
    ·refine zv rfl (zv rfl (zt rfl rfl (zz (e5 ?_))));refine ⟨rfl,rfl,q9.g7 rfl ?_ ?_⟩
     ·first|(simp_all;done)|(simp;omega)|(refine decide_eq_decide.2 ?_;omega)
     exact SMg
    refine zw rfl (zm rfl (zw rfl (zN rfl rfl (ze rfl rfl (zz (e5 ?_))))));refine ⟨rfl,rfl,q9.g7 rfl ?_ ?_⟩
    ·first|(simp_all;done)|(simp;omega)|(refine decide_eq_decide.2 ?_;omega)
    exact SMg
   refine zy rfl ?_ ?_<;>intro f6<;>try simp only[qs] at f6
   ·have hk:k1≠0\/k2≠0:=f6
    refine Sr λ_ k5=>za rfl (za rfl (zz (k5 ?_)));refine zr (zr2 rfl rfl rfl ?_);refine ⟨⟨_,_,rfl,?_⟩,a⟩;exact .inr ⟨hq,.inl ⟨hk.imp (λq=>(b9.resolve_left (λz=>q z.1)).2) (λq=>(b8.resolve_left (λz=>q z.1)).2),rfl,rfl⟩⟩
   have hk : ¬(k1≠0\/k2≠0):=f6;obtain ⟨-,x,hx⟩:=b9.resolve_right (λq=>hk (.inl oO));obtain ⟨-,y,Z⟩:=b8.resolve_right (λq=>hk (.inr oO));have C:=mQ hx;have M:=mQ Z;rw[hx,Option.getD_some] at d;rw[Z,Option.getD_some] at s;rw[hx,Option.getD_some] at b;rw[Z,Option.getD_some] at i;refine zkk (l0 (Sr λ_ k4=>zg b rfl (zg i rfl ?_)));refine WL.call hasF145 rfl rfl (cxq _ _ _ _ _ _ _ _ _ d s (D.q5 a) (aJ C) (aJ M)) λv w5 I=>?_;obtain ⟨R,j⟩:=I;rw[g6,g6,mX C] at R;obtain ⟨rz,k3,rfl,g,b5⟩:=R.bij;have l1:=g.one;have a:=a.ta j;refine zm rfl (zx rfl rfl (zx rfl rfl ?_));refine zAh rfl rfl a λl9 e0 o Y c5 a3 a=>?_;have g:=g.q5 Y;refine zss rfl rfl ao o rfl λo2 F c9=>?_;(try simp only[qt] at F);have a:=a.s1 c9;have g:=g.q8 o c9 an;have o:=F;refine za rfl (zz (k4 (zc λ_ i9=>CW.block (Sr λ_ i8=>zm rfl (zN rfl rfl (za rfl (zz (i8 ?_))))))));refine zy rfl ?_ ?_<;>intro f5<;>try simp only[qs] at f5
   ·have h3:k3≠0:=f5
    obtain ⟨rfl,d9⟩:=b5.resolve_left (λz=>h3 z.1);refine Sr λ_ i7=>zm rfl (za rfl (za rfl (zz (i7 ?_))));refine zr (zr2 rfl rfl rfl ?_);refine ⟨⟨_,_,rfl,?_⟩,a⟩;exact .inr ⟨hq,.inr ⟨x,y,hx,Z,.inl ⟨d9,rfl,rfl⟩⟩⟩
   have h3:k3=0:=by have:=f5;omega
   obtain ⟨-,v,hv⟩:=b5.resolve_right (λq=>by omega);have O:v.ok:=getD_v C M hv;rw[hv,Option.getD_some] at g;rw[hv,Option.getD_some] at o;refine Sr λ_ i6=>zm rfl (zm rfl (zQ rfl rfl (za rfl (zz (i6 ?_)))));refine zy rfl ?_ ?_<;>intro f4<;>try simp only[qs] at f4
   ·have U:n<=k:=f4
    refine Sr λ_ i5=>za rfl (za rfl (zz (i5 ?_)));refine zr (zr2 rfl rfl rfl ?_);refine ⟨⟨_,_,rfl,?_⟩,a⟩;exact .inr ⟨hq,.inr ⟨x,y,hx,Z,.inr ⟨v,hv,.inl ⟨U,rfl,rfl⟩⟩⟩⟩
   have U:k<n:=by have:=f4;omega
   refine zkk (i9 (Sr λ_ i4=>zg o rfl (zm rfl (zm rfl ?_))));refine WL.call hasF147 rfl rfl (by_spec v rz n k _ g O oO oO (D.q5 a)) λv w6 I=>?_;obtain ⟨⟨rd,rfl,d8,l8⟩,j⟩:=I;have a:=a.ta j;have g:=g.q5 j;refine zm rfl ?_;refine WL.call hasF146 rfl rfl (b7j _ _ _ _ _ _ _ _ mode _ g d8 (D.q5 a) (aJ O) (aJ (c7j _ _ 2))) λv w7 I=>?_;obtain ⟨⟨xb,xe,rfl,hR⟩,j⟩:=I;rw[g6,g6] at hR;have a:=a.ta j;refine zx rfl rfl (zx rfl rfl (za rfl (za rfl (zz (i4 ?_)))));refine zr (zr2 rfl rfl rfl ?_);refine ⟨⟨_,_,rfl,?_⟩,a⟩;exact .inr ⟨hq,.inr ⟨x,y,hx,Z,.inr ⟨v,hv,.inr ⟨U,hR⟩⟩⟩⟩
  refine ahj.vZ (l:=[.bool false,.slice none 0 0,.int .i64 0]) 7 rfl t rfl rfl λm1 e2 b h p d7=>?_;have J:=Nat.le_trans t.size p;have t:=d7;have a5:=Nat.le_trans a.size p;have a:=a.ta h;have f:=f.q5 h;have A:=A.q5 h;have c0:=c0.q5 h;have b4:=zdd c.lt p;have c:=c.k0 h;refine WH.k6 3 rfl oR hasF71 rfl rfl (uQ _ _ _ _ _ _ _ _ _ c0 A (D.q5 a) (aJ T) (aJ a1)) λv w8 I=>?_;obtain ⟨R,j⟩:=I;rw[jX T a1] at R;obtain ⟨rx,k1,rfl,d,b9⟩:=R.bij;have l3:=d.one;have a:=a.ta j;have c:=c.k0 j;have b:=b.k0 j;have f:=f.q5 j;have t:=t.trans j;refine ⟨t,?_⟩;refine wh 4 rfl t (eM rfl) (wh 5 rfl t (eX rfl rfl) (wh 6 rfl t (eX rfl rfl) ?_));refine WH.sQ 8 rfl oR t J rfl rfl rfl ao b oS rfl λo0 H a9 t=>?_;(try simp only[qt] at H);have a:=a.s1 a9;have c:=c.kq a9;have f:=f.q8 b a9 an;have d:=d.q8 b a9 an;have b:=H;refine wh 9 rfl t (eA rfl) ?_;refine WH.done oR (f0 _ _ _ ?_);refine f2 (Sr λ_ i3=>zg c rfl (zg c rfl ?_));refine WL.call hasF71 rfl rfl (uQ _ _ _ _ _ _ _ _ _ f f (D.q5 a) (aJ B) (aJ B)) λv w9 I=>?_;obtain ⟨R,j⟩:=I;rw[jX B B] at R;obtain ⟨ry,k2,rfl,s,b8⟩:=R.bij;have l2:=s.one;have a:=a.ta j;have b:=b.k0 j;have d:=d.q5 j;refine zm rfl (zx rfl rfl (zx rfl rfl ?_));refine zAh rfl rfl a λm0 e1 i r X a4 a=>?_;have d:=d.q5 r;have s:=s.q5 r;have a2:=zdd b.lt X;have b:=b.k0 r;refine zss rfl rfl ao i rfl λn9 G a8=>?_;(try simp only[qt] at G);have a:=a.s1 a8;have b:=b.kq a8;have d:=d.q8 i a8 an;have s:=s.q8 i a8 an;have i:=G;refine za rfl (zz (i3 (zc λ_ i2=>?_)));refine CW.oJ 47 (decide (k1≠0\/k2≠0)) ?_ ?_
  ·refine zS λ_ e4=>zm rfl (zN rfl rfl (zm rfl ?_));refine zb ?_ ?_<;>intro m9<;>try simp only[qs] at m9
   ·refine zv rfl (zv rfl (zt rfl rfl (zz (e4 ?_))));refine ⟨rfl,rfl,q9.g7 rfl ?_ ?_⟩
    ·first|(simp_all;done)|(simp;omega)|(refine decide_eq_decide.2 ?_;omega)
    exact SMg
   refine zw rfl (zm rfl (zw rfl (zN rfl rfl (ze rfl rfl (zz (e4 ?_))))));refine ⟨rfl,rfl,q9.g7 rfl ?_ ?_⟩
   ·first|(simp_all;done)|(simp;omega)|(refine decide_eq_decide.2 ?_;omega)
   exact SMg
  refine zy rfl ?_ ?_<;>intro f3<;>try simp only[qs] at f3
  ·have hk:k1≠0\/k2≠0:=f3
   refine Sr λ_ i1=>za rfl (za rfl (zz (i1 ?_)));refine zr (zr2 rfl rfl rfl ?_);refine ⟨⟨_,_,rfl,?_⟩,a⟩;exact .inr ⟨hq,.inl ⟨hk.imp (λq=>(b9.resolve_left (λz=>q z.1)).2) (λq=>(b8.resolve_left (λz=>q z.1)).2),rfl,rfl⟩⟩
  have hk : ¬(k1≠0\/k2≠0):=f3;obtain ⟨-,x,hx⟩:=b9.resolve_right (λq=>hk (.inl oO));obtain ⟨-,y,Z⟩:=b8.resolve_right (λq=>hk (.inr oO));have C:=mQ hx;have M:=mQ Z;rw[hx,Option.getD_some] at d;rw[Z,Option.getD_some] at s;rw[hx,Option.getD_some] at b;rw[Z,Option.getD_some] at i;refine zkk (i2 (Sr λ_ i0=>zg b rfl (zg i rfl ?_)));refine WL.call hasF145 rfl rfl (cxq _ _ _ _ _ _ _ _ _ d s (D.q5 a) (aJ C) (aJ M)) λv q1 I=>?_;obtain ⟨R,j⟩:=I;rw[g6,g6,mX C] at R;obtain ⟨rz,k3,rfl,g,b5⟩:=R.bij;have l1:=g.one;have a:=a.ta j;refine zm rfl (zx rfl rfl (zx rfl rfl ?_));refine zAh rfl rfl a λl9 e0 o Y c5 a3 a=>?_;have g:=g.q5 Y;refine zss rfl rfl ao o rfl λn8 F c8=>?_;(try simp only[qt] at F);have a:=a.s1 c8;have g:=g.q8 o c8 an;have o:=F;refine za rfl (zz (i0 (zc λ_ h9=>CW.block (Sr λ_ h8=>zm rfl (zN rfl rfl (za rfl (zz (h8 ?_))))))));refine zy rfl ?_ ?_<;>intro d5<;>try simp only[qs] at d5
  ·have h3:k3≠0:=d5
   obtain ⟨rfl,d9⟩:=b5.resolve_left (λz=>h3 z.1);refine Sr λ_ h7=>zm rfl (za rfl (za rfl (zz (h7 ?_))));refine zr (zr2 rfl rfl rfl ?_);refine ⟨⟨_,_,rfl,?_⟩,a⟩;exact .inr ⟨hq,.inr ⟨x,y,hx,Z,.inl ⟨d9,rfl,rfl⟩⟩⟩
  have h3:k3=0:=by have:=d5;omega
  obtain ⟨-,v,hv⟩:=b5.resolve_right (λq=>by omega);have O:v.ok:=getD_v C M hv;rw[hv,Option.getD_some] at g;rw[hv,Option.getD_some] at o;refine Sr λ_ h6=>zm rfl (zm rfl (zQ rfl rfl (za rfl (zz (h6 ?_)))));refine zy rfl ?_ ?_<;>intro d4<;>try simp only[qs] at d4
  ·have U:n<=k:=d4
   refine Sr λ_ h5=>za rfl (za rfl (zz (h5 ?_)));refine zr (zr2 rfl rfl rfl ?_);refine ⟨⟨_,_,rfl,?_⟩,a⟩;exact .inr ⟨hq,.inr ⟨x,y,hx,Z,.inr ⟨v,hv,.inl ⟨U,rfl,rfl⟩⟩⟩⟩
  have U:k<n:=by have:=d4;omega
  refine zkk (h9 (Sr λ_ h4=>zg o rfl (zm rfl (zm rfl ?_))));refine WL.call hasF147 rfl rfl (by_spec v rz n k _ g O oO oO (D.q5 a)) λv q0 I=>?_;obtain ⟨⟨rd,rfl,d8,l8⟩,j⟩:=I;have a:=a.ta j;have g:=g.q5 j;refine zm rfl ?_;refine WL.call hasF146 rfl rfl (b7j _ _ _ _ _ _ _ _ mode _ g d8 (D.q5 a) (aJ O) (aJ (c7j _ _ 2))) λv w12 I=>?_;obtain ⟨⟨xb,xe,rfl,hR⟩,j⟩:=I;rw[g6,g6] at hR;have a:=a.ta j;refine zx rfl rfl (zx rfl rfl (za rfl (za rfl (zz (h4 ?_)))));refine zr (zr2 rfl rfl rfl ?_);refine ⟨⟨_,_,rfl,?_⟩,a⟩;exact .inr ⟨hq,.inr ⟨x,y,hx,Z,.inr ⟨v,hv,.inr ⟨U,hR⟩⟩⟩⟩
 refine ahj.vZ (l:=[.bool false,.slice none 0 0,.int .i64 0]) 7 rfl t rfl rfl λm1 e2 b h p d7=>?_;have J:=Nat.le_trans t.size p;have t:=d7;have a5:=Nat.le_trans a.size p;have a:=a.ta h;have f:=f.q5 h;have A:=A.q5 h;have b4:=zdd c.lt p;have c:=c.k0 h;refine WH.k6 1 rfl oR hasF144 rfl rfl (bcx n _ (D.q5 a) oO) λv p9 I=>?_;obtain ⟨⟨ri,rfl,c0⟩,j⟩:=I;have m8:=c0.one;have T:(cZ n).ok:=wZ oO;have a:=a.ta j;have c:=c.k0 j;have b:=b.k0 j;have f:=f.q5 j;have A:=A.q5 j;have t:=t.trans j;refine ⟨t,?_⟩;refine WH.k6 3 rfl oR hasF71 rfl rfl (uQ _ _ _ _ _ _ _ _ _ c0 A (D.q5 a) (aJ T) (aJ a1)) λv p8 I=>?_;obtain ⟨R,j⟩:=I;rw[jX T a1] at R;obtain ⟨rx,k1,rfl,d,b9⟩:=R.bij;have l3:=d.one;have a:=a.ta j;have c:=c.k0 j;have b:=b.k0 j;have f:=f.q5 j;have t:=t.trans j;refine ⟨t,?_⟩;refine wh 4 rfl t (eM rfl) (wh 5 rfl t (eX rfl rfl) (wh 6 rfl t (eX rfl rfl) ?_));refine WH.sQ 8 rfl oR t J rfl rfl rfl ao b oS rfl λn7 H a7 t=>?_;(try simp only[qt] at H);have a:=a.s1 a7;have c:=c.kq a7;have f:=f.q8 b a7 an;have d:=d.q8 b a7 an;have b:=H;refine wh 9 rfl t (eA rfl) ?_;refine WH.done oR (f0 _ _ _ ?_);refine f2 (Sr λ_ h2=>zg c rfl (zg c rfl ?_));refine WL.call hasF71 rfl rfl (uQ _ _ _ _ _ _ _ _ _ f f (D.q5 a) (aJ B) (aJ B)) λv p7 I=>?_;obtain ⟨R,j⟩:=I;rw[jX B B] at R;obtain ⟨ry,k2,rfl,s,b8⟩:=R.bij;have l2:=s.one;have a:=a.ta j;have b:=b.k0 j;have d:=d.q5 j;refine zm rfl (zx rfl rfl (zx rfl rfl ?_));refine zAh rfl rfl a λm0 e1 i r X a4 a=>?_;have d:=d.q5 r;have s:=s.q5 r;have a2:=zdd b.lt X;have b:=b.k0 r;refine zss rfl rfl ao i rfl λn6 G a6=>?_;(try simp only[qt] at G);have a:=a.s1 a6;have b:=b.kq a6;have d:=d.q8 i a6 an;have s:=s.q8 i a6 an;have i:=G;refine za rfl (zz (h2 (zc λ_ h1=>?_)));refine CW.oJ 47 (decide (k1≠0\/k2≠0)) ?_ ?_
 ·refine zS λ_ e3=>zm rfl (zN rfl rfl (zm rfl ?_));refine zb ?_ ?_<;>intro l7<;>try simp only[qs] at l7
  ·refine zv rfl (zv rfl (zt rfl rfl (zz (e3 ?_))));refine ⟨rfl,rfl,q9.g7 rfl ?_ ?_⟩
   ·first|(simp_all;done)|(simp;omega)|(refine decide_eq_decide.2 ?_;omega)
   exact SMg
  refine zw rfl (zm rfl (zw rfl (zN rfl rfl (ze rfl rfl (zz (e3 ?_))))));refine ⟨rfl,rfl,q9.g7 rfl ?_ ?_⟩
  ·first|(simp_all;done)|(simp;omega)|(refine decide_eq_decide.2 ?_;omega)
  exact SMg
 refine zy rfl ?_ ?_<;>intro d3<;>try simp only[qs] at d3
 ·have hk:k1≠0\/k2≠0:=d3
  refine Sr λ_ h0=>za rfl (za rfl (zz (h0 ?_)));refine zr (zr2 rfl rfl rfl ?_);refine ⟨⟨_,_,rfl,?_⟩,a⟩;exact .inr ⟨hq,.inl ⟨hk.imp (λq=>(b9.resolve_left (λz=>q z.1)).2) (λq=>(b8.resolve_left (λz=>q z.1)).2),rfl,rfl⟩⟩
 have hk : ¬(k1≠0\/k2≠0):=d3;obtain ⟨-,x,hx⟩:=b9.resolve_right (λq=>hk (.inl oO));obtain ⟨-,y,Z⟩:=b8.resolve_right (λq=>hk (.inr oO));have C:=mQ hx;have M:=mQ Z;rw[hx,Option.getD_some] at d;rw[Z,Option.getD_some] at s;rw[hx,Option.getD_some] at b;rw[Z,Option.getD_some] at i;refine zkk (h1 (Sr λ_ g9=>zg b rfl (zg i rfl ?_)));refine WL.call hasF145 rfl rfl (cxq _ _ _ _ _ _ _ _ _ d s (D.q5 a) (aJ C) (aJ M)) λv p6 I=>?_;obtain ⟨R,j⟩:=I;rw[g6,g6,mX C] at R;obtain ⟨rz,k3,rfl,g,b5⟩:=R.bij;have l1:=g.one;have a:=a.ta j;refine zm rfl (zx rfl rfl (zx rfl rfl ?_));refine zAh rfl rfl a λl9 e0 o Y c5 a3 a=>?_;have g:=g.q5 Y;refine zss rfl rfl ao o rfl λn5 F c7=>?_;(try simp only[qt] at F);have a:=a.s1 c7;have g:=g.q8 o c7 an;have o:=F;refine za rfl (zz (g9 (zc λ_ g5=>CW.block (Sr λ_ g4=>zm rfl (zN rfl rfl (za rfl (zz (g4 ?_))))))));refine zy rfl ?_ ?_<;>intro d2<;>try simp only[qs] at d2
 ·have h3:k3≠0:=d2
  obtain ⟨rfl,d9⟩:=b5.resolve_left (λz=>h3 z.1);refine Sr λ_ g3=>zm rfl (za rfl (za rfl (zz (g3 ?_))));refine zr (zr2 rfl rfl rfl ?_);refine ⟨⟨_,_,rfl,?_⟩,a⟩;exact .inr ⟨hq,.inr ⟨x,y,hx,Z,.inl ⟨d9,rfl,rfl⟩⟩⟩
 have h3:k3=0:=by have:=d2;omega
 obtain ⟨-,v,hv⟩:=b5.resolve_right (λq=>by omega);have O:v.ok:=getD_v C M hv;rw[hv,Option.getD_some] at g;rw[hv,Option.getD_some] at o;refine Sr λ_ g2=>zm rfl (zm rfl (zQ rfl rfl (za rfl (zz (g2 ?_)))));refine zy rfl ?_ ?_<;>intro d1<;>try simp only[qs] at d1
 ·have U:n<=k:=d1
  refine Sr λ_ g1=>za rfl (za rfl (zz (g1 ?_)));refine zr (zr2 rfl rfl rfl ?_);refine ⟨⟨_,_,rfl,?_⟩,a⟩;exact .inr ⟨hq,.inr ⟨x,y,hx,Z,.inr ⟨v,hv,.inl ⟨U,rfl,rfl⟩⟩⟩⟩
 have U:k<n:=by have:=d1;omega
 refine zkk (g5 (Sr λ_ g0=>zg o rfl (zm rfl (zm rfl ?_))));refine WL.call hasF147 rfl rfl (by_spec v rz n k _ g O oO oO (D.q5 a)) λv p5 I=>?_;obtain ⟨⟨rd,rfl,d8,l8⟩,j⟩:=I;have a:=a.ta j;have g:=g.q5 j;refine zm rfl ?_;refine WL.call hasF146 rfl rfl (b7j _ _ _ _ _ _ _ _ mode _ g d8 (D.q5 a) (aJ O) (aJ (c7j _ _ 2))) λv p4 I=>?_;obtain ⟨⟨xb,xe,rfl,hR⟩,j⟩:=I;rw[g6,g6] at hR;have a:=a.ta j;refine zx rfl rfl (zx rfl rfl (za rfl (za rfl (zz (g0 ?_)))));refine zr (zr2 rfl rfl rfl ?_);refine ⟨⟨_,_,rfl,?_⟩,a⟩;exact .inr ⟨hq,.inr ⟨x,y,hx,Z,.inr ⟨v,hv,.inr ⟨U,hR⟩⟩⟩⟩
theorem dbq(b:Nat)(S:Sh)(f mode l o:Int)(w:World)(h:ShM 91 w b S)(c4:S.wf)(hg:GW w):Ret Tryz.prog 24 [.pointer (some ⟨b,0,none⟩),.int .i64 f,.int .i64 mode,.agg [.int .i64 l,.int .i64 o].toArray] w λu w'=>(∃ x e,u = .tuple [.float .f64 x,.int .i64 e].toArray/\varShR S f mode l o x e)/\Chg [] w w':=by
 obtain ⟨X,Y,i,c,d⟩:=h;obtain ⟨c6,t,y,b0,b1⟩:=c4;obtain ⟨I,H,G,F,C,B⟩:=c6;have a:=crf w;have b3:=hg;refine zE4 Tryz.func24 rfl ?_;refine Sr λ_ c3=>?_;refine zBh rfl rfl rfl a λb7 d5 g n d4 b2 a=>?_;have c:=c.q5 n;have d:=d.q5 n;have c5:b≠b7:=by have:=i.lt;omega
 have i:=i.q5 n;refine za rfl (za rfl (zz (c3 (zc λ_ c2=>?_))));refine CW.oJ 16 (decide (¬(f=0\/f=1))) ?_ ?_
 ·refine zS λ_ a0=>zm rfl (zN rfl rfl (zm rfl ?_));refine zb ?_ ?_<;>intro c8<;>try simp only[qs] at c8
  ·refine zw rfl (zm rfl (zw rfl (zN rfl rfl (zt rfl rfl (zz (a0 ?_))))));refine ⟨rfl,rfl,q9.g7 rfl ?_ ?_⟩
   ·first|(simp_all;done)|(simp;omega)|(refine decide_eq_decide.2 ?_;omega)
   exact SMg
  refine zv rfl (zv rfl (ze rfl rfl (zz (a0 ?_))));refine ⟨rfl,rfl,q9.g7 rfl ?_ ?_⟩
  ·first|(simp_all;done)|(simp;omega)|(refine decide_eq_decide.2 ?_;omega)
  exact SMg
 refine zy rfl ?_ ?_<;>intro U<;>try simp only[qs] at U
 ·have Z : ¬(f=0\/f=1):=U
  refine Sr λ_ c1=>za rfl (za rfl (zz (c1 ?_)));refine zr (zr2 rfl rfl rfl ?_);refine ⟨⟨_,_,rfl,?_⟩,a⟩;exact .inl ⟨Z,rfl,rfl⟩
 have Z:f=0\/f=1:=U;refine zkk (c2 (zc λ_ c0=>Sr λ_ b9=>zm rfl (zm rfl (zg g rfl ?_))));refine WL.call hasF72 rfl rfl (a8x b S mode l o _ ⟨X,Y,i,c,d⟩ ⟨⟨I,H,G,F,C,B⟩,t,y,b0,b1⟩ (b3.q5 a)) λv w1 p=>?_;obtain ⟨rfl,k⟩:=p;have a:=a.ta k;have i:=i.q5 k;have g:=g.k0 k;have c:=c.q5 k;have d:=d.q5 k;refine za rfl (zz (b9 (Sr λ_ a8=>zm rfl (zN rfl rfl (zz (a8 ?_))))));refine zy rfl ?_ ?_<;>intro T<;>try simp only[qs] at T
 ·have h0:shE S.s mode l o≠0:=T
  refine Sr λ_ a7=>zm rfl (za rfl (za rfl (zz (a7 ?_))));refine zr (zr2 rfl rfl rfl ?_);refine ⟨⟨_,_,rfl,?_⟩,a⟩;exact .inr ⟨Z,.inl ⟨h0,rfl,rfl⟩⟩
 have h0:shE S.s mode l o=0:=by have:=T;omega
 refine zkk (c0 (zc λ_ a6=>CW.block ?_));refine CW.anx (λD s' w'=>D=[]/\BK w' b 91 [.int .i64 (S.s.na:Int),.int .i64 (S.s.up:Int),.int .i64 (S.s.dn:Int),.int .i64 (S.s.mi:Int),.int .i64 (S.s.pl:Int),.int .i64 (S.s.al:Int),.bool S.V.neg,X,.int .i64 S.V.e,.bool S.Q.neg,Y,.int .i64 S.Q.e,.float .f64 S.lo,.float .f64 S.hi]/\NU w' X (wd S.V.m)/\NU w' Y (wd S.Q.m)/\BK w' b7 34 [.int .i64 l,.int .i64 o]/\Chg [] w w'/\q9 [(24,.bool (decide (asj S.s l o))),(0,.pointer (some ⟨b,0,none⟩)),(1,.int .i64 f),(2,.int .i64 mode),(7,.pointer (some ⟨b7,0,none⟩))] s') ?_ ?_
 ·refine CW.oJ 24 (decide (0<S.s.na/\l=0)) ?_ ?_
  ·refine zS λ_ r=>zm rfl (zP rfl (zf rfl (zf rfl (zl i rfl rfl (zG rfl rfl (zm rfl ?_))))));refine zb ?_ ?_<;>intro c7<;>try simp only[qs] at c7
   ·refine zw rfl (zf rfl (zw rfl (zl g rfl rfl (zw rfl (zq rfl rfl (zt rfl rfl (za rfl (zz (r ?_)))))))));refine ⟨rfl,rfl,q9.g7 rfl ?_ ?_⟩
    ·first|(simp_all;done)|(simp;omega)|(refine decide_eq_decide.2 ?_;omega)
    exact SMg
   refine zv rfl (zv rfl (zv rfl (ze rfl rfl (za rfl (zz (r ?_))))));refine ⟨rfl,rfl,q9.g7 rfl ?_ ?_⟩
   ·first|(simp_all;done)|(simp;omega)|(refine decide_eq_decide.2 ?_;omega)
   exact SMg
  refine zy rfl ?_ ?_<;>intro R<;>try simp only[qs] at R
  ·have h1:0<S.s.na/\l=0:=R
   refine zkk ?_;refine ⟨rfl,i,c,d,g,a,q9.g7 rfl ?_ ?_⟩
   · first|exact (decide_eq_true (.inl h1)).symm|(unfold asj;first|exact (decide_eq_false oO).symm|exact (decide_eq_true oO).symm|(simp_all;done)|(simp;omega)|(refine decide_eq_decide.2 ?_;omega)|(simp_all;omega))
   first|((repeat (first|exact q9.refl|refine q9.nJ (by rfl) ?_));done)|((repeat (first|exact q9.nil|refine q9.cons rfl ?_));done)
  have h1 : ¬(0<S.s.na/\l=0):=R;refine CW.jQ cJ oR λd3 q j=>?_;have a:=a.ta j;have i:=i.q5 j;have g:=g.k0 j;have c:=c.q5 j;have d:=d.q5 j;refine ym rfl (yP rfl (yf rfl (yf rfl ?_)));refine WS.ev (Ev.load rfl rfl (i.at_ rfl)) rfl ?_;refine ym rfl (yP rfl (yf rfl (yf rfl ?_)));refine WS.ev (Ev.load rfl rfl (i.at_ rfl)) rfl ?_
  first|refine WS.ev (Ev.jZ rfl rfl oO) rfl ?_|refine WS.ev (Ev.add rfl rfl) rfl ?_
  refine WS.ev (Ev.gtr rfl rfl) rfl ?_;refine ym rfl ?_;refine WS.afq (λJ=>?_) (λJ=>?_)
  ·(try simp only[qs] at J);refine yw rfl (yf rfl (yw rfl ?_));refine WS.ev (Ev.load rfl rfl (g.at_ rfl)) rfl ?_
   refine yw rfl ?_;refine WS.ev (Ev.eql rfl rfl) rfl ?_;refine yt rfl rfl (ya rfl ?_);refine WS.nil (q _ _ ?_);refine ⟨rfl,i,c,d,g,a,q9.g7 rfl ?_ ?_⟩
   · first|exact (decide_eq_true (.inl h1)).symm|(unfold asj;first|exact (decide_eq_false oO).symm|exact (decide_eq_true oO).symm|(simp_all;done)|(simp;omega)|(refine decide_eq_decide.2 ?_;omega)|(simp_all;omega))
   first|((repeat (first|exact q9.refl|refine q9.nJ (by rfl) ?_));done)|((repeat (first|exact q9.nil|refine q9.cons rfl ?_));done)
  (try simp only[qs] at J);refine yv rfl (yv rfl (yv rfl (ye rfl rfl (ya rfl ?_))));refine WS.nil (q _ _ ?_);refine ⟨rfl,i,c,d,g,a,q9.g7 rfl ?_ ?_⟩
  · first|exact (decide_eq_true (.inl h1)).symm|(unfold asj;first|exact (decide_eq_false oO).symm|exact (decide_eq_true oO).symm|(simp_all;done)|(simp;omega)|(refine decide_eq_decide.2 ?_;omega)|(simp_all;omega))
  first|((repeat (first|exact q9.refl|refine q9.nJ (by rfl) ?_));done)|((repeat (first|exact q9.nil|refine q9.cons rfl ?_));done)
 rintro _ s' wJ ⟨rfl,i,c,d,g,a,a9⟩;refine CW.sub a9 ?_;refine zy rfl ?_ ?_<;>intro O<;>try simp only[qs] at O
 ·have b5:asj S.s l o:=O
  refine Sr λ_ a5=>?_;refine WL.call hasF77 rfl rfl (ccx _) λv w2 p=>?_;obtain ⟨rfl,rfl⟩:=p;refine za rfl (za rfl (zz (a5 ?_)));refine zr (zr2 rfl rfl rfl ?_);refine ⟨⟨_,_,rfl,?_⟩,a⟩;exact .inr ⟨Z,.inr ⟨h0,.inl ⟨b5,rfl,rfl⟩⟩⟩
 have b4 : ¬asj S.s l o:=O;refine Sr λ_ a4=>zm rfl ?_;refine WL.call hasF78 rfl rfl (ajq b S _ ⟨X,Y,i,c,d⟩ ⟨I,H,G,F,C,B⟩) λv w3 p=>?_;obtain ⟨rfl,k⟩:=p;have a:=a.ta k;have i:=i.q5 k;have c:=c.q5 k;have d:=d.q5 k;refine zm rfl (zQ rfl rfl (za rfl (zz (a4 ?_))));refine zy rfl ?_ ?_<;>intro M<;>try simp only[qs] at M
 ·have hf:S.fin<=f:=M
  refine Sr λ_ a3=>za rfl (za rfl (zz (a3 ?_)));refine zr (zr2 rfl rfl rfl ?_);refine ⟨⟨_,_,rfl,?_⟩,a⟩;exact .inr ⟨Z,.inr ⟨h0,.inr ⟨b4,.inl ⟨hf,rfl,rfl⟩⟩⟩⟩
 have hf:f<S.fin:=by have:=M;omega
 refine zkk (a6 (zc λ_ a2=>?_));refine CW.bZ 17 rfl cJ λd2 a1 h j=>?_;have a:=a.ta j;have i:=i.q5 j;have c:=c.q5 j;have d:=d.q5 j;have z:=i;refine wh 0 rfl h (eM rfl) (wh 2 rfl h (eM rfl) (wh 3 rfl h (eP rfl) (wh 4 rfl h (eF rfl) (wh 5 rfl h (λ_ A=>Ev.fQ rfl rfl (z.q5 A) rfl rfl) ?_))))
 try simp only[oL]
 refine wh 6 rfl h (eM rfl) (wh 7 rfl h (eP rfl) (wh 8 rfl h (eF rfl) (wh 9 rfl h (λ_ A=>Ev.fQ rfl rfl (z.q5 A) rfl rfl) ?_)))
 try simp only[oL]
 refine wh 10 rfl h (eM rfl) (wh 11 rfl h (eM rfl) ?_);refine WH.k6 1 rfl oR hasF78 rfl rfl (ajq b S _ ⟨X,Y,i,c,d⟩ ⟨I,H,G,F,C,B⟩) λv w4 p=>?_;obtain ⟨rfl,k⟩:=p;have a:=a.ta k;have c:=c.q5 k;have d:=d.q5 k;have h:=h.trans k;refine ⟨h,?_⟩;refine WH.k6 12 rfl oR hasF79 rfl rfl (momOf_spec S.V S.Q X Y S.fin f mode _ c d t y (b3.q5 a)) λv w5 p=>?_;obtain ⟨⟨xb,xe,rfl,hR⟩,k⟩:=p;have a:=a.ta k;have h:=h.trans k;refine ⟨h,?_⟩;refine wh 13 rfl h (eX rfl rfl) (wh 14 rfl h (eX rfl rfl) (wh 15 rfl h (eA rfl) (wh 16 rfl h (eA rfl) ?_)));refine WH.done oR (a1 _ _ _ ?_);refine a2 ?_;refine zr (zr2 rfl rfl rfl ?_);refine ⟨⟨_,_,rfl,?_⟩,a⟩;exact .inr ⟨Z,.inr ⟨h0,.inr ⟨b4,.inr ⟨hf,hR⟩⟩⟩⟩
end
section
open Go Sx
theorem fieldsOf_of{P:Program}{t:TypeId}{a:Array Field}(h:P.underlying t=some (.struct a)):P.fieldsOf t=a:=by unfold Program.fieldsOf;rw[h]
theorem run_eqParts(d c:Bool)(c1 c2 h g f e:Int)(w:World):(Op.equalIn 10000 192 (.agg [.bool d,.int .i64 c1,.int .i64 h,.int .u64 f].toArray) (.agg [.bool c,.int .i64 c2,.int .i64 g,.int .u64 e].toArray)).run Tryz.prog w = .ok (d==c&&(c1==c2&&(h==g&&f==e))) w:=by
  have i:=Tryz.underlying192
  have j:=fieldsOf_of i
  have n:Tryz.prog.underlying 192=some (.struct (Program.fieldsOf Tryz.prog 192)):=by rw[j];exact i
  rw[run_equalIn_struct w 9999 _ _ _ n oR,j]
  have q:(isAgg 4).run Tryz.prog w = .ok false w:=(inferInstance:aZ Tryz.prog 4 _ _ _ _).isAgg
  have p:(isAgg 3).run Tryz.prog w = .ok false w:=(inferInstance:aZ Tryz.prog 3 _ _ _ _).isAgg
  have o:(isAgg 94).run Tryz.prog w = .ok false w:=(inferInstance:aZ Tryz.prog 94 _ _ _ _).isAgg
  have m : ∀ a b:Bool,(Op.equalIn 9999 4 (.bool a) (.bool b)).run Tryz.prog w = .ok (a==b) w:=λa b=>run_equalIn_bool' w 9998 _ a b Tryz.underlying4
  have l : ∀ a b:Int,(Op.equalIn 9999 3 (.int .i64 a) (.int .i64 b)).run Tryz.prog w = .ok (a==b) w:=λa b=>run_equalIn_int w 9998 _ .i64 .i64 a b Tryz.underlying3
  have k : ∀ a b:Int,(Op.equalIn 9999 94 (.int .u64 a) (.int .u64 b)).run Tryz.prog w = .ok (a==b) w:=λa b=>run_equalIn_int w 9998 _ .u64 .u64 a b Tryz.underlying94
  cases h1:(d==c)<;>cases h2:(c1==c2)<;>cases h3:(h==g)<;>cases h4:(f==e)<;>simp[Op.eqFields,part,q,p,o,m,l,k,h1,h2,h3,h4]
theorem Ev.eqlParts{s:Sl}{w:World}{ty t':TypeId}{x y:Operand}{b a:Bool}{c1 c2 f e d c:Int}(h:g8 s x=some (.agg [.bool b,.int .i64 c1,.int .i64 f,.int .u64 d].toArray))(g:g8 s y=some (.agg [.bool a,.int .i64 c2,.int .i64 e,.int .u64 c].toArray)):
    Ev Tryz.prog s (.binOp .eql 192 x y t') ty w (.bool (b==a&&(c1==c2&&(f==e&&d==c)))) w:=
  pQ h g (λ_ _=>run_eqGuard_agg _ _ _ _ _ _ _ oR) (by rw[run_eql_struct,run_eqParts];rfl)
end
section
open Go Sx Wd Fl
theorem parts_eq(n b:Bool)(c f:Nat)(e:Int):(n==b&&((c:Int)==0&&(e==e&&(f:Int)==0)))=((n==b)&&decide (c=0/\f=0)):=by
  have d:((c:Int)==0)=decide (c=0):=by rw[Bool.eq_iff_iff];simp
  have a:((f:Int)==0)=decide (f=0):=by rw[Bool.eq_iff_iff];simp
  rw[d,a,beq_self_eq_true,Bool.true_and,Bool.decide_and]
theorem cls0_frac{x:Nat}: (j0 x).cls=0->(j0 x).frac=0:=by
  unfold j0
  by_cases a:x/4503599627370496%2048=2047/\x%4503599627370496≠0
  · rw[if_pos a];simp
  · rw[if_neg a]
    by_cases b:x/4503599627370496%2048=2047
    · rw[if_pos b];simp
    · rw[if_neg b]
      by_cases d:0<x/4503599627370496%2048
      · rw[if_pos d];simp
      · rw[if_neg d]
        by_cases f:0<x%4503599627370496
        · rw[if_pos f];simp
        · rw[if_neg f];simp
theorem splitP_frac(x:Nat):(j0 x).frac<9007199254740992:=by
  unfold j0
  split
  · simp
  · split
    · simp
    · split
      · dsimp only;omega
      · split
        · dsimp only;omega
        · simp
theorem splitP_range(x:Nat): -5000<=(j0 x).exp/\(j0 x).exp<=5000:=by
  unfold j0
  split
  · simp
  · split
    · simp
    · split
      · dsimp only;omega
      · split
        · dsimp only;omega
        · simp
theorem dOf_spec(x:Nat)(w:World)(hx:x<18446744073709551616)(hg:GW w):Ret Tryz.prog 70 [.float .f64 x] w λu w'=>(((j0 x).cls<=2/\∃ r,u = .tuple [.agg [.bool (dJ (fvI x)).neg,r,.int .i64 (dJ (fvI x)).e].toArray,.int .i64 0].toArray/\NU w' r (wd (dJ (fvI x)).m))\/(¬(j0 x).cls<=2/\u = .tuple [.agg [.bool false,.slice none 0 0,.int .i64 0].toArray,.int .i64 30].toArray))/\Chg [] w w':=by
 have a:=crf w;refine zE1 Tryz.func70 rfl ?_;refine Sr λ_ c3=>?_;refine zAh rfl rfl a λb2 e2 b d0 c9 a4 a=>?_;refine za rfl (zz (c3 (Sr λ_ c2=>zm rfl ?_)));refine WL.call hasF132 rfl rfl (dvx x _ hx) λv w1 h'=>?_;obtain ⟨rfl,B⟩:=h';have a:=a.ta B;have b:=b.k0 B;refine WL.iQ (l:=[.bool false,.int .i64 0,.int .i64 0,.int .u64 0]) rfl rfl λb4 e1 c I F=>?_;have a3:=Nat.le_trans a.size F;have a:=a.ta I;have b8:=zdd b.lt F;have b:=b.k0 I;refine zss rfl rfl ao c rfl λd8 M H=>?_;(try simp only[qt] at M);have a:=a.s1 H;have b:=b.kq H;have c:=M;refine zz (c2 (Sr λ_ c1=>zf rfl (zl c rfl rfl ?_)));refine WL.ev (Ev.build (vs:=_) (cs:=[_,_,_,_]) rfl rfl) rfl ?_;refine WL.iQ (l:=[.bool false,.int .i64 0,.int .i64 0,.int .u64 0]) rfl rfl λb5 e0 g z t=>?_;have a2:=Nat.le_trans a.size t;have a:=a.ta z;have b7:=zdd b.lt t;have b:=b.k0 z;have b1:=zdd c.lt t;have c:=c.k0 z;refine zss rfl rfl ao g rfl λd7 J y=>?_;(try simp only[qt] at J);have a:=a.s1 y;have b:=b.kq y;have c:=c.kq y;have g:=J;refine zz (c1 (Sr λ_ c0=>zg g rfl ?_));refine WL.iQ (l:=[.bool false,.int .i64 0,.int .i64 0,.int .u64 0]) rfl rfl λb6 d9 A o j=>?_;have a1:=Nat.le_trans a.size j;have a:=a.ta o;have b3:=zdd b.lt j;have b:=b.k0 o;have b0:=zdd c.lt j;have c:=c.k0 o;have a9:=zdd g.lt j;have g:=g.k0 o;refine zss rfl rfl ao A rfl λd6 h n=>?_;(try simp only[qt] at h);have a:=a.s1 n;have b:=b.kq n;have c:=c.kq n;have g:=g.kq n;have A:=h;refine zz (c0 (Sr λ_ b9=>zf rfl ?_));refine WL.bJ rfl rfl o1 A oS rfl λd5 h k=>?_;(try simp only[qt] at h);have a:=a.s1 k;have b:=b.kq k;have c:=c.kq k;have g:=g.kq k;have A:=h;refine zz (b9 (zc λ_ Z=>CW.block ?_));refine CW.oJ 14 (decide ((j0 x).cls=3\/(j0 x).cls=4)) ?_ ?_
 ·refine zS λ_ D=>zf rfl (zl c rfl rfl (zq rfl rfl (zm rfl ?_)));refine zb ?_ ?_<;>intro c5<;>try simp only[qs] at c5
  ·refine zv rfl (zv rfl (zv rfl (zt rfl rfl (za rfl (zz (D ?_))))));refine ⟨rfl,rfl,q9.g7 rfl ?_ ?_⟩
   ·first|(simp;omega)|(simp_all;done)|(refine decide_eq_decide.2 ?_;omega)
   exact SMg
  refine zw rfl (zf rfl (zw rfl (zl c rfl rfl (zw rfl (zq rfl rfl (ze rfl rfl (za rfl (zz (D ?_)))))))));refine ⟨rfl,rfl,q9.g7 rfl ?_ ?_⟩
  ·first|(simp;omega)|(simp_all;done)|(refine decide_eq_decide.2 ?_;omega)
  exact SMg
 refine zy rfl ?_ ?_<;>intro R<;>try simp only[qs] at R
 ·have a0 : ¬(j0 x).cls<=2:=by have:=R;omega
  refine Sr λ_ Y=>?_;refine WL.ev (Ev.build (vs:=_) (cs:=[_,_,_]) rfl rfl) rfl ?_;refine zss rfl rfl ao b rfl λd4 f a7=>?_;(try simp only[qt] at f);have a:=a.s1 a7;have b:=f;refine za rfl (zz (Y ?_));refine zr (k8.gJ rfl (aX.cell rfl (b.fX rfl rfl)) (aX.tmp rfl) ?_);exact ⟨.inr ⟨a0,rfl⟩,a⟩
 have a5:(j0 x).cls<=2:=by have:=R;have:=splitP_cls x;omega
 refine CW.oJ 24 (decide ((j0 x).cls=0/\(j0 x).frac=0)) ?_ ?_
 ·refine zS λ_ C=>zg c rfl (zg g rfl ?_);refine WL.ev (Ev.eqlParts rfl rfl) rfl ?_;rw[parts_eq];refine zm rfl ?_;refine zb ?_ ?_<;>intro c4<;>try simp only[qs] at c4
  ·refine zv rfl (zv rfl (zv rfl (zt rfl rfl (za rfl (zz (C ?_))))));refine ⟨rfl,rfl,q9.g7 rfl ?_ ?_⟩
   ·generalize (j0 x).neg=nn at *
    by_cases hP:(j0 x).cls=0/\(j0 x).frac=0
    · (try rw[decide_eq_true hP] at *)<;>cases nn<;>simp_all
    (try rw[decide_eq_false hP] at *)<;>cases nn<;>simp_all
   exact SMg
  refine zw rfl (zg c rfl (zw rfl (zg A rfl (zw rfl ?_))));refine WL.ev (Ev.eqlParts rfl rfl) rfl ?_;rw[parts_eq];refine ze rfl rfl (za rfl (zz (C ?_)));refine ⟨rfl,rfl,q9.g7 rfl ?_ ?_⟩
  ·generalize (j0 x).neg=nn at *
   by_cases hP:(j0 x).cls=0/\(j0 x).frac=0
   · (try rw[decide_eq_true hP] at *)<;>cases nn<;>simp_all
   (try rw[decide_eq_false hP] at *)<;>cases nn<;>simp_all
  exact SMg
 refine zy rfl ?_ ?_<;>intro Q<;>try simp only[qs] at Q
 ·have hq:(j0 x).cls=0/\(j0 x).frac=0:=Q
  refine Sr λ_ X=>?_;refine WL.ev (Ev.build (vs:=_) (cs:=[_,_,_]) rfl rfl) rfl ?_;refine zss rfl rfl ao b rfl λd3 f a6=>?_;(try simp only[qt] at f);have a:=a.s1 a6;have b:=f;refine za rfl (zz (X ?_));refine zr (k8.gJ rfl (aX.cell rfl (b.fX rfl rfl)) (aX.tmp rfl) ?_);refine ⟨.inl ⟨a5,?_⟩,a⟩;have hz:fvI x=0:=cnq oO;rw[hz];exact ⟨.slice none 0 0,rfl,by rw[show (dJ 0).m=0 from rfl,eJ];exact NU.nil⟩
 have hq:(j0 x).cls=1\/(j0 x).cls=2:=by have:=Q;have h2:=cls0_frac (x:=x);omega
 have c6:=fin_form hq;have e6:=splitP_frac x;have e7:=splitP_range x;refine zkk (Z (zc λ_ V=>?_));refine CW.gX 10 12 rfl cJ λc7 U p O=>?_;have a:=a.ta O;have b:=b.k0 O;have c:=c.k0 O;have i:=c;refine wk 0 rfl p (eF rfl) (wk 1 rfl p (λ_ s=>Ev.load rfl rfl ((i.q5 s).at_ rfl)) (wk 2 rfl p (eF rfl) (wk 3 rfl p (λ_ s=>Ev.load rfl rfl ((i.q5 s).at_ rfl)) (wk 5 rfl p (eF rfl) (wk 6 rfl p (λ_ s=>Ev.load rfl rfl ((i.q5 s).at_ rfl)) ?_)))));refine WK.k6 4 rfl oR hasF134 rfl rfl (b8x (j0 x).frac _ oO) λv w2 h'=>?_;obtain ⟨hN,B⟩:=h';have a:=a.ta B;have b:=b.k0 B;have p:=p.trans B;refine ⟨p,?_⟩;refine WK.k6 7 rfl oR hasF133 rfl rfl (aax (j0 x).neg _ (wd (j0 x).frac) (j0 x).exp _ hN (hg.q5 a) oO) λv w3 h'=>?_;obtain ⟨hD,B⟩:=h';rw[g6,c6] at hD;obtain ⟨r,d,hd,rfl,T⟩:=hD.resolve_right (λq=>by cases q.1);cases hd;have a:=a.ta B;have b:=b.k0 B;have p:=p.trans B;refine ⟨p,?_⟩;refine wk 8 rfl p (eX rfl rfl) (wk 9 rfl p (eX rfl rfl) ?_);refine WK.nQ 10 rfl oR oR rfl rfl rfl ao b oS rfl λd2 f G=>?_;(try simp only[qt] at f);have a:=a.s1 G;have T:=T.q8 b G an;have b:=f;refine WK.after 11 rfl oR oR (Ev.assign rfl) rfl ?_;refine WK.done oR (U _ _ _ ?_);refine V ?_;refine zr (k8.gJ rfl (aX.cell rfl (b.fX rfl rfl)) (aX.tmp rfl) ?_);exact ⟨.inl ⟨a5,r,rfl,T⟩,a⟩
def fdy(x:Nat):Dy:=if (j0 x).cls<=2 then dJ (fvI x) else Dy.zero
def Sh.one(x:Nat):Sh:=⟨a5q [x],fdy x,(fJ (fdy x) (fdy x)).getD Dy.zero,x,x⟩
theorem sift_one(x:Nat):a0j [x] 0 0=0:=by
  unfold a0j
  rw[if_neg (λq=>q oD),if_neg oS,if_neg oO,if_neg oO]
theorem fdy_ok(x:Nat):(fdy x).ok:=by
  unfold fdy;split
  · exact a1x (dpj x)
  · exact b4j
theorem one_wf{x:Nat}(g:x<18446744073709551616):(Sh.one x).wf:=by
  refine ⟨?_,fdy_ok x,tX λd h=>mQ h,g,g⟩
  show (countP SP.zero (k7 x)).le _
  have i:SP.zero.le 0:=by unfold SP.le;decide
  obtain ⟨a,b,c,d,e,f⟩:=countP.le (k:=k7 x) i
  exact ⟨by omega,by omega,by omega,by omega,by omega,by omega⟩
theorem cfx(b:Nat)(S:Sh)(x:Nat)(w:World)(hS:ShM 91 w b S)(c3:S.wf)(hx:x<18446744073709551616)(hg:GW w):Ret Tryz.prog 22 [.pointer (some ⟨b,0,none⟩),.float .f64 x] w λu w'=>(1099511627776<S.s.al+1/\u = .int .i64 2/\ShM 91 w' b S/\Chg [b] w w')\/(S.s.al+1<=1099511627776/\u = .int .i64 0/\ShM 91 w' b (S.merge (Sh.one x))/\Chg [b] w w'):=by
 have a:=crf w;have O:=hg;have c6:=hS.lt;refine zE2 Tryz.func22 rfl ?_;refine Sr λ_ c0=>za rfl (zz (c0 (Sr λ_ b9=>zm rfl ?_)));refine WL.buildSlice (m:=1) (cs:=[bix (x)]) oD oD rfl oR rfl λd1 b3 t=>?_;have T:=t.chg;have M:=t.ge;have B:FB b3 d1 _ [x]:=t.at_;have Y:=Nat.le_trans a.size M;have a:=a.ta T;refine WL.call hasF69 rfl rfl (Plain_spec _) λv w1 D=>?_;obtain ⟨rfl,o⟩:=D;have a:=a.ta o;have B:=B.k0 o;refine WL.call hasF68 rfl rfl (Sift_spec _ [x] 0 0 _ (NF.acq B.row (by intro y hy;rw[List.mem_singleton.1 hy];exact hx) oS rfl oS)) λv w2 D=>?_;obtain ⟨v2,e6,rfl,o⟩:=(D.resolve_left (λq=>q.1 (sift_one x))).2;obtain ⟨p,R⟩ : ∃ p,p=a5q [x]:=⟨_,rfl⟩;rw[<- R];unfold SP.cells;have a:=a.ta o;refine zm rfl (zx rfl rfl (zx rfl rfl (zx rfl rfl ?_)));refine WL.iQ (l:=[.int .i64 0,.int .i64 0,.int .i64 0,.int .i64 0,.int .i64 0,.int .i64 0]) rfl rfl λb6 e0 c a8 a6=>?_;have a4:=Nat.le_trans a.size a6;have a:=a.ta a8;refine za rfl ?_;refine zss rfl rfl ao c rfl λd4 J Q=>?_;(try simp only[qt] at J);have a:=a.s1 Q;have c:=J;refine za rfl (zz (b9 (Sr λ_ b7=>zm rfl ?_)));refine WL.call hasF70 rfl rfl (dOf_spec x _ hx (O.q5 a)) λv w3 D=>?_;obtain ⟨hD,o⟩:=D;obtain ⟨F,hF⟩ : ∃ F,F=fdy x:=⟨_,rfl⟩;obtain ⟨rd,kd,rfl,d⟩ : ∃ rd kd,v = .tuple [.agg [.bool F.neg,rd,.int .i64 F.e].toArray,.int .i64 kd].toArray/\NU w3 rd (wd F.m):=by
  rw[hF];unfold fdy;rcases hD with ⟨hc,r,rfl,hN⟩|⟨hc,rfl⟩
  · rw[if_pos hc];exact ⟨r,0,rfl,hN⟩
  rw[if_neg hc];exact ⟨_,30,rfl,by rw[show Dy.zero.m=0 from rfl,eJ];exact NU.nil⟩
 have n:F.ok:=by rw[hF];exact fdy_ok x
 have e4:=d.one;have a:=a.ta o;have c:=c.k0 o;refine zm rfl (zx rfl rfl (zx rfl rfl ?_));refine zAh rfl rfl a λb8 d9 f H a5 a3 a=>?_;have d:=d.q5 H;have b1:=zdd c.lt a5;have c:=c.k0 H;refine zss rfl rfl ao f rfl λd3 I k=>?_;(try simp only[qt] at I);have a:=a.s1 k;have c:=c.kq k;have d:=d.q8 f k an;have f:=I;refine za rfl (zz (b7 (Sr λ_ b5=>zg f rfl (zg f rfl ?_))));refine WL.call hasF71 rfl rfl (uQ _ _ _ _ _ _ _ _ _ d d (O.q5 a) (aJ n) (aJ n)) λv w4 D=>?_;obtain ⟨hD,o⟩:=D;rw[jX n n] at hD;obtain ⟨rs,ks,rfl,i⟩:=hD.cells;obtain ⟨V,U⟩ : ∃ V,V=(fJ F F).getD Dy.zero:=⟨_,rfl⟩;rw[<- U] at i;rw[<- U];have G:Sh.one x=⟨p,F,V,x,x⟩:=by unfold Sh.one;rw[U,hF,R]
 have c2:(Sh.mk p F V x x).wf:=G ▸ one_wf hx;have a9:p.al=1:=by rw[R];rfl
 have e3:=i.one;have a:=a.ta o;have c:=c.k0 o;have f:=f.k0 o;have d:=d.q5 o;refine zm rfl (zx rfl rfl (zx rfl rfl ?_));refine zAh rfl rfl a λe8 d6 j h z Z a=>?_;have d:=d.q5 h;have i:=i.q5 h;have a2:=zdd c.lt z;have c:=c.k0 h;have a1:=zdd f.lt z;have f:=f.k0 h;refine zss rfl rfl ao j rfl λd2 C g=>?_;(try simp only[qt] at C);have a:=a.s1 g;have c:=c.kq g;have f:=f.kq g;have d:=d.q8 j g an;have i:=i.q8 j g an;have j:=C;refine za rfl (zz (b5 (Sr λ_ b4=>zm rfl (zg c rfl (zg f rfl (zg j rfl (zm rfl (zm rfl ?_))))))));refine WL.ev (Ev.build (vs:=_) (cs:=[.int .i64 (p.na:Int),.int .i64 (p.up:Int),.int .i64 (p.dn:Int),.int .i64 (p.mi:Int),.int .i64 (p.pl:Int),.int .i64 (p.al:Int),.bool F.neg,rd,.int .i64 F.e,.bool V.neg,rs,.int .i64 V.e,.float .f64 x,.float .f64 x]) rfl oR) rfl ?_;refine zBh rfl rfl rfl a λd0 d5 b0 A c4 X a=>?_;have d:=d.q5 A;have i:=i.q5 A;refine WL.call hasF31 rfl rfl (shMerge_spec b d0 S ⟨p,F,V,x,x⟩ _ (hS.q5 a) c3 ⟨rd,rs,b0,d,i⟩ c2 (by have:=c6;omega) (O.q5 a)) λv w5 D=>?_;dsimp only at D;rw[a9,<- G] at D;have a7:=D;refine za rfl (zz (b4 ?_));refine zr (zr1 rfl rfl ?_);rcases a7 with ⟨h1,rfl,h2,h3⟩|⟨h1,rfl,h2,h3⟩
 · exact .inl ⟨h1,rfl,h2,(Chg.any a).trans h3⟩
 exact .inr ⟨h1,rfl,h2,(Chg.any a).trans h3⟩
theorem asx{x:Nat}(h:isNaN x=false):place x=key x:=by
  unfold place key canon
  rw[h]
  simp
def Sh.num(S:Sh):Prop:=S.some->isNaN S.lo=false/\isNaN S.hi=false
theorem wX(b:Nat)(S:Sh)(w:World)(p:ShM 148 w b S)(h:S.s.le 1099511627776):Ret Tryz.prog 89 [.pointer (some ⟨b,0,none⟩)] w λu w'=>u = .bool (decide S.some)/\Chg [] w w':=by
 obtain ⟨t,v,d,q,r⟩:=p;obtain ⟨o,n,m,l,k,j⟩:=h;have a:=crf w;refine zE1 Tryz.func89 rfl ?_;refine Sr λ_ g=>za rfl (zz (g (zc λ_ f=>?_)));refine CW.jQ cJ oR λi e c=>?_;have a:=a.ta c;have d:=d.q5 c;refine ym rfl (yP rfl (yf rfl (yf rfl ?_)));refine WS.ev (Ev.load rfl rfl (d.at_ rfl)) rfl ?_;refine ym rfl (yP rfl (yf rfl (yf rfl ?_)));refine WS.ev (Ev.load rfl rfl (d.at_ rfl)) rfl ?_;refine WS.ev (Ev.gtr rfl rfl) rfl ?_;refine ya rfl ?_;refine WS.nil (e _ _ ?_);refine f ?_;refine zr (zr1 rfl rfl ?_);refine ⟨congrArg Value.bool (decide_eq_decide.2 ?_),a⟩;unfold Sh.some;omega
theorem dzx(b:Nat)(S:Sh)(w:World)(m:ShM 148 w b S)(d:S.s.le 1099511627776):Ret Tryz.prog 44 [.pointer (some ⟨b,0,none⟩)] w λu w'=>u = .int .i64 (S.s.al:Int)/\Chg [] w w':=by
 obtain ⟨p,q,l,n,o⟩:=m;obtain ⟨k,j,i,h,g,f⟩:=d;have e:=crf w;refine zE1 Tryz.func44 rfl ?_;refine Sr λ_ c=>za rfl (zz (c (Sr λ_ a=>zm rfl (zP rfl (zf rfl (zf rfl (zl l rfl rfl (za rfl (zz (a ?_))))))))));refine zr (zr1 rfl rfl ?_);exact ⟨rfl,e⟩
theorem avx(s:SP)(w:World)(f:s.le 1099511627776):Ret Tryz.prog 107 [.agg [.int .i64 (s.na:Int),.int .i64 (s.up:Int),.int .i64 (s.dn:Int),.int .i64 (s.mi:Int),.int .i64 (s.pl:Int),.int .i64 (s.al:Int)].toArray] w λu w'=>u = .int .i64 ((s.al:Int)-s.na-s.up-s.dn)/\Chg [] w w':=by
 obtain ⟨o,n,m,l,k,j⟩:=f;have b:=crf w;refine zE1 Tryz.func107 rfl ?_;refine Sr λ_ e=>?_;refine zBh rfl rfl rfl b λp i a h g c b=>?_;refine za rfl (zz (e (Sr λ_ d=>zf rfl (zl a rfl rfl (zf rfl (zl a rfl rfl ?_))))));refine WL.ev (Ev.dX rfl rfl oO) rfl ?_;refine zf rfl (zl a rfl rfl ?_);refine WL.ev (Ev.dX rfl rfl oO) rfl ?_;refine zf rfl (zl a rfl rfl ?_);refine WL.ev (Ev.dX rfl rfl oO) rfl ?_;refine za rfl (zz (d ?_));refine zr (zr1 rfl rfl ?_);exact ⟨rfl,b⟩
theorem b9j(s:SP)(w:World)(q:s.le 1099511627776):Ret Tryz.prog 156 [.agg [.int .i64 (s.na:Int),.int .i64 (s.up:Int),.int .i64 (s.dn:Int),.int .i64 (s.mi:Int),.int .i64 (s.pl:Int),.int .i64 (s.al:Int)].toArray] w λu w'=>u = .int .i64 ((s.al:Int)-s.na-s.up-s.dn-s.mi-s.pl)/\Chg [] w w':=by
 obtain ⟨p,o,n,m,l,k⟩:=q;have a:=crf w;refine zE1 Tryz.func156 rfl ?_;refine Sr λ_ j=>?_;refine zBh rfl rfl rfl a λC y e t r f a=>?_;refine za rfl (zz (j (zc λ_ i=>?_)));refine CW.bZ 9 rfl cJ λz h d g=>?_;have a:=a.ta g;have e:=e.k0 g;have b:=e;refine wh 0 rfl d (λ_ c=>Ev.oQ rfl rfl (b.q5 c) rfl) (wh 2 rfl d (eF rfl) (wh 3 rfl d (λ_ c=>Ev.load rfl rfl ((b.q5 c).at_ rfl)) (wh 5 rfl d (eF rfl) (wh 6 rfl d (λ_ c=>Ev.load rfl rfl ((b.q5 c).at_ rfl)) ?_))));refine WH.k6 1 rfl oR hasF107 rfl rfl (avx s _ ⟨p,o,n,m,l,k⟩) λv B A=>?_;obtain ⟨rfl,x⟩:=A;have a:=a.ta x;have d:=d.trans x;refine ⟨d,?_⟩;refine wh 4 rfl d (λ_ _=>Ev.dX rfl rfl oO) (wh 7 rfl d (λ_ _=>Ev.dX rfl rfl oO) (wh 8 rfl d (eA rfl) ?_));refine WH.done oR (h _ _ _ ?_);refine i ?_;refine zr (zr1 rfl rfl ?_);exact ⟨rfl,a⟩
theorem r21New_spec(w:World):Ret Tryz.prog 26 [] w λu w'=>(∃ b,u = .pointer (some ⟨b,0,none⟩)/\ShM 148 w' b Sh.zero/\w.heap.size<=b)/\Chg [] w w':=by
 have a:=crf w;refine zE0 Tryz.func26 rfl ?_;refine Sr λ_ e=>za rfl (zz (e (Sr λ_ d=>?_)));refine WL.ev (Ev.build (vs:=_) (cs:=[_,_,_,_,_,_,_,_,_,_,_,_,_,_]) rfl rfl) rfl ?_;refine zBh rfl rfl rfl a λj i f h g c a=>?_;refine za rfl (zz (d ?_));refine zr (zr1 rfl rfl ?_);refine ⟨⟨j,rfl,⟨_,_,f,?_,?_⟩,by omega⟩,a⟩
 · rw[show Sh.zero.V.m=0 from rfl,eJ];exact NU.nil
 rw[show Sh.zero.Q.m=0 from rfl,eJ];exact NU.nil
theorem dyj(b c:Nat)(S U:Sh)(w:World)(a:ShM 148 w b S)(d0:S.wf)(hU:ShM 148 w c U)(f2:U.wf)(i8:b≠c)(d9:S.num)(d8:U.num):Ret Tryz.prog 32 [.pointer (some ⟨b,0,none⟩),.pointer (some ⟨c,0,none⟩)] w λu w'=>(1099511627776<S.s.al+U.s.al/\u = .int .i64 2/\ShM 148 w' b S/\Chg [b] w w')\/(S.s.al+U.s.al<=1099511627776/\u = .int .i64 0/\ShM 148 w' b (S.merge U)/\Chg [b] w w'):=by
 obtain ⟨rv,rq,n,j,g⟩:=a;have i9:=n;have h0:=d0;obtain ⟨⟨d7,d6,d5,d4,d3,d2⟩,a0,a1,h2,h4⟩:=d0;obtain ⟨sv,sq,d,o,k⟩:=hU;obtain ⟨⟨f8,f7,f6,f5,f4,f3⟩,T,X,h1,h3⟩:=f2;have h:Chg [b] w w:=Chg.refl _ _;refine zE2 Tryz.func32 rfl ?_;refine Sr λ_ f1=>za rfl (zz (f1 (zc λ_ f0=>zc λ_ e9=>?_)));refine CW.jQ cJ oR λi7 e6 f=>?_;have h:=h.ta f;have n:=n.q5 f;have d:=d.q5 f;have j:=j.q5 f;have g:=g.q5 f;have o:=o.q5 f;have k:=k.q5 f;refine ym rfl (yP rfl (yf rfl (yf rfl ?_)));refine WS.ev (Ev.load rfl rfl (n.at_ rfl)) rfl ?_;refine ym rfl (yP rfl (yf rfl (yf rfl ?_)));refine WS.ev (Ev.load rfl rfl (d.at_ rfl)) rfl ?_;refine WS.ev (Ev.jZ rfl rfl oO) rfl ?_;refine WS.ev (Ev.gtr rfl rfl) rfl ?_;refine WS.nil (e6 _ _ ?_);refine e9 ?_;refine zy rfl ?_ ?_<;>intro b2<;>try simp only[qs] at b2
 ·have e2:1099511627776<S.s.al+U.s.al:=by have:=b2;omega
  refine Sr λ_ e8=>za rfl (zz (e8 ?_));refine zr (zr1 rfl rfl ?_);exact .inl ⟨e2,rfl,⟨_,_,n,j,g⟩,h⟩
 have d1:S.s.al+U.s.al<=1099511627776:=by have:=b2;omega
 refine zkk (f0 ?_);refine CW.anx (λD s' w'=>D=[]/\∃ B a8:Nat,B=(if U.some/\(¬S.some\/key U.lo<key S.lo) then U.lo else S.lo)/\a8=(if U.some/\(¬S.some\/key S.hi<key U.hi) then U.hi else S.hi)/\BK w' b 148 [.int .i64 (S.s.na:Int),.int .i64 (S.s.up:Int),.int .i64 (S.s.dn:Int),.int .i64 (S.s.mi:Int),.int .i64 (S.s.pl:Int),.int .i64 (S.s.al:Int),.bool S.V.neg,rv,.int .i64 S.V.e,.bool S.Q.neg,rq,.int .i64 S.Q.e,.float .f64 B,.float .f64 a8]/\NU w' rv (wd S.V.m)/\NU w' rq (wd S.Q.m)/\BK w' c 148 [.int .i64 (U.s.na:Int),.int .i64 (U.s.up:Int),.int .i64 (U.s.dn:Int),.int .i64 (U.s.mi:Int),.int .i64 (U.s.pl:Int),.int .i64 (U.s.al:Int),.bool U.V.neg,sv,.int .i64 U.V.e,.bool U.Q.neg,sq,.int .i64 U.Q.e,.float .f64 U.lo,.float .f64 U.hi]/\NU w' sv (wd U.V.m)/\NU w' sq (wd U.Q.m)/\Chg [b] w w'/\q9 [(0,.pointer (some ⟨b,0,none⟩)),(1,.pointer (some ⟨c,0,none⟩))] s') ?_ ?_
 ·refine Sr λ_ e7=>zm rfl ?_;refine WL.call hasF89 rfl rfl (wX c U _ ⟨sv,sq,d,o,k⟩ ⟨f8,f7,f6,f5,f4,f3⟩) λv w1 Y=>?_;obtain ⟨rfl,C⟩:=Y;have h:=h.ta C;have n:=n.q5 C;have d:=d.q5 C;have j:=j.q5 C;have g:=g.q5 C;have o:=o.q5 C;have k:=k.q5 C;refine zz (e7 ?_);refine zy rfl ?_ ?_<;>intro b1<;>try simp only[qs] at b1
  ·have x:U.some:=by simpa using b1
   refine CW.anx (λD s' w'=>D=[]/\∃ B:Nat,B=(if U.some/\(¬S.some\/key U.lo<key S.lo) then U.lo else S.lo)/\BK w' b 148 [.int .i64 (S.s.na:Int),.int .i64 (S.s.up:Int),.int .i64 (S.s.dn:Int),.int .i64 (S.s.mi:Int),.int .i64 (S.s.pl:Int),.int .i64 (S.s.al:Int),.bool S.V.neg,rv,.int .i64 S.V.e,.bool S.Q.neg,rq,.int .i64 S.Q.e,.float .f64 B,.float .f64 S.hi]/\NU w' rv (wd S.V.m)/\NU w' rq (wd S.Q.m)/\BK w' c 148 [.int .i64 (U.s.na:Int),.int .i64 (U.s.up:Int),.int .i64 (U.s.dn:Int),.int .i64 (U.s.mi:Int),.int .i64 (U.s.pl:Int),.int .i64 (U.s.al:Int),.bool U.V.neg,sv,.int .i64 U.V.e,.bool U.Q.neg,sq,.int .i64 U.Q.e,.float .f64 U.lo,.float .f64 U.hi]/\NU w' sv (wd U.V.m)/\NU w' sq (wd U.Q.m)/\Chg [b] w w'/\q9 [(0,.pointer (some ⟨b,0,none⟩)),(1,.pointer (some ⟨c,0,none⟩))] s') ?_ ?_
   ·refine CW.axj 34 (decide (¬S.some\/key U.lo<key S.lo)) ?_ ?_
    ·intro p;refine CW.bZ 15 rfl cJ λg9 a5 a f=>?_;have p:=p.ta f;have n:=n.q5 f;have d:=d.q5 f;have j:=j.q5 f;have g:=g.q5 f;have r:=n;have t:=d;refine wh 0 rfl a (eM rfl) ?_;refine WH.k6 1 rfl oR hasF89 rfl rfl (wX b S _ ⟨rv,rq,n,j,g⟩ ⟨d7,d6,d5,d4,d3,d2⟩) λv w2 Y=>?_;obtain ⟨rfl,C⟩:=Y;have p:=p.ta C;have a:=a.trans C;refine ⟨a,?_⟩
     by_cases hsm:S.some
     ·rw[show decide (Sh.some S)=true from decide_eq_true hsm];refine wh 2 rfl a (λ_ _=>Ev.not rfl) (wh 3 rfl a (eM rfl) (wg 4 rfl rfl rfl rfl rfl a (eM rfl) (wg 5 rfl rfl rfl rfl rfl a (eP rfl) (wg 6 rfl rfl rfl rfl rfl a (eF rfl) (wg 7 rfl rfl rfl rfl rfl a (λ_ i=>Ev.load rfl rfl ((t.q5 i).at_ rfl)) (wg 8 rfl rfl rfl rfl rfl a (eM rfl) (wg 9 rfl rfl rfl rfl rfl a (eP rfl) (wg 10 rfl rfl rfl rfl rfl a (eF rfl) (wg 11 rfl rfl rfl rfl rfl a (λ_ i=>Ev.load rfl rfl ((r.q5 i).at_ rfl)) ?_)))))))));refine WH.rX 12 rfl oR rfl rfl rfl rfl hasF99 rfl rfl (kZ U.lo S.lo oO oO _) λv w3 Y=>?_;obtain ⟨rfl,rfl⟩:=Y;rw[asx (d8 x).1,asx (d9 hsm).1];refine ⟨a,?_⟩;refine wg 13 rfl rfl rfl rfl rfl a (λ_ _=>Ev.lss rfl rfl) (wh 14 rfl a (λ_ _=>Ev.anq rfl rfl rfl) ?_);refine WH.done oR (a5 _ _ _ ?_);refine ⟨rfl,p,q9.g7 rfl ?_ ?_⟩
      ·first|exact (decide_eq_true (.inl hsm)).symm|exact decide_eq_decide.2 (by rw[boj];exact ⟨.inr,λq=>q.resolve_left (λz=>z hsm)⟩)
      exact SMg
     rw[show decide (Sh.some S)=false from decide_eq_false hsm];refine wh 2 rfl a (λ_ _=>Ev.not rfl) (wh 3 rfl a (eM rfl) (wp 4 rfl rfl rfl rfl rfl a (wp 5 rfl rfl rfl rfl rfl a (wp 6 rfl rfl rfl rfl rfl a (wp 7 rfl rfl rfl rfl rfl a (wp 8 rfl rfl rfl rfl rfl a (wp 9 rfl rfl rfl rfl rfl a (wp 10 rfl rfl rfl rfl rfl a (wp 11 rfl rfl rfl rfl rfl a ?_)))))))));refine WH.ayj 12 rfl oR rfl rfl rfl rfl a rfl ?_;refine wp 13 rfl rfl rfl rfl rfl a (wh 14 rfl a (λ_ _=>Ev.aex rfl rfl rfl) ?_);refine WH.done oR (a5 _ _ _ ?_);refine ⟨rfl,p,q9.g7 rfl ?_ ?_⟩
     ·first|exact (decide_eq_true (.inl hsm)).symm|exact decide_eq_decide.2 (by rw[boj];exact ⟨.inr,λq=>q.resolve_left (λz=>z hsm)⟩)
     exact SMg
    intro wM p;have h:=h.ta p;have n:=n.q5 p;have d:=d.q5 p;have j:=j.q5 p;have g:=g.q5 p;have o:=o.q5 p;have k:=k.q5 p;refine zy rfl ?_ ?_<;>intro b0<;>try simp only[qs] at b0
    ·have hq : ¬S.some\/key U.lo<key S.lo:=by simpa using b0
     refine zS λ_ c4=>zm rfl (zm rfl (zP rfl (zf rfl (zl d rfl rfl (zP rfl (zf rfl ?_))))));refine WL.bJ rfl rfl o1 n oS rfl λi1 y J=>?_;(try simp only[qt] at y);have h:=h.s1 J;have d:=d.kq J;have j:=j.q8 n J an;have g:=g.q8 n J an;have o:=o.q8 n J an;have k:=k.q8 n J an;have n:=y;refine zz (c4 ?_);exact ⟨rfl,U.lo,(if_pos ⟨x,hq⟩).symm,n,j,g,d,o,k,h,(by first|((repeat (first|exact q9.refl|refine q9.nJ (by rfl) ?_));done)|((repeat (first|exact q9.nil|refine q9.cons rfl ?_));done))⟩
    have hq : ¬(¬S.some\/key U.lo<key S.lo):=by simpa using b0
    refine zkk ?_;exact ⟨rfl,S.lo,(if_neg (λq=>hq q.2)).symm,n,j,g,d,o,k,h,(by first|((repeat (first|exact q9.refl|refine q9.nJ (by rfl) ?_));done)|((repeat (first|exact q9.nil|refine q9.cons rfl ?_));done))⟩
   rintro _ s' wJ ⟨rfl,B,a3,n,j,g,d,o,k,h,Z⟩;refine CW.sub Z ?_;refine CW.axj 56 (decide (¬S.some\/key S.hi<key U.hi)) ?_ ?_
   ·intro p;refine CW.bZ 15 rfl cJ λg5 a4 a f=>?_;have p:=p.ta f;have n:=n.q5 f;have d:=d.q5 f;have j:=j.q5 f;have g:=g.q5 f;have r:=n;have t:=d;refine wh 0 rfl a (eM rfl) ?_;refine WH.k6 1 rfl oR hasF89 rfl rfl (wX b ⟨S.s,S.V,S.Q,B,S.hi⟩ _ ⟨rv,rq,n,j,g⟩ ⟨d7,d6,d5,d4,d3,d2⟩) λv w4 Y=>?_;obtain ⟨rfl,C⟩:=Y;have p:=p.ta C;have a:=a.trans C;refine ⟨a,?_⟩
    by_cases hsm:S.some
    ·rw[show decide (Sh.some ⟨S.s,S.V,S.Q,B,S.hi⟩)=true from decide_eq_true hsm];refine wh 2 rfl a (λ_ _=>Ev.not rfl) (wh 3 rfl a (eM rfl) (wg 4 rfl rfl rfl rfl rfl a (eM rfl) (wg 5 rfl rfl rfl rfl rfl a (eP rfl) (wg 6 rfl rfl rfl rfl rfl a (eF rfl) (wg 7 rfl rfl rfl rfl rfl a (λ_ i=>Ev.load rfl rfl ((t.q5 i).at_ rfl)) (wg 8 rfl rfl rfl rfl rfl a (eM rfl) (wg 9 rfl rfl rfl rfl rfl a (eP rfl) (wg 10 rfl rfl rfl rfl rfl a (eF rfl) (wg 11 rfl rfl rfl rfl rfl a (λ_ i=>Ev.load rfl rfl ((r.q5 i).at_ rfl)) ?_)))))))));refine WH.rX 12 rfl oR rfl rfl rfl rfl hasF99 rfl rfl (kZ U.hi S.hi oO oO _) λv w5 Y=>?_;obtain ⟨rfl,rfl⟩:=Y;rw[asx (d8 x).2,asx (d9 hsm).2];refine ⟨a,?_⟩;refine wg 13 rfl rfl rfl rfl rfl a (λ_ _=>Ev.gtr rfl rfl) (wh 14 rfl a (λ_ _=>Ev.anq rfl rfl rfl) ?_);refine WH.done oR (a4 _ _ _ ?_);refine ⟨rfl,p,q9.g7 rfl ?_ ?_⟩
     ·first|exact (decide_eq_true (.inl hsm)).symm|exact decide_eq_decide.2 (by rw[afx];exact ⟨.inr,λq=>q.resolve_left (λz=>z hsm)⟩)
     exact SMg
    rw[show decide (Sh.some ⟨S.s,S.V,S.Q,B,S.hi⟩)=false from decide_eq_false hsm];refine wh 2 rfl a (λ_ _=>Ev.not rfl) (wh 3 rfl a (eM rfl) (wp 4 rfl rfl rfl rfl rfl a (wp 5 rfl rfl rfl rfl rfl a (wp 6 rfl rfl rfl rfl rfl a (wp 7 rfl rfl rfl rfl rfl a (wp 8 rfl rfl rfl rfl rfl a (wp 9 rfl rfl rfl rfl rfl a (wp 10 rfl rfl rfl rfl rfl a (wp 11 rfl rfl rfl rfl rfl a ?_)))))))));refine WH.ayj 12 rfl oR rfl rfl rfl rfl a rfl ?_;refine wp 13 rfl rfl rfl rfl rfl a (wh 14 rfl a (λ_ _=>Ev.aex rfl rfl rfl) ?_);refine WH.done oR (a4 _ _ _ ?_);refine ⟨rfl,p,q9.g7 rfl ?_ ?_⟩
    ·first|exact (decide_eq_true (.inl hsm)).symm|exact decide_eq_decide.2 (by rw[afx];exact ⟨.inr,λq=>q.resolve_left (λz=>z hsm)⟩)
    exact SMg
   intro wM p;have h:=h.ta p;have n:=n.q5 p;have d:=d.q5 p;have j:=j.q5 p;have g:=g.q5 p;have o:=o.q5 p;have k:=k.q5 p;refine zy rfl ?_ ?_<;>intro a9<;>try simp only[qs] at a9
   ·have hq : ¬S.some\/key S.hi<key U.hi:=by simpa using a9
    refine zS λ_ c3=>zm rfl (zm rfl (zP rfl (zf rfl (zl d rfl rfl (zP rfl (zf rfl ?_))))));refine WL.bJ rfl rfl o1 n oS rfl λi0 y I=>?_;(try simp only[qt] at y);have h:=h.s1 I;have d:=d.kq I;have j:=j.q8 n I an;have g:=g.q8 n I an;have o:=o.q8 n I an;have k:=k.q8 n I an;have n:=y;refine zz (c3 ?_);exact ⟨rfl,B,U.hi,a3,(if_pos ⟨x,hq⟩).symm,n,j,g,d,o,k,h,(by first|((repeat (first|exact q9.refl|refine q9.nJ (by rfl) ?_));done)|((repeat (first|exact q9.nil|refine q9.cons rfl ?_));done))⟩
   have hq : ¬(¬S.some\/key S.hi<key U.hi):=by simpa using a9
   refine zkk ?_;exact ⟨rfl,B,S.hi,a3,(if_neg (λq=>hq q.2)).symm,n,j,g,d,o,k,h,(by first|((repeat (first|exact q9.refl|refine q9.nJ (by rfl) ?_));done)|((repeat (first|exact q9.nil|refine q9.cons rfl ?_));done))⟩
  have x : ¬U.some:=by simpa using b1
  refine zkk ?_;exact ⟨rfl,S.lo,S.hi,(if_neg (λq=>x q.1)).symm,(if_neg (λq=>x q.1)).symm,n,j,g,d,o,k,h,(by first|((repeat (first|exact q9.refl|refine q9.nJ (by rfl) ?_));done)|((repeat (first|exact q9.nil|refine q9.cons rfl ?_));done))⟩
 rintro _ s' wJ ⟨rfl,B,a8,a3,g1,n,j,g,d,o,k,h,Z⟩;refine CW.sub Z ?_;refine Sr λ_ c9=>zm rfl (zP rfl (zf rfl ?_));refine WL.ev (Ev.fQ (cs:=[.int .i64 (U.s.na:Int),.int .i64 (U.s.up:Int),.int .i64 (U.s.dn:Int),.int .i64 (U.s.mi:Int),.int .i64 (U.s.pl:Int),.int .i64 (U.s.al:Int)]) rfl rfl d rfl rfl) rfl ?_;refine WL.iQ (l:=[.int .i64 0,.int .i64 0,.int .i64 0,.int .i64 0,.int .i64 0,.int .i64 0]) rfl rfl λb5 i2 M G e1=>?_;have e0:=Nat.le_trans h.size e1;have h:=h.ta G;have j:=j.q5 G;have g:=g.q5 G;have o:=o.q5 G;have k:=k.q5 G;have g0:b≠b5:=by have:=n.lt;omega
 have n:=n.q5 G;have f9:c≠b5:=by have:=d.lt;omega
 have d:=d.q5 G;refine zss rfl rfl ao M rfl λh9 a6 F=>?_;(try simp only[qt] at a6);have h:=h.s1 F;have n:=n.kq F;have d:=d.kq F;have j:=j.q8 M F an;have g:=g.q8 M F an;have o:=o.q8 M F an;have k:=k.q8 M F an;have M:=a6;refine zz (c9 (zc λ_ c8=>?_));refine CW.gX 52 53 rfl cJ λg4 c2 a f=>?_;have h:=h.ta f;have n:=n.q5 f;have d:=d.q5 f;have M:=M.k0 f;have j:=j.q5 f;have g:=g.q5 f;have o:=o.q5 f;have k:=k.q5 f;have r:=n;have t:=d;have A:=M;refine wk 0 rfl a (eM rfl) (wk 1 rfl a (eM rfl) (wk 2 rfl a (eP rfl) (wk 3 rfl a (eF rfl) (wk 4 rfl a (eF rfl) (wk 5 rfl a (λ_ i=>Ev.load rfl rfl ((r.q5 i).at_ rfl)) (wk 6 rfl a (eF rfl) (wk 7 rfl a (λ_ i=>Ev.load rfl rfl ((A.q5 i).at_ rfl)) (wk 8 rfl a (λ_ _=>Ev.jZ rfl rfl oO) (wk 9 rfl a (eM rfl) (wk 10 rfl a (eP rfl) (wk 11 rfl a (eF rfl) (wk 12 rfl a (eF rfl) (wk 13 rfl a (λ_ i=>Ev.load rfl rfl ((r.q5 i).at_ rfl)) (wk 14 rfl a (eF rfl) (wk 15 rfl a (λ_ i=>Ev.load rfl rfl ((A.q5 i).at_ rfl)) (wk 16 rfl a (λ_ _=>Ev.jZ rfl rfl oO) (wk 17 rfl a (eM rfl) (wk 18 rfl a (eP rfl) (wk 19 rfl a (eF rfl) (wk 20 rfl a (eF rfl) (wk 21 rfl a (λ_ i=>Ev.load rfl rfl ((r.q5 i).at_ rfl)) (wk 22 rfl a (eF rfl) (wk 23 rfl a (λ_ i=>Ev.load rfl rfl ((A.q5 i).at_ rfl)) ?_)))))))))))))))))))))));refine wk 24 rfl a (λ_ _=>Ev.jZ rfl rfl oO) (wk 25 rfl a (eM rfl) (wk 26 rfl a (eP rfl) (wk 27 rfl a (eF rfl) (wk 28 rfl a (eF rfl) (wk 29 rfl a (λ_ i=>Ev.load rfl rfl ((r.q5 i).at_ rfl)) (wk 30 rfl a (eF rfl) (wk 31 rfl a (λ_ i=>Ev.load rfl rfl ((A.q5 i).at_ rfl)) (wk 32 rfl a (λ_ _=>Ev.jZ rfl rfl oO) (wk 33 rfl a (eM rfl) (wk 34 rfl a (eP rfl) (wk 35 rfl a (eF rfl) (wk 36 rfl a (eF rfl) (wk 37 rfl a (λ_ i=>Ev.load rfl rfl ((r.q5 i).at_ rfl)) (wk 38 rfl a (eF rfl) (wk 39 rfl a (λ_ i=>Ev.load rfl rfl ((A.q5 i).at_ rfl)) (wk 40 rfl a (λ_ _=>Ev.jZ rfl rfl oO) (wk 41 rfl a (eM rfl) (wk 42 rfl a (eP rfl) (wk 43 rfl a (eF rfl) (wk 44 rfl a (eF rfl) (wk 45 rfl a (λ_ i=>Ev.load rfl rfl ((r.q5 i).at_ rfl)) (wk 46 rfl a (eF rfl) (wk 47 rfl a (λ_ i=>Ev.load rfl rfl ((A.q5 i).at_ rfl)) ?_)))))))))))))))))))))))
 refine wk 48 rfl a (λ_ _=>Ev.jZ rfl rfl oO) ?_;refine WK.take 49 rfl oR oR oR oR oR oR a (λw' i=>Ev.build (vs:=_) (cs:=[.int .i64 ((S.s.na:Int)+(U.s.na:Int)),.int .i64 ((S.s.up:Int)+(U.s.up:Int)),.int .i64 ((S.s.dn:Int)+(U.s.dn:Int)),.int .i64 ((S.s.mi:Int)+(U.s.mi:Int)),.int .i64 ((S.s.pl:Int)+(U.s.pl:Int)),.int .i64 ((S.s.al:Int)+(U.s.al:Int))]) rfl oR) rfl ?_;refine wt 50 rfl (λ_=>a) (λ_=>Ev.nilPtr rfl) (wk 51 rfl a (eF rfl) ?_);refine WK.nQ 52 rfl oR oR rfl rfl rfl ao n oS rfl λh8 y H=>?_;(try simp only[qt] at y);have h:=h.s1 H;have d:=d.kq H;have j:=j.q8 n H an;have g:=g.q8 n H an;have o:=o.q8 n H an;have k:=k.q8 n H an;have n:=y;refine WK.done oR (c2 _ _ _ ?_);refine c8 (zc λ_ c7=>?_);refine CW.gX 15 16 rfl cJ λg3 c1 a f=>?_;have h:=h.ta f;have n:=n.q5 f;have d:=d.q5 f;have j:=j.q5 f;have g:=g.q5 f;have o:=o.q5 f;have k:=k.q5 f;have r:=n;have t:=d;refine wk 0 rfl a (eM rfl) (wk 1 rfl a (eM rfl) (wk 2 rfl a (eP rfl) (wk 3 rfl a (eF rfl) (wk 4 rfl a (λ_ i=>Ev.fQ rfl rfl (r.q5 i) rfl rfl) ?_))))
 try simp only[oL]
 refine wk 5 rfl a (eM rfl) (wk 6 rfl a (eP rfl) (wk 7 rfl a (eF rfl) (wk 8 rfl a (λ_ i=>Ev.fQ rfl rfl (t.q5 i) rfl rfl) ?_)))
 try simp only[oL]
 refine WK.k6 9 rfl oR hasF100 rfl rfl (a9x _ _ _ _ _ _ _ _ _ j o (aJ a0) (aJ T) (by have:=a0.len;omega) (by have:=T.len;omega)) λv w6 Y=>?_;obtain ⟨hD,C⟩:=Y;rw[jX a0 T] at hD;obtain ⟨e5,i6,rfl,O⟩:=hD.cells;have h:=h.ta C;have n:=n.q5 C;have d:=d.q5 C;have g:=g.q5 C;have k:=k.q5 C;have a:=a.trans C;refine ⟨a,?_⟩;refine wk 10 rfl a (eM rfl) (wk 11 rfl a (eX rfl rfl) (wt 12 rfl (λ_=>a) (λ_=>Ev.extract rfl rfl) (wt 13 rfl (λ_=>a) (λ_=>Ev.nilPtr rfl) (wk 14 rfl a (eF rfl) ?_))));refine WK.nQ 15 rfl oR oR rfl rfl rfl ao n oS rfl λh7 y R=>?_;(try simp only[qt] at y);have h:=h.s1 R;have d:=d.kq R;have g:=g.q8 n R an;have k:=k.q8 n R an;have O:=O.q8 n R an;have n:=y;refine WK.done oR (c1 _ _ _ ?_);refine c7 (zc λ_ c6=>?_);refine CW.gX 15 16 rfl cJ λg2 c0 a f=>?_;have h:=h.ta f;have n:=n.q5 f;have d:=d.q5 f;have g:=g.q5 f;have k:=k.q5 f;have O:=O.q5 f;have r:=n;have t:=d;refine wk 0 rfl a (eM rfl) (wk 1 rfl a (eM rfl) (wk 2 rfl a (eP rfl) (wk 3 rfl a (eF rfl) (wk 4 rfl a (λ_ i=>Ev.fQ rfl rfl (r.q5 i) rfl rfl) ?_))))
 try simp only[oL]
 refine wk 5 rfl a (eM rfl) (wk 6 rfl a (eP rfl) (wk 7 rfl a (eF rfl) (wk 8 rfl a (λ_ i=>Ev.fQ rfl rfl (t.q5 i) rfl rfl) ?_)))
 try simp only[oL]
 refine WK.k6 9 rfl oR hasF100 rfl rfl (a9x _ _ _ _ _ _ _ _ _ g k (aJ a1) (aJ X) (by have:=a1.len;omega) (by have:=X.len;omega)) λv w7 Y=>?_;obtain ⟨hD,C⟩:=Y;rw[jX a1 X] at hD;obtain ⟨e4,i5,rfl,b3⟩:=hD.cells;have h:=h.ta C;have n:=n.q5 C;have O:=O.q5 C;have a:=a.trans C;refine ⟨a,?_⟩;refine wk 10 rfl a (eM rfl) (wk 11 rfl a (eX rfl rfl) (wt 12 rfl (λ_=>a) (λ_=>Ev.extract rfl rfl) (wt 13 rfl (λ_=>a) (λ_=>Ev.nilPtr rfl) (wk 14 rfl a (eF rfl) ?_))));refine WK.nQ 15 rfl oR oR rfl rfl rfl ao n oS rfl λh6 y a2=>?_;(try simp only[qt] at y);have h:=h.s1 a2;have O:=O.q8 n a2 an;have b3:=b3.q8 n a2 an;have n:=y;refine WK.done oR (c0 _ _ _ ?_);refine c6 (Sr λ_ c5=>za rfl (zz (c5 ?_)));refine zr (zr1 rfl rfl ?_);refine .inr ⟨d1,rfl,⟨e5,e4,?_,O,b3⟩,h⟩;unfold Sh.merge SP.add;dsimp only;rw[<- a3,<- g1];exact n
theorem a9j(b:Nat)(S:Sh)(w:World)(a:ShM 148 w b S)(c7:S.wf)(c9:S.num):Ret Tryz.prog 32 [.pointer (some ⟨b,0,none⟩),.pointer (some ⟨b,0,none⟩)] w λu w'=>(1099511627776<S.s.al+S.s.al/\u = .int .i64 2/\ShM 148 w' b S/\Chg [b] w w')\/(S.s.al+S.s.al<=1099511627776/\u = .int .i64 0/\ShM 148 w' b (S.merge S)/\Chg [b] w w'):=by
 obtain ⟨Y,Z,h,g,c⟩:=a;have g4:=h;have f2:=c7;obtain ⟨⟨a5,a4,a3,a2,a1,a0⟩,t,x,f3,f4⟩:=c7;have d:Chg [b] w w:=Chg.refl _ _;refine zE2 Tryz.func32 rfl ?_;refine Sr λ_ e1=>za rfl (zz (e1 (zc λ_ e0=>zc λ_ d9=>?_)));refine CW.jQ cJ oR λg3 d6 i=>?_;have d:=d.ta i;have h:=h.q5 i;have g:=g.q5 i;have c:=c.q5 i;refine ym rfl (yP rfl (yf rfl (yf rfl ?_)));refine WS.ev (Ev.load rfl rfl (h.at_ rfl)) rfl ?_;refine ym rfl (yP rfl (yf rfl (yf rfl ?_)));refine WS.ev (Ev.load rfl rfl (h.at_ rfl)) rfl ?_;refine WS.ev (Ev.jZ rfl rfl oO) rfl ?_;refine WS.ev (Ev.gtr rfl rfl) rfl ?_;refine WS.nil (d6 _ _ ?_);refine d9 ?_;refine zy rfl ?_ ?_<;>intro b1<;>try simp only[qs] at b1
 ·have d2:1099511627776<S.s.al+S.s.al:=by have:=b1;omega
  refine Sr λ_ d8=>za rfl (zz (d8 ?_));refine zr (zr1 rfl rfl ?_);exact .inl ⟨d2,rfl,⟨_,_,h,g,c⟩,d⟩
 have c8:S.s.al+S.s.al<=1099511627776:=by have:=b1;omega
 refine zkk (e0 ?_);refine CW.anx (λD s' w'=>D=[]/\∃ r a7:Nat,r=(if S.some/\(¬S.some\/key S.lo<key S.lo) then S.lo else S.lo)/\a7=(if S.some/\(¬S.some\/key S.hi<key S.hi) then S.hi else S.hi)/\BK w' b 148 [.int .i64 (S.s.na:Int),.int .i64 (S.s.up:Int),.int .i64 (S.s.dn:Int),.int .i64 (S.s.mi:Int),.int .i64 (S.s.pl:Int),.int .i64 (S.s.al:Int),.bool S.V.neg,Y,.int .i64 S.V.e,.bool S.Q.neg,Z,.int .i64 S.Q.e,.float .f64 r,.float .f64 a7]/\NU w' Y (wd S.V.m)/\NU w' Z (wd S.Q.m)/\Chg [b] w w'/\q9 [(0,.pointer (some ⟨b,0,none⟩)),(1,.pointer (some ⟨b,0,none⟩))] s') ?_ ?_
 ·refine Sr λ_ d7=>zm rfl ?_;refine WL.call hasF89 rfl rfl (wX b S _ ⟨Y,Z,h,g,c⟩ ⟨a5,a4,a3,a2,a1,a0⟩) λv w1 M=>?_;obtain ⟨rfl,y⟩:=M;have d:=d.ta y;have h:=h.q5 y;have g:=g.q5 y;have c:=c.q5 y;refine zz (d7 ?_);refine zy rfl ?_ ?_<;>intro b0<;>try simp only[qs] at b0
  ·have n:S.some:=by simpa using b0
   have J:=n;rw[decide_eq_true n];refine CW.anx (λD s' w'=>D=[]/\∃ r:Nat,r=(if S.some/\(¬S.some\/key S.lo<key S.lo) then S.lo else S.lo)/\BK w' b 148 [.int .i64 (S.s.na:Int),.int .i64 (S.s.up:Int),.int .i64 (S.s.dn:Int),.int .i64 (S.s.mi:Int),.int .i64 (S.s.pl:Int),.int .i64 (S.s.al:Int),.bool S.V.neg,Y,.int .i64 S.V.e,.bool S.Q.neg,Z,.int .i64 S.Q.e,.float .f64 r,.float .f64 S.hi]/\NU w' Y (wd S.V.m)/\NU w' Z (wd S.Q.m)/\Chg [b] w w'/\q9 [(0,.pointer (some ⟨b,0,none⟩)),(1,.pointer (some ⟨b,0,none⟩))] s') ?_ ?_
   ·refine CW.axj 34 (decide (¬S.some\/key S.lo<key S.lo)) ?_ ?_
    ·intro k;refine CW.bZ 15 rfl cJ λf1 c1 a i=>?_;have k:=k.ta i;have h:=h.q5 i;have g:=g.q5 i;have c:=c.q5 i;have j:=h;refine wh 0 rfl a (eM rfl) ?_;refine WH.k6 1 rfl oR hasF89 rfl rfl (wX b S _ ⟨Y,Z,h,g,c⟩ ⟨a5,a4,a3,a2,a1,a0⟩) λv w2 M=>?_;obtain ⟨rfl,y⟩:=M;rw[show decide (Sh.some S)=true from decide_eq_true n];have k:=k.ta y;have a:=a.trans y;refine ⟨a,?_⟩;refine wh 2 rfl a (λ_ _=>Ev.not rfl) (wh 3 rfl a (eM rfl) (wg 4 rfl rfl rfl rfl rfl a (eM rfl) (wg 5 rfl rfl rfl rfl rfl a (eP rfl) (wg 6 rfl rfl rfl rfl rfl a (eF rfl) (wg 7 rfl rfl rfl rfl rfl a (λ_ f=>Ev.load rfl rfl ((j.q5 f).at_ rfl)) (wg 8 rfl rfl rfl rfl rfl a (eM rfl) (wg 9 rfl rfl rfl rfl rfl a (eP rfl) (wg 10 rfl rfl rfl rfl rfl a (eF rfl) (wg 11 rfl rfl rfl rfl rfl a (λ_ f=>Ev.load rfl rfl ((j.q5 f).at_ rfl)) ?_)))))))));refine WH.rX 12 rfl oR rfl rfl rfl rfl hasF99 rfl rfl (kZ S.lo S.lo oO oO _) λv w3 M=>?_;obtain ⟨rfl,rfl⟩:=M;rw[asx (c9 J).1];refine ⟨a,?_⟩;refine wg 13 rfl rfl rfl rfl rfl a (λ_ _=>Ev.lss rfl rfl) (wh 14 rfl a (λ_ _=>Ev.anq rfl rfl rfl) ?_);refine WH.done oR (c1 _ _ _ ?_);refine ⟨rfl,k,q9.g7 rfl ?_ ?_⟩
     ·first|exact (decide_eq_true (.inl J)).symm|exact decide_eq_decide.2 (by rw[boj];exact ⟨.inr,λq=>q.resolve_left (λz=>z J)⟩)
     exact SMg
    intro wM k;have d:=d.ta k;have h:=h.q5 k;have g:=g.q5 k;have c:=c.q5 k;refine zy rfl ?_ ?_<;>intro a9<;>try simp only[qs] at a9
    ·have hq : ¬S.some\/key S.lo<key S.lo:=by simpa using a9
     refine zS λ_ c0=>zm rfl (zm rfl (zP rfl (zf rfl (zl h rfl rfl (zP rfl (zf rfl ?_))))));refine WL.bJ rfl rfl o1 h oS rfl λf7 o T=>?_;(try simp only[qt] at o);have d:=d.s1 T;have g:=g.q8 h T an;have c:=c.q8 h T an;have h:=o;refine zz (c0 ?_);exact ⟨rfl,S.lo,(if_pos ⟨n,hq⟩).symm,h,g,c,d,(by first|((repeat (first|exact q9.refl|refine q9.nJ (by rfl) ?_));done)|((repeat (first|exact q9.nil|refine q9.cons rfl ?_));done))⟩
    have hq : ¬(¬S.some\/key S.lo<key S.lo):=by simpa using a9
    refine zkk ?_;exact ⟨rfl,S.lo,(if_neg (λq=>hq q.2)).symm,h,g,c,d,(by first|((repeat (first|exact q9.refl|refine q9.nJ (by rfl) ?_));done)|((repeat (first|exact q9.nil|refine q9.cons rfl ?_));done))⟩
   rintro _ s' wJ ⟨rfl,r,U,h,g,c,d,O⟩;refine CW.sub O ?_;refine CW.axj 56 (decide (¬S.some\/key S.hi<key S.hi)) ?_ ?_
   ·intro k;refine CW.bZ 15 rfl cJ λf0 b9 a i=>?_;have k:=k.ta i;have h:=h.q5 i;have g:=g.q5 i;have c:=c.q5 i;have j:=h;refine wh 0 rfl a (eM rfl) ?_;refine WH.k6 1 rfl oR hasF89 rfl rfl (wX b ⟨S.s,S.V,S.Q,r,S.hi⟩ _ ⟨Y,Z,h,g,c⟩ ⟨a5,a4,a3,a2,a1,a0⟩) λv w4 M=>?_;obtain ⟨rfl,y⟩:=M;rw[show decide (Sh.some ⟨S.s,S.V,S.Q,r,S.hi⟩)=true from decide_eq_true n];have k:=k.ta y;have a:=a.trans y;refine ⟨a,?_⟩;refine wh 2 rfl a (λ_ _=>Ev.not rfl) (wh 3 rfl a (eM rfl) (wg 4 rfl rfl rfl rfl rfl a (eM rfl) (wg 5 rfl rfl rfl rfl rfl a (eP rfl) (wg 6 rfl rfl rfl rfl rfl a (eF rfl) (wg 7 rfl rfl rfl rfl rfl a (λ_ f=>Ev.load rfl rfl ((j.q5 f).at_ rfl)) (wg 8 rfl rfl rfl rfl rfl a (eM rfl) (wg 9 rfl rfl rfl rfl rfl a (eP rfl) (wg 10 rfl rfl rfl rfl rfl a (eF rfl) (wg 11 rfl rfl rfl rfl rfl a (λ_ f=>Ev.load rfl rfl ((j.q5 f).at_ rfl)) ?_)))))))));refine WH.rX 12 rfl oR rfl rfl rfl rfl hasF99 rfl rfl (kZ S.hi S.hi oO oO _) λv w5 M=>?_;obtain ⟨rfl,rfl⟩:=M;rw[asx (c9 J).2];refine ⟨a,?_⟩;refine wg 13 rfl rfl rfl rfl rfl a (λ_ _=>Ev.gtr rfl rfl) (wh 14 rfl a (λ_ _=>Ev.anq rfl rfl rfl) ?_);refine WH.done oR (b9 _ _ _ ?_);refine ⟨rfl,k,q9.g7 rfl ?_ ?_⟩
    ·first|exact (decide_eq_true (.inl J)).symm|exact decide_eq_decide.2 (by rw[afx];exact ⟨.inr,λq=>q.resolve_left (λz=>z J)⟩)
    exact SMg
   intro wM k;have d:=d.ta k;have h:=h.q5 k;have g:=g.q5 k;have c:=c.q5 k;refine zy rfl ?_ ?_<;>intro a8<;>try simp only[qs] at a8
   ·have hq : ¬S.some\/key S.hi<key S.hi:=by simpa using a8
    refine zS λ_ b8=>zm rfl (zm rfl (zP rfl (zf rfl (zl h rfl rfl (zP rfl (zf rfl ?_))))));refine WL.bJ rfl rfl o1 h oS rfl λf6 o R=>?_;(try simp only[qt] at o);have d:=d.s1 R;have g:=g.q8 h R an;have c:=c.q8 h R an;have h:=o;refine zz (b8 ?_);exact ⟨rfl,r,S.hi,U,(if_pos ⟨n,hq⟩).symm,h,g,c,d,(by first|((repeat (first|exact q9.refl|refine q9.nJ (by rfl) ?_));done)|((repeat (first|exact q9.nil|refine q9.cons rfl ?_));done))⟩
   have hq : ¬(¬S.some\/key S.hi<key S.hi):=by simpa using a8
   refine zkk ?_;exact ⟨rfl,r,S.hi,U,(if_neg (λq=>hq q.2)).symm,h,g,c,d,(by first|((repeat (first|exact q9.refl|refine q9.nJ (by rfl) ?_));done)|((repeat (first|exact q9.nil|refine q9.cons rfl ?_));done))⟩
  have n : ¬S.some:=by simpa using b0
  refine zkk ?_;exact ⟨rfl,S.lo,S.hi,(if_neg (λq=>n q.1)).symm,(if_neg (λq=>n q.1)).symm,h,g,c,d,(by first|((repeat (first|exact q9.refl|refine q9.nJ (by rfl) ?_));done)|((repeat (first|exact q9.nil|refine q9.cons rfl ?_));done))⟩
 rintro _ s' wJ ⟨rfl,r,a7,U,e3,h,g,c,d,O⟩;refine CW.sub O ?_;refine Sr λ_ c6=>zm rfl (zP rfl (zf rfl ?_));refine WL.ev (Ev.fQ (cs:=[.int .i64 (S.s.na:Int),.int .i64 (S.s.up:Int),.int .i64 (S.s.dn:Int),.int .i64 (S.s.mi:Int),.int .i64 (S.s.pl:Int),.int .i64 (S.s.al:Int)]) rfl rfl h rfl rfl) rfl ?_;refine WL.iQ (l:=[.int .i64 0,.int .i64 0,.int .i64 0,.int .i64 0,.int .i64 0,.int .i64 0]) rfl rfl λb5 f8 G I d1=>?_;have d0:=Nat.le_trans d.size d1;have d:=d.ta I;have g:=g.q5 I;have c:=c.q5 I;have e2:b≠b5:=by have:=h.lt;omega
 have h:=h.q5 I;refine zss rfl rfl ao G rfl λf5 X H=>?_;(try simp only[qt] at X);have d:=d.s1 H;have h:=h.kq H;have g:=g.q8 G H an;have c:=c.q8 G H an;have G:=X;refine zz (c6 (zc λ_ c5=>?_));refine CW.gX 52 53 rfl cJ λe9 b7 a i=>?_;have d:=d.ta i;have h:=h.q5 i;have G:=G.k0 i;have g:=g.q5 i;have c:=c.q5 i;have j:=h;have p:=G;refine wk 0 rfl a (eM rfl) (wk 1 rfl a (eM rfl) (wk 2 rfl a (eP rfl) (wk 3 rfl a (eF rfl) (wk 4 rfl a (eF rfl) (wk 5 rfl a (λ_ f=>Ev.load rfl rfl ((j.q5 f).at_ rfl)) (wk 6 rfl a (eF rfl) (wk 7 rfl a (λ_ f=>Ev.load rfl rfl ((p.q5 f).at_ rfl)) (wk 8 rfl a (λ_ _=>Ev.jZ rfl rfl oO) (wk 9 rfl a (eM rfl) (wk 10 rfl a (eP rfl) (wk 11 rfl a (eF rfl) (wk 12 rfl a (eF rfl) (wk 13 rfl a (λ_ f=>Ev.load rfl rfl ((j.q5 f).at_ rfl)) (wk 14 rfl a (eF rfl) (wk 15 rfl a (λ_ f=>Ev.load rfl rfl ((p.q5 f).at_ rfl)) (wk 16 rfl a (λ_ _=>Ev.jZ rfl rfl oO) (wk 17 rfl a (eM rfl) (wk 18 rfl a (eP rfl) (wk 19 rfl a (eF rfl) (wk 20 rfl a (eF rfl) (wk 21 rfl a (λ_ f=>Ev.load rfl rfl ((j.q5 f).at_ rfl)) (wk 22 rfl a (eF rfl) (wk 23 rfl a (λ_ f=>Ev.load rfl rfl ((p.q5 f).at_ rfl)) ?_)))))))))))))))))))))));refine wk 24 rfl a (λ_ _=>Ev.jZ rfl rfl oO) (wk 25 rfl a (eM rfl) (wk 26 rfl a (eP rfl) (wk 27 rfl a (eF rfl) (wk 28 rfl a (eF rfl) (wk 29 rfl a (λ_ f=>Ev.load rfl rfl ((j.q5 f).at_ rfl)) (wk 30 rfl a (eF rfl) (wk 31 rfl a (λ_ f=>Ev.load rfl rfl ((p.q5 f).at_ rfl)) (wk 32 rfl a (λ_ _=>Ev.jZ rfl rfl oO) (wk 33 rfl a (eM rfl) (wk 34 rfl a (eP rfl) (wk 35 rfl a (eF rfl) (wk 36 rfl a (eF rfl) (wk 37 rfl a (λ_ f=>Ev.load rfl rfl ((j.q5 f).at_ rfl)) (wk 38 rfl a (eF rfl) (wk 39 rfl a (λ_ f=>Ev.load rfl rfl ((p.q5 f).at_ rfl)) (wk 40 rfl a (λ_ _=>Ev.jZ rfl rfl oO) (wk 41 rfl a (eM rfl) (wk 42 rfl a (eP rfl) (wk 43 rfl a (eF rfl) (wk 44 rfl a (eF rfl) (wk 45 rfl a (λ_ f=>Ev.load rfl rfl ((j.q5 f).at_ rfl)) (wk 46 rfl a (eF rfl) (wk 47 rfl a (λ_ f=>Ev.load rfl rfl ((p.q5 f).at_ rfl)) ?_)))))))))))))))))))))))
 refine wk 48 rfl a (λ_ _=>Ev.jZ rfl rfl oO) ?_;refine WK.take 49 rfl oR oR oR oR oR oR a (λw' f=>Ev.build (vs:=_) (cs:=[.int .i64 ((S.s.na:Int)+(S.s.na:Int)),.int .i64 ((S.s.up:Int)+(S.s.up:Int)),.int .i64 ((S.s.dn:Int)+(S.s.dn:Int)),.int .i64 ((S.s.mi:Int)+(S.s.mi:Int)),.int .i64 ((S.s.pl:Int)+(S.s.pl:Int)),.int .i64 ((S.s.al:Int)+(S.s.al:Int))]) rfl oR) rfl ?_;refine wt 50 rfl (λ_=>a) (λ_=>Ev.nilPtr rfl) (wk 51 rfl a (eF rfl) ?_);refine WK.nQ 52 rfl oR oR rfl rfl rfl ao h oS rfl λe6 o F=>?_;(try simp only[qt] at o);have d:=d.s1 F;have g:=g.q8 h F an;have c:=c.q8 h F an;have h:=o;refine WK.done oR (b7 _ _ _ ?_);refine c5 (zc λ_ c4=>?_);refine CW.gX 15 16 rfl cJ λe8 b6 a i=>?_;have d:=d.ta i;have h:=h.q5 i;have g:=g.q5 i;have c:=c.q5 i;have j:=h;refine wk 0 rfl a (eM rfl) (wk 1 rfl a (eM rfl) (wk 2 rfl a (eP rfl) (wk 3 rfl a (eF rfl) (wk 4 rfl a (λ_ f=>Ev.fQ rfl rfl (j.q5 f) rfl rfl) ?_))))
 try simp only[oL]
 refine wk 5 rfl a (eM rfl) (wk 6 rfl a (eP rfl) (wk 7 rfl a (eF rfl) (wk 8 rfl a (λ_ f=>Ev.fQ rfl rfl (j.q5 f) rfl rfl) ?_)))
 try simp only[oL]
 refine WK.k6 9 rfl oR hasF100 rfl rfl (a9x _ _ _ _ _ _ _ _ _ g g (aJ t) (aJ t) (by have:=t.len;omega) (by have:=t.len;omega)) λv w6 M=>?_;obtain ⟨hD,y⟩:=M;rw[jX t t] at hD;obtain ⟨d5,g2,rfl,A⟩:=hD.cells;have d:=d.ta y;have h:=h.q5 y;have c:=c.q5 y;have a:=a.trans y;refine ⟨a,?_⟩;refine wk 10 rfl a (eM rfl) (wk 11 rfl a (eX rfl rfl) (wt 12 rfl (λ_=>a) (λ_=>Ev.extract rfl rfl) (wt 13 rfl (λ_=>a) (λ_=>Ev.nilPtr rfl) (wk 14 rfl a (eF rfl) ?_))));refine WK.nQ 15 rfl oR oR rfl rfl rfl ao h oS rfl λe5 o C=>?_;(try simp only[qt] at o);have d:=d.s1 C;have c:=c.q8 h C an;have A:=A.q8 h C an;have h:=o;refine WK.done oR (b6 _ _ _ ?_);refine c4 (zc λ_ c3=>?_);refine CW.gX 15 16 rfl cJ λe7 b4 a i=>?_;have d:=d.ta i;have h:=h.q5 i;have c:=c.q5 i;have A:=A.q5 i;have j:=h;refine wk 0 rfl a (eM rfl) (wk 1 rfl a (eM rfl) (wk 2 rfl a (eP rfl) (wk 3 rfl a (eF rfl) (wk 4 rfl a (λ_ f=>Ev.fQ rfl rfl (j.q5 f) rfl rfl) ?_))))
 try simp only[oL]
 refine wk 5 rfl a (eM rfl) (wk 6 rfl a (eP rfl) (wk 7 rfl a (eF rfl) (wk 8 rfl a (λ_ f=>Ev.fQ rfl rfl (j.q5 f) rfl rfl) ?_)))
 try simp only[oL]
 refine WK.k6 9 rfl oR hasF100 rfl rfl (a9x _ _ _ _ _ _ _ _ _ c c (aJ x) (aJ x) (by have:=x.len;omega) (by have:=x.len;omega)) λv w7 M=>?_;obtain ⟨hD,y⟩:=M;rw[jX x x] at hD;obtain ⟨d4,g1,rfl,b2⟩:=hD.cells;have d:=d.ta y;have h:=h.q5 y;have A:=A.q5 y;have a:=a.trans y;refine ⟨a,?_⟩;refine wk 10 rfl a (eM rfl) (wk 11 rfl a (eX rfl rfl) (wt 12 rfl (λ_=>a) (λ_=>Ev.extract rfl rfl) (wt 13 rfl (λ_=>a) (λ_=>Ev.nilPtr rfl) (wk 14 rfl a (eF rfl) ?_))));refine WK.nQ 15 rfl oR oR rfl rfl rfl ao h oS rfl λe4 o B=>?_;(try simp only[qt] at o);have d:=d.s1 B;have A:=A.q8 h B an;have b2:=b2.q8 h B an;have h:=o;refine WK.done oR (b4 _ _ _ ?_);refine c3 (Sr λ_ c2=>za rfl (zz (c2 ?_)));refine zr (zr1 rfl rfl ?_);refine .inr ⟨c8,rfl,⟨d5,d4,?_,A,b2⟩,d⟩;unfold Sh.merge SP.add;dsimp only;rw[<- U,<- e3];exact h
set_option exponentiation.threshold 9000
end
section
open Go Sx Wd Fl
theorem r6Count_spec(s:SP)(x:Nat)(w:World)(hs:s.le 1000000000000000)(hx:x<18446744073709551616):Ret Tryz.prog 94 [.agg [.int .i64 (s.na:Int),.int .i64 (s.up:Int),.int .i64 (s.dn:Int),.int .i64 (s.mi:Int),.int .i64 (s.pl:Int),.int .i64 (s.al:Int)].toArray,.float .f64 x] w λu w'=>u = .agg (countP s (k7 x)).cells.toArray/\Chg [] w w':=by
 have d5:=hs;obtain ⟨d4,d3,d2,d1,d0,c9⟩:=hs;have a:=crf w;have d6:=b6q x;refine zE2 Tryz.func94 rfl ?_;refine Sr λ_ a3=>?_;refine zBh rfl rfl rfl a λb2 c7 c b6 b5 T a=>?_;refine WL.iQ (l:=[.int .i64 0,.int .i64 0,.int .i64 0,.int .i64 0,.int .i64 0,.int .i64 0]) rfl rfl λb4 c6 b p i=>?_;have R:=Nat.le_trans a.size i;have a:=a.ta p;have Z:=zdd c.lt i;have c:=c.k0 p;refine zz (a3 (Sr λ_ a2=>zf rfl (zl c rfl rfl ?_)));(first|refine zi rfl rfl ?_|refine zo rfl rfl ?_);refine zf rfl ?_;refine WL.bJ rfl rfl o1 c oS rfl λc5 e o=>?_;(try simp only[qt] at e);have a:=a.s1 o;have b:=b.kq o;have c:=e;refine zz (a2 (zc λ_ g=>Sr λ_ a1=>zm rfl ?_));refine WL.call hasF161 rfl rfl (byx x _ hx) λv w1 h'=>?_;obtain ⟨rfl,rfl⟩:=h';refine zz (a1 (CW.block (Sr λ_ a0=>zq rfl rfl (za rfl (zz (a0 ?_))))));refine zy rfl ?_ ?_<;>intro a8<;>try simp only[qs] at a8
 ·refine zR λ_ B=>?_
  refine zf rfl (zl c rfl rfl ?_);(first|refine zi rfl rfl ?_|refine zo rfl rfl ?_);refine zf rfl ?_;refine WL.bJ rfl rfl o1 c oS rfl λc4 e n=>?_;(try simp only[qt] at e);have a:=a.s1 n;have b:=b.kq n;have c:=e;refine WL.nil (B _ _ _ (g ?_));refine Sr λ_ Q=>zg c rfl ?_;refine zss rfl rfl ao b rfl λc3 d Y=>?_;(try simp only[qt] at d);have a:=a.s1 Y;have b:=d;refine zz (Q ?_);refine zr (k8.qJ rfl (aX.cell rfl (b.fX rfl rfl)) ?_);refine ⟨?_,a⟩;have f:k7 x=5:=by omega
  rw[f];simp[SP.cells,countP]
 refine Sr λ_ O=>zq rfl rfl (za rfl (zz (O ?_)));refine zy rfl ?_ ?_<;>intro a7<;>try simp only[qs] at a7
 ·refine zR λ_ A=>?_
  refine zf rfl (zl c rfl rfl ?_);(first|refine zi rfl rfl ?_|refine zo rfl rfl ?_);refine zf rfl ?_;refine WL.bJ rfl rfl o1 c oS rfl λc2 e m=>?_;(try simp only[qt] at e);have a:=a.s1 m;have b:=b.kq m;have c:=e;refine WL.nil (A _ _ _ (g ?_));refine Sr λ_ M=>zg c rfl ?_;refine zss rfl rfl ao b rfl λc1 d X=>?_;(try simp only[qt] at d);have a:=a.s1 X;have b:=d;refine zz (M ?_);refine zr (k8.qJ rfl (aX.cell rfl (b.fX rfl rfl)) ?_);refine ⟨?_,a⟩;have f:k7 x=3:=by omega
  rw[f];simp[SP.cells,countP]
 refine Sr λ_ J=>zq rfl rfl (za rfl (zz (J ?_)));refine zy rfl ?_ ?_<;>intro a6<;>try simp only[qs] at a6
 ·refine zR λ_ z=>?_
  refine zf rfl (zl c rfl rfl ?_);(first|refine zi rfl rfl ?_|refine zo rfl rfl ?_);refine zf rfl ?_;refine WL.bJ rfl rfl o1 c oS rfl λc0 e k=>?_;(try simp only[qt] at e);have a:=a.s1 k;have b:=b.kq k;have c:=e;refine WL.nil (z _ _ _ (g ?_));refine Sr λ_ I=>zg c rfl ?_;refine zss rfl rfl ao b rfl λb9 d V=>?_;(try simp only[qt] at d);have a:=a.s1 V;have b:=d;refine zz (I ?_);refine zr (k8.qJ rfl (aX.cell rfl (b.fX rfl rfl)) ?_);refine ⟨?_,a⟩;have f:k7 x=4:=by omega
  rw[f];simp[SP.cells,countP]
 refine Sr λ_ H=>zq rfl rfl (za rfl (zz (H ?_)));refine zy rfl ?_ ?_<;>intro a5<;>try simp only[qs] at a5
 ·refine zR λ_ y=>?_
  refine zf rfl (zl c rfl rfl ?_);(first|refine zi rfl rfl ?_|refine zo rfl rfl ?_);refine zf rfl ?_;refine WL.bJ rfl rfl o1 c oS rfl λb8 e j=>?_;(try simp only[qt] at e);have a:=a.s1 j;have b:=b.kq j;have c:=e;refine WL.nil (y _ _ _ (g ?_));refine Sr λ_ G=>zg c rfl ?_;refine zss rfl rfl ao b rfl λb7 d U=>?_;(try simp only[qt] at d);have a:=a.s1 U;have b:=d;refine zz (G ?_);refine zr (k8.qJ rfl (aX.cell rfl (b.fX rfl rfl)) ?_);refine ⟨?_,a⟩;have f:k7 x=1:=by omega
  rw[f];simp[SP.cells,countP]
 refine Sr λ_ F=>zq rfl rfl (za rfl (zz (F ?_)));refine zy rfl ?_ ?_<;>intro a4<;>try simp only[qs] at a4
 ·refine zR λ_ t=>?_
  refine zf rfl (zl c rfl rfl ?_);(first|refine zi rfl rfl ?_|refine zo rfl rfl ?_);refine zf rfl ?_;refine WL.bJ rfl rfl o1 c oS rfl λb1 e h=>?_;(try simp only[qt] at e);have a:=a.s1 h;have b:=b.kq h;have c:=e;refine WL.nil (t _ _ _ (g ?_));refine Sr λ_ D=>zg c rfl ?_;refine zss rfl rfl ao b rfl λb0 d r=>?_;(try simp only[qt] at d);have a:=a.s1 r;have b:=d;refine zz (D ?_);refine zr (k8.qJ rfl (aX.cell rfl (b.fX rfl rfl)) ?_);refine ⟨?_,a⟩;have f:k7 x=2:=by omega
  rw[f];simp[SP.cells,countP]
 refine zkk (g (Sr λ_ C=>zg c rfl ?_));refine zss rfl rfl ao b rfl λa9 d q=>?_
 (try simp only[qt] at d);have a:=a.s1 q
 have b:=d;refine zz (C ?_);refine zr (k8.qJ rfl (aX.cell rfl (b.fX rfl rfl)) ?_);refine ⟨?_,a⟩;have f:k7 x=0:=by omega
 rw[f];simp[SP.cells,countP]
theorem dyx(p:Bool)(k:Value)(y:List Nat)(t:Int)(w:World)(s:NU w k y):Ret Tryz.prog 188 [.agg [.bool p,k,.int .i64 t].toArray] w λu w'=>u = .agg [.bool (!p),k,.int .i64 t].toArray/\Chg [] w w':=by
 have a:=crf w;have B:=s;obtain ⟨⟨av,D,rfl,n,z⟩,C,A⟩:=s;refine zE1 Tryz.func188 rfl ?_;refine Sr λ_ m=>?_;refine zBh rfl rfl rfl a λG x b r q g a=>?_;refine zAh rfl rfl a λF v e i h f a=>?_;have j:=zdd b.lt h;have b:=b.k0 i;refine zz (m (Sr λ_ l=>zf rfl (zl b rfl rfl (zT rfl (zf rfl (zl b rfl rfl (zf rfl (zl b rfl rfl ?_))))))));refine WL.ev (Ev.build (vs:=_) (cs:=[_,_,_]) rfl rfl) rfl ?_;refine zss rfl rfl ao e rfl λo c d=>?_;(try simp only[qt] at c);have a:=a.s1 d;have e:=c;refine zz (l ?_);refine zr (k8.qJ rfl (aX.cell rfl (e.fX rfl rfl)) ?_);exact ⟨rfl,a⟩
theorem r3Sub_spec(na nb:Bool)(va vb:Value)(R Q:List Nat)(O M:Int)(w:World)(j:NU w va R)(i:NU w vb Q)(Y : -9223372036854775808<=O/\O<=9223372036854775807)(X : -9223372036854775808<=M/\M<=9223372036854775807)(V:R.length<=34359738368)(U:Q.length<=34359738368):Ret Tryz.prog 111 [.agg [.bool na,va,.int .i64 O].toArray,.agg [.bool nb,vb,.int .i64 M].toArray] w λu w'=>DR w' u (bgj xX (cQ na (val R) O) (cQ (!nb) (val Q) M))/\Chg [] w w':=by
 have a:=crf w;have b7:=j.one;have b6:=i.one;refine zE2 Tryz.func111 rfl ?_;refine Sr λ_ T=>?_;refine zBh rfl rfl rfl a λb2 b1 c o a8 D a=>?_;have j:=j.q5 o;have i:=i.q5 o;refine zBh rfl rfl rfl a λb3 b0 h m F C a=>?_;have j:=j.q5 m;have i:=i.q5 m;have J:=zdd c.lt F;have c:=c.k0 m;refine zAh rfl rfl a λb4 a9 b f n B a=>?_;have j:=j.q5 f;have i:=i.q5 f;have I:=zdd c.lt n;have c:=c.k0 f;have H:=zdd h.lt n;have h:=h.k0 f;refine za rfl (zz (T (zc λ_ A=>?_)));refine CW.gX 6 8 rfl cJ λb5 z k g=>?_;have a:=a.ta g;have c:=c.k0 g;have h:=h.k0 g;have b:=b.k0 g;have j:=j.q5 g;have i:=i.q5 g;have t:=c;have s:=h;refine wk 0 rfl k (λ_ p=>Ev.oQ rfl rfl (t.q5 p) rfl) (wk 1 rfl k (λ_ p=>Ev.oQ rfl rfl (s.q5 p) rfl) ?_);refine WK.k6 2 rfl oR hasF188 rfl rfl (dyx _ _ _ _ _ i) λv w1 h'=>?_;obtain ⟨rfl,G⟩:=h';have a:=a.ta G;have b:=b.k0 G;have j:=j.q5 G;have i:=i.q5 G;have k:=k.trans G;refine ⟨k,?_⟩;refine WK.k6 3 rfl oR hasF100 rfl rfl (a9x _ _ _ _ _ _ _ _ _ j i Y X V U) λv w2 h'=>?_;obtain ⟨a0,y⟩:=h';have a:=a.ta y;have b:=b.k0 y;have k:=k.trans y;refine ⟨k,?_⟩;rcases a0 with ⟨r,d,Z,rfl,x⟩|⟨Z,rfl⟩
 ·refine wk 4 rfl k (eX rfl rfl) (wk 5 rfl k (eX rfl rfl) ?_);refine WK.nQ 6 rfl oR oR rfl rfl rfl ao b oS rfl λa3 e l=>?_;(try simp only[qt] at e);have a:=a.s1 l;have x:=x.q8 b l an;have b:=e;refine WK.after 7 rfl oR oR (Ev.assign rfl) rfl ?_;refine WK.done oR (z _ _ _ ?_);refine A ?_;refine zr (k8.gJ rfl (aX.cell rfl (b.fX rfl rfl)) (aX.tmp rfl) ?_);exact ⟨.inl ⟨r,d,Z,rfl,x⟩,a⟩
 refine wk 4 rfl k (eX rfl rfl) (wk 5 rfl k (eX rfl rfl) ?_);refine WK.nQ 6 rfl oR oR rfl rfl rfl ao b oS rfl λa2 e q=>?_;(try simp only[qt] at e);have a:=a.s1 q;have b:=e;refine WK.after 7 rfl oR oR (Ev.assign rfl) rfl ?_;refine WK.done oR (z _ _ _ ?_);refine A ?_;refine zr (k8.gJ rfl (aX.cell rfl (b.fX rfl rfl)) (aX.tmp rfl) ?_);exact ⟨.inr ⟨Z,rfl⟩,a⟩
theorem mulD_zz:(fJ Dy.zero Dy.zero).getD Dy.zero=Dy.zero:=by
  unfold fJ
  rw[show Dy.zero.m*Dy.zero.m=0 from rfl,eJ,if_neg oD,jJ]
  rfl
theorem floatD_not{x:Nat}(c:x<18446744073709551616)(h : ¬(j0 x).cls<=2):dqj x=none:=by
  have d:=uZ c
  have a : ¬k7 x<=2:=λq=>h (b0x.1 q)
  have b:9218868437227405312<=x%9223372036854775808:=Classical.byContradiction λq=>a (by
    rw[d,if_neg oO,if_neg oO,if_neg oO]
    split
    · omega
    · split
      · omega
      · omega)
  unfold dqj dtj
  rw[if_pos b]
theorem r21Add_spec(b:Nat)(S:Sh)(x:Nat)(w:World)(hS:ShM 148 w b S)(a0:S.wf)(O:x<18446744073709551616)(c3:S.num)(c4:(Sh.one x).num):Ret Tryz.prog 30 [.pointer (some ⟨b,0,none⟩),.float .f64 x] w λu w'=>(1099511627776<S.s.al+1/\u = .int .i64 2/\ShM 148 w' b S/\Chg [b] w w')\/(S.s.al+1<=1099511627776/\u = .int .i64 0/\ShM 148 w' b (S.merge (Sh.one x))/\Chg [b] w w'):=by
  have c:=crf w;have M:=hS;obtain ⟨rv,rq,t,f1,f2⟩:=hS;obtain ⟨e7,e6,e5,e4,e3,e2⟩:=a0.s;refine zE2 Tryz.func30 rfl ?_;refine Sr λ_ b9=>za rfl (zz (b9 (zc λ_ b8=>Sr λ_ b7=>zm rfl (zP rfl (zf rfl (zf rfl (zl t rfl rfl ?_)))))));refine WL.ev (Ev.geq rfl rfl) rfl ?_;refine zz (b7 ?_);refine zy rfl ?_ ?_<;>intro J<;>try simp only[qs] at J
  · have a8:1099511627776<S.s.al+1:=by have:=J;omega
    refine Sr λ_ b5=>za rfl (zz (b5 ?_));refine zr (zr1 rfl rfl ?_);exact .inl ⟨a8,rfl,M.q5 c,Chg.any c⟩
  have d8:S.s.al+1<=1099511627776:=by have:=J;omega
  refine zkk (b8 (Sr λ_ b4=>?_));refine WL.ev (Ev.build (vs:=_) (cs:=[_,_,_,_,_,_]) rfl rfl) rfl ?_;refine zm rfl ?_;refine WL.call hasF94 rfl rfl (r6Count_spec SP.zero x _ (by unfold SP.le;decide) O) λv w1 z=>?_;obtain ⟨rfl,p⟩:=z;obtain ⟨i,H⟩ : ∃ i,i=countP SP.zero (k7 x):=⟨_,rfl⟩;rw[<- H];unfold SP.cells;have c:=c.ta p;have t:=t.q5 p;refine zm rfl (zm rfl ?_);refine WL.ev (Ev.build (vs:=_) (cs:=[.int .i64 (i.na:Int),.int .i64 (i.up:Int),.int .i64 (i.dn:Int),.int .i64 (i.mi:Int),.int .i64 (i.pl:Int),.int .i64 (i.al:Int),.bool false,.slice none 0 0,.int .i64 0,.bool false,.slice none 0 0,.int .i64 0,.float .f64 x,.float .f64 x]) rfl oR) rfl ?_;refine zBh rfl rfl rfl c λA d6 a I c6 Q c=>?_;have b0:b≠A:=by have:=t.lt;omega
  have t:=t.q5 I;refine za rfl (zz (b4 (Sr λ_ Z=>zm rfl ?_)));refine WL.call hasF95 rfl rfl (r3Of_spec x _ O) λv w2 z=>?_;obtain ⟨hD,p⟩:=z;obtain ⟨F,hF⟩ : ∃ F,F=fdy x:=⟨_,rfl⟩;have h:F.ok:=by rw[hF];exact fdy_ok x
  obtain ⟨rd,kd,rfl,f,c5⟩ : ∃ (rd:Value) (kd:Int),v = .tuple [.agg [.bool F.neg,rd,.int .i64 F.e].toArray,.int .i64 kd].toArray/\NU w2 rd (wd F.m)/\(kd=0\/(kd=30/\F=Dy.zero)):=by
    rw[hF];unfold fdy;rcases hD with ⟨r,d,G,rfl,hN⟩|⟨G,rfl⟩
    · have hc:(j0 x).cls<=2:=Classical.byContradiction λq=>by rw[floatD_not O q] at G;cases G
      rw[dqq O hc] at G;cases G;rw[if_pos hc];exact ⟨r,0,rfl,hN,.inl rfl⟩
    have hc : ¬(j0 x).cls<=2:=λq=>by rw[dqq O q] at G;cases G
    rw[if_neg hc];exact ⟨_,30,rfl,by rw[show Dy.zero.m=0 from rfl,eJ];exact NU.nil,.inr ⟨rfl,rfl⟩⟩
  have e9:=f.one;have c:=c.ta p;have t:=t.q5 p;have a:=a.k0 p;refine zm rfl (zx rfl rfl (zx rfl rfl ?_));refine zAh rfl rfl c λb6 e0 j B a4 a3 c=>?_;have f:=f.q5 B;have c1:b≠b6:=by have:=t.lt;omega
  have a2:=zdd a.lt a4;have a:=a.k0 B;refine zss rfl rfl ao j rfl λd5 C n=>?_;(try simp only[qt] at C);have c:=c.s1 n;have a:=a.kq n;have f:=f.q8 j n an;have j:=C;refine za rfl (zz (Z ?_));refine CW.anx (λD s' w'=>D=[]/\(∃ R rt,BK w' A 148 [.int .i64 (i.na:Int),.int .i64 (i.up:Int),.int .i64 (i.dn:Int),.int .i64 (i.mi:Int),.int .i64 (i.pl:Int),.int .i64 (i.al:Int),.bool F.neg,R,.int .i64 F.e,.bool ((fJ F F).getD Dy.zero).neg,rt,.int .i64 ((fJ F F).getD Dy.zero).e,.float .f64 x,.float .f64 x]/\NU w' R (wd F.m)/\NU w' rt (wd ((fJ F F).getD Dy.zero).m))/\Chg [] w w'/\q9 [(0,.pointer (some ⟨b,0,none⟩)),(5,.pointer (some ⟨A,0,none⟩))] s') ?_ ?_
  · refine Sr λ_ Y=>zm rfl (zq rfl rfl (zz (Y ?_)));refine zy rfl ?_ ?_<;>intro a7<;>try simp only[qs] at a7
    · refine Sr λ_ X=>zm rfl (zg j rfl (zP rfl (zf rfl ?_)));refine zss rfl rfl ao a rfl λd4 g l=>?_
      (try simp only[qt] at g);have c:=c.s1 l
      have j:=j.kq l;have f:=f.q8 a l an;have a:=g;refine zz (X (zS λ_ U=>zm rfl (zg j rfl (zg j rfl ?_))));refine WL.call hasF96 rfl rfl (sX _ _ _ _ _ _ _ _ _ f f (aJ h) (aJ h) (by have:=h.len;omega) (by have:=h.len;omega)) λv w3 z=>?_;obtain ⟨hD,p⟩:=z;rw[jX h h] at hD;obtain ⟨R,ks,rfl,y⟩:=hD.cells;have e8:=y.one;have c:=c.ta p;have a:=a.k0 p;have f:=f.q5 p;refine zm rfl (zx rfl rfl (zx rfl rfl (zP rfl (zf rfl ?_))));refine zss rfl rfl ao a rfl λd3 g k=>?_;(try simp only[qt] at g);have c:=c.s1 k;have f:=f.q8 a k an;have y:=y.q8 a k an;have a:=g;refine zz (U ?_);exact ⟨rfl,⟨_,_,a,f,y⟩,c,(by first|((repeat (first|exact q9.refl|refine q9.nJ (by rfl) ?_));done)|((repeat (first|exact q9.nil|refine q9.cons rfl ?_));done))⟩
    obtain ⟨-,c9⟩:=c5.resolve_left a7;subst c9;refine zkk ?_;rw[show (fJ Dy.zero Dy.zero).getD Dy.zero=Dy.zero from mulD_zz];refine ⟨rfl,⟨_,_,a,?_,?_⟩,c,(by first|((repeat (first|exact q9.refl|refine q9.nJ (by rfl) ?_));done)|((repeat (first|exact q9.nil|refine q9.cons rfl ?_));done))⟩
    · rw[show Dy.zero.m=0 from rfl,eJ];exact NU.nil
    rw[show Dy.zero.m=0 from rfl,eJ];exact NU.nil
  rintro _ s' wJ ⟨rfl,⟨R,rt,a,c8,c7⟩,c,a1⟩;refine CW.sub a1 ?_;refine zc λ_ V=>?_;have o:Sh.one x=⟨i,F,(fJ F F).getD Dy.zero,x,x⟩:=by unfold Sh.one;rw[hF,H];rfl
  have c0:(Sh.mk i F ((fJ F F).getD Dy.zero) x x).wf:=o ▸ one_wf O;have a6:i.al=1:=by rw[H];rfl
  have c2:(Sh.mk i F ((fJ F F).getD Dy.zero) x x).num:=o ▸ c4;have f0:=M.lt;refine zR λ_ T=>?_;refine zm rfl (zm rfl ?_);refine WL.call hasF32 rfl rfl (dyj b A S ⟨i,F,(fJ F F).getD Dy.zero,x,x⟩ _ (M.q5 c) a0 ⟨R,rt,a,c8,c7⟩ c0 oO c3 c2) λv w4 z=>?_;dsimp only at z;rw[a6,<- o] at z;have a5:=z;refine za rfl ?_;refine WL.nil (T _ _ _ (V ?_));refine zr (zr1 rfl rfl ?_);rcases a5 with ⟨h1,rfl,h2,h3⟩|⟨h1,rfl,h2,h3⟩
  · exact .inl ⟨h1,rfl,h2,(Chg.any c).trans h3⟩
  exact .inr ⟨h1,rfl,h2,(Chg.any c).trans h3⟩
theorem a3q(b:Nat)(S:Sh)(mode c d:Int)(w:World)(f:ShM 148 w b S)(B:S.wf):Ret Tryz.prog 103 [.pointer (some ⟨b,0,none⟩),.int .i64 mode,.agg [.int .i64 c,.int .i64 d].toArray] w λu w'=>u = .int .i64 (shE S.s mode c d)/\Chg [] w w':=by
 obtain ⟨rv,rq,g,a3,a4⟩:=f;obtain ⟨F,M,O,Q,R⟩:=B;obtain ⟨a1,a0,Z,Y,X,V⟩:=F;have a:=crf w;refine zE3 Tryz.func103 rfl ?_;refine Sr λ_ A=>?_;refine zBh rfl rfl rfl a λb5 U e p T o a=>?_;have D:b≠b5:=by have:=g.lt;omega
 have g:=g.q5 p;refine za rfl (zz (A (Sr λ_ y=>zg e rfl ?_)));refine WL.call hasF180 rfl rfl (dhj c d _) λv w1 I=>?_;obtain ⟨rfl,m⟩:=I;have a:=a.ta m;have g:=g.q5 m;have e:=e.k0 m;refine za rfl (zz (y (zc λ_ x=>?_)));refine CW.oJ 19 (decide (¬((0<=mode/\mode<=4)/\xJ c d))) ?_ ?_
 ·refine zS λ_ h=>zm rfl (zL rfl rfl (zm rfl ?_));refine zb ?_ ?_<;>intro H<;>try simp only[qs] at H
  ·refine zv rfl (zv rfl (zt rfl rfl (zm rfl (zv rfl (zv rfl (zt rfl rfl (zz (h ?_))))))));refine ⟨rfl,rfl,q9.g7 rfl ?_ ?_⟩
   ·first|(simp_all;done)|(simp;omega)|(refine decide_eq_decide.2 ?_;omega)|(cases hdm:decide (xJ c d)<;>simp_all<;>omega)
   exact SMg
  refine zw rfl (zm rfl (zw rfl (zG rfl rfl (ze rfl rfl (zm rfl ?_)))));refine zb ?_ ?_<;>intro G<;>try simp only[qs] at G
  ·refine zv rfl (zv rfl (zt rfl rfl (zz (h ?_))));refine ⟨rfl,rfl,q9.g7 rfl ?_ ?_⟩
   ·first|(simp_all;done)|(simp;omega)|(refine decide_eq_decide.2 ?_;omega)|(cases hdm:decide (xJ c d)<;>simp_all<;>omega)
   exact SMg
  refine zw rfl (zm rfl (zw rfl (zT rfl (ze rfl rfl (zz (h ?_))))));refine ⟨rfl,rfl,q9.g7 rfl ?_ ?_⟩
  ·first|(simp_all;done)|(simp;omega)|(refine decide_eq_decide.2 ?_;omega)|(cases hdm:decide (xJ c d)<;>simp_all<;>omega)
  exact SMg
 refine zy rfl ?_ ?_<;>intro k<;>try simp only[qs] at k
 ·have C : ¬((0<=mode/\mode<=4)/\xJ c d):=k
  refine Sr λ_ t=>za rfl (zz (t ?_));refine zr (zr1 rfl rfl ?_);refine ⟨?_,a⟩;rw[show shE S.s mode c d=1 from if_pos C]
 have C : ¬¬((0<=mode/\mode<=4)/\xJ c d):=λz=>z k;have he:shE S.s mode c d=dxj S.s c d:=if_neg C;refine zkk (x (zc λ_ r=>?_));refine CW.bZ 7 rfl cJ λJ n f j=>?_;have a:=a.ta j;have g:=g.q5 j;have e:=e.k0 j;have q:=g;have l:=e;refine wh 0 rfl f (eM rfl) (wh 1 rfl f (eP rfl) (wh 2 rfl f (eF rfl) (wh 3 rfl f (λ_ i=>Ev.fQ (cs:=[.int .i64 (S.s.na:Int),.int .i64 (S.s.up:Int),.int .i64 (S.s.dn:Int),.int .i64 (S.s.mi:Int),.int .i64 (S.s.pl:Int),.int .i64 (S.s.al:Int)]) rfl rfl (q.q5 i) rfl rfl) (wh 4 rfl f (λ_ i=>Ev.oQ rfl rfl (l.q5 i) rfl) ?_))));refine WH.k6 5 rfl oR hasF181 rfl rfl (dhq S.s c d _ ⟨by omega,by omega,by omega,by omega,by omega,by omega⟩) λv w2 I=>?_;obtain ⟨rfl,m⟩:=I;have a:=a.ta m;have f:=f.trans m;refine ⟨f,?_⟩;refine wh 6 rfl f (eA rfl) ?_;refine WH.done oR (n _ _ _ ?_);refine r ?_;refine zr (zr1 rfl rfl ?_);rw[he];exact ⟨rfl,a⟩
theorem r21Mean_spec(b:Nat)(S:Sh)(mode j k:Int)(w:World)(d:ShM 148 w b S)(c2:S.wf):Ret Tryz.prog 37 [.pointer (some ⟨b,0,none⟩),.int .i64 mode,.agg [.int .i64 j,.int .i64 k].toArray] w λu w'=>(∃ x e,u = .tuple [.float .f64 x,.int .i64 e].toArray/\c6x S mode j k x e)/\Chg [] w w':=by
 obtain ⟨rv,rq,g,c,G⟩:=d;obtain ⟨c7,o,b1,b2,b3⟩:=c2;obtain ⟨a9,a8,a7,a6,a5,a4⟩:=c7;have a:=crf w;refine zE3 Tryz.func37 rfl ?_;refine Sr λ_ c1=>?_;refine zBh rfl rfl rfl a λb5 d9 i p d4 b4 a=>?_;have c:=c.q5 p;have G:=G.q5 p;have c6:b≠b5:=by have:=g.lt;omega
 have g:=g.q5 p;refine za rfl (za rfl (zz (c1 (Sr λ_ c0=>zm rfl (zm rfl (zg i rfl ?_))))));refine WL.call hasF103 rfl rfl (a3q b S mode j k _ ⟨rv,rq,g,c,G⟩ ⟨⟨a9,a8,a7,a6,a5,a4⟩,o,b1,b2,b3⟩) λv w1 t=>?_;obtain ⟨rfl,f⟩:=t;have a:=a.ta f;have g:=g.q5 f;have i:=i.k0 f;have c:=c.q5 f;refine za rfl (zz (c0 (zc λ_ b9=>Sr λ_ b8=>zm rfl (zN rfl rfl (zz (b8 ?_))))));refine zy rfl ?_ ?_<;>intro D<;>try simp only[qs] at D
 ·have H:shE S.s mode j k≠0:=D
  refine Sr λ_ b7=>zm rfl (za rfl (za rfl (zz (b7 ?_))));refine zr (zr2 rfl rfl rfl ?_);refine ⟨⟨_,_,rfl,?_⟩,a⟩;exact .inl ⟨H,rfl,rfl⟩
 have H:shE S.s mode j k=0:=by have:=D;omega
 refine zkk (b9 (zc λ_ a2=>?_));refine CW.bZ 11 rfl cJ λd1 J d h=>?_;have a:=a.ta h;have g:=g.q5 h;have i:=i.k0 h;have c:=c.q5 h;have r:=g;have F:=i;refine wh 0 rfl d (eM rfl) (wh 1 rfl d (eP rfl) (wh 2 rfl d (eF rfl) (wh 3 rfl d (λ_ l=>Ev.fQ (cs:=[.int .i64 (S.s.na:Int),.int .i64 (S.s.up:Int),.int .i64 (S.s.dn:Int),.int .i64 (S.s.mi:Int),.int .i64 (S.s.pl:Int),.int .i64 (S.s.al:Int)]) rfl rfl (r.q5 l) rfl rfl) (wh 4 rfl d (λ_ l=>Ev.oQ rfl rfl (F.q5 l) rfl) ?_))));refine WH.k6 5 rfl oR hasF104 rfl rfl (bxj S.s j k _ ⟨by omega,by omega,by omega,by omega,by omega,by omega⟩) λv w2 t=>?_;obtain ⟨rfl,f⟩:=t;have a3:=bqx S.s j k;have a:=a.ta f;have g:=g.q5 f;have c:=c.q5 f;have d:=d.trans f;refine ⟨d,?_⟩;refine wh 6 rfl d (eM rfl) (wh 7 rfl d (eX rfl rfl) (wh 8 rfl d (eX rfl rfl) (wh 9 rfl d (eA rfl) (wh 10 rfl d (eA rfl) ?_))));refine WH.done oR (J _ _ _ ?_);refine a2 (zc λ_ a1=>Sr λ_ a0=>zm rfl (zz (a0 ?_)));refine zy rfl ?_ ?_<;>intro C<;>try simp only[qs] at C
 ·obtain ⟨x,c4,e3,c3⟩ : ∃ x,lQ S.s j k = .some x/\(lQ S.s j k).isSome=true/\(lQ S.s j k).getD 0=x:=a3.resolve_right (λq=>by have:=C;rw[q.2] at this;exact Bool.false_ne_true this);rw[c3]
  refine Sr λ_ Z=>zm rfl (za rfl (za rfl (zz (Z ?_))));refine zr (zr2 rfl rfl rfl ?_);refine ⟨⟨_,_,rfl,?_⟩,a⟩;exact .inr ⟨H,.inl ⟨x,c4,rfl,rfl⟩⟩
 have hv:lQ S.s j k = .none:=by
  rcases a3 with ⟨_,_,q2,_⟩|q
  · have:=C;rw[q2] at this;exact absurd this oD
  exact q.1
 refine zkk (a1 (Sr λ_ Y=>zm rfl (zP rfl (zf rfl ?_))));refine WL.ev (Ev.fQ (cs:=[.int .i64 (S.s.na:Int),.int .i64 (S.s.up:Int),.int .i64 (S.s.dn:Int),.int .i64 (S.s.mi:Int),.int .i64 (S.s.pl:Int),.int .i64 (S.s.al:Int)]) rfl rfl g rfl rfl) rfl ?_;refine WL.call hasF107 rfl rfl (avx S.s _ ⟨a9,a8,a7,a6,a5,a4⟩) λv w3 t=>?_;obtain ⟨rfl,f⟩:=t;rw[show ((S.s.al:Int)-S.s.na-S.s.up-S.s.dn)=S.fin from rfl];have a:=a.ta f;have g:=g.q5 f;have c:=c.q5 f;refine za rfl (zz (Y (zc λ_ X=>Sr λ_ U=>zm rfl (zq rfl rfl (zz (U ?_))))));refine zy rfl ?_ ?_<;>intro B<;>try simp only[qs] at B
 ·have y:S.fin=0:=B
  refine Sr λ_ T=>za rfl (za rfl (zz (T ?_)));refine zr (zr2 rfl rfl rfl ?_);refine ⟨⟨_,_,rfl,?_⟩,a⟩;exact .inr ⟨H,.inr ⟨hv,.inl ⟨y,rfl,rfl⟩⟩⟩
 have y:S.fin≠0:=B;refine zkk (X (zc λ_ R=>Sr λ_ Q=>zm rfl (zP rfl (zf rfl (zf rfl ?_)))));obtain ⟨⟨c9,c8,b0,d5,d2⟩,d6,d3⟩:=id c;refine WL.ev (Ev.load (v:=.slice c9 (wd S.V.m).length c8) rfl rfl (by rw[<- b0];exact g.at_ rfl)) rfl ?_;refine zn rfl (zq rfl rfl (zz (Q ?_)));refine zy rfl ?_ ?_<;>intro A<;>try simp only[qs] at A
 ·have z:S.V.m=0:=rZ.1 (List.length_eq_zero_iff.1 (by have:=A;omega));refine Sr λ_ O=>zm rfl (zP rfl (zf rfl ?_));refine WL.ev (Ev.fQ (cs:=[.int .i64 (S.s.na:Int),.int .i64 (S.s.up:Int),.int .i64 (S.s.dn:Int),.int .i64 (S.s.mi:Int),.int .i64 (S.s.pl:Int),.int .i64 (S.s.al:Int)]) rfl rfl g rfl rfl) rfl ?_
  refine zm rfl ?_;refine WL.call hasF105 rfl rfl (b9q S.s mode _ ⟨by omega,by omega,by omega,by omega,by omega,by omega⟩) λv w4 t=>?_;obtain ⟨rfl,f⟩:=t;have a:=a.ta f;refine za rfl (za rfl (zz (O ?_)));refine zr (zr2 rfl rfl rfl ?_);refine ⟨⟨_,_,rfl,?_⟩,a⟩;exact .inr ⟨H,.inr ⟨hv,.inr ⟨y,.inl ⟨z,rfl,rfl⟩⟩⟩⟩
 have z:S.V.m≠0:=λq=>by have h9:=A;rw[q,eJ] at h9;exact h9 rfl
 refine zkk (R (zc λ_ M=>?_));refine CW.bZ 13 rfl cJ λd0 I d h=>?_;have a:=a.ta h;have g:=g.q5 h;have c:=c.q5 h;have r:=g;refine wh 0 rfl d (eM rfl) (wh 1 rfl d (eP rfl) (wh 2 rfl d (eF rfl) (wh 3 rfl d (λ_ l=>Ev.fQ rfl rfl (r.q5 l) rfl rfl) ?_)))
 try simp only[oL]
 refine wh 4 rfl d (eM rfl) (wh 7 rfl d (eM rfl) ?_);refine WH.k6 5 rfl oR hasF109 rfl rfl (a8j S.fin _ (by unfold Sh.fin;omega)) λv w5 t=>?_;obtain ⟨⟨ri,rfl,b6⟩,f⟩:=t;have e4:=b6.one;have a:=a.ta f;have c:=c.q5 f;have d:=d.trans f;refine ⟨d,?_⟩;refine wh 6 rfl d (λ_ _=>Ev.build (vs:=_) (cs:=[_,_,_,_,_,_]) rfl rfl) ?_;refine WH.k6 8 rfl oR hasF108 rfl rfl (clj _ _ _ _ _ _ _ _ mode _ c b6 (aJ o) (aJ (wZ (by unfold Sh.fin;omega))) (by have:=o.len;omega) (by have:=(wZ (n:=S.fin) (by unfold Sh.fin;omega)).len;omega)) λv w6 t=>?_;obtain ⟨⟨xb,xe,rfl,hR⟩,f⟩:=t;rw[g6,g6] at hR;have a:=a.ta f;have d:=d.trans f;refine ⟨d,?_⟩;refine wh 9 rfl d (eX rfl rfl) (wh 10 rfl d (eX rfl rfl) (wh 11 rfl d (eA rfl) (wh 12 rfl d (eA rfl) ?_)));refine WH.done oR (I _ _ _ ?_);refine M ?_;refine zr (zr2 rfl rfl rfl ?_);refine ⟨⟨_,_,rfl,?_⟩,a⟩;exact .inr ⟨H,.inr ⟨hv,.inr ⟨y,.inr ⟨z,hR⟩⟩⟩⟩
theorem czx(b:Nat)(S:Sh)(x:Nat)(w:World)(R:ShM 148 w b S)(o:S.wf):Ret Tryz.prog 112 [.pointer (some ⟨b,0,none⟩),.float .f64 x] w λu w'=>u = .tuple [.float .f64 (bvq S x).1,.int .i64 (bvq S x).2].toArray/\Chg [] w w':=by
 obtain ⟨O,Q,h,B,C⟩:=R;obtain ⟨A,G,H,I,J⟩:=o;obtain ⟨z,y,t,r,q,p⟩:=A;have a:=crf w;refine zE2 Tryz.func112 rfl ?_;refine Sr λ_ n=>za rfl (za rfl (zz (n (Sr λ_ m=>zm rfl ?_))));refine WL.call hasF89 rfl rfl (wX b S _ ⟨O,Q,h,B,C⟩ ⟨z,y,t,r,q,p⟩) λv U F=>?_;obtain ⟨rfl,M⟩:=F;have a:=a.ta M;have h:=h.q5 M;refine za rfl (zz (m (zc λ_ l=>CW.block (Sr λ_ k=>zm rfl (zP rfl (zf rfl (zf rfl (zl h rfl rfl (zq rfl rfl (za rfl (zz (k ?_))))))))))));refine zy rfl ?_ ?_<;>intro d<;>try simp only[qs] at d
 ·have i:S.s.al=0:=by have:=d;omega
  refine Sr λ_ j=>za rfl (za rfl (zz (j ?_)));refine zr (zr2 rfl rfl rfl ?_);refine ⟨?_,a⟩;rw[show bvq S x=(0,3) from if_pos i]
 have i : ¬S.s.al=0:=by have:=d;omega
 refine Sr λ_ g=>zm rfl (zT rfl (za rfl (zz (g ?_))));refine zy rfl ?_ ?_<;>intro c<;>try simp only[qs] at c
 ·have D : ¬S.some:=by simpa using c
  refine Sr λ_ f=>?_;refine WL.call hasF110 rfl rfl (bqj _) λv T F=>?_;obtain ⟨rfl,rfl⟩:=F;refine za rfl (za rfl (zz (f ?_)));refine zr (zr2 rfl rfl rfl ?_);refine ⟨?_,a⟩;rw[show bvq S x=(9221120237041090560,0) from (if_neg i).trans (if_pos D)]
 have D : ¬¬S.some:=by simpa using c
 refine zkk (l (Sr λ_ e=>zm rfl (za rfl (za rfl (zz (e ?_))))));refine zr (zr2 rfl rfl rfl ?_);refine ⟨?_,a⟩;rw[show bvq S x=(x,0) from (if_neg i).trans (if_neg D)]
theorem First_spec(b:Nat)(S:Sh)(w:World)(y:ShM 148 w b S)(i:S.wf):Ret Tryz.prog 39 [.pointer (some ⟨b,0,none⟩)] w λu w'=>u = .tuple [.float .f64 (bvq S S.lo).1,.int .i64 (bvq S S.lo).2].toArray/\Chg [] w w':=by
 obtain ⟨t,x,s,q,r⟩:=y;obtain ⟨p,c,d,e,f⟩:=i;obtain ⟨o,n,m,l,k,j⟩:=p;have a:=crf w;refine zE1 Tryz.func39 rfl ?_;refine Sr λ_ h=>za rfl (za rfl (zz (h (Sr λ_ g=>zm rfl (zm rfl (zP rfl (zf rfl (zl s rfl rfl ?_))))))));refine WL.call hasF112 rfl rfl (czx b S S.lo _ ⟨t,x,s,q,r⟩ ⟨⟨o,n,m,l,k,j⟩,c,d,e,f⟩) λv B A=>?_;obtain ⟨rfl,z⟩:=A;have a:=a.ta z;refine zx rfl rfl (zx rfl rfl (za rfl (za rfl (zz (g ?_)))));refine zr (zr2 rfl rfl rfl ?_);exact ⟨rfl,a⟩
theorem Last_spec(b:Nat)(S:Sh)(w:World)(y:ShM 148 w b S)(i:S.wf):Ret Tryz.prog 40 [.pointer (some ⟨b,0,none⟩)] w λu w'=>u = .tuple [.float .f64 (bvq S S.hi).1,.int .i64 (bvq S S.hi).2].toArray/\Chg [] w w':=by
 obtain ⟨t,x,s,q,r⟩:=y;obtain ⟨p,c,d,e,f⟩:=i;obtain ⟨o,n,m,l,k,j⟩:=p;have a:=crf w;refine zE1 Tryz.func40 rfl ?_;refine Sr λ_ h=>za rfl (za rfl (zz (h (Sr λ_ g=>zm rfl (zm rfl (zP rfl (zf rfl (zl s rfl rfl ?_))))))));refine WL.call hasF112 rfl rfl (czx b S S.hi _ ⟨t,x,s,q,r⟩ ⟨⟨o,n,m,l,k,j⟩,c,d,e,f⟩) λv B A=>?_;obtain ⟨rfl,z⟩:=A;have a:=a.ta z;refine zx rfl rfl (zx rfl rfl (za rfl (za rfl (zz (g ?_)))));refine zr (zr2 rfl rfl rfl ?_);exact ⟨rfl,a⟩
end
section
open Go Sx Wd
theorem sgn_sw(a b:Nat):sgn a b = -sgn b a:=by unfold sgn;split<;>split<;>(try split)<;>omega
theorem cmp_num1{m k:Nat}{e:Int}(a:k<18446744073709551616):c2x (anj k) (pZ k) m e=sgn (2*nz k*dyB e) (dyA m e):=by
  have h:=cmp_num (x:=m) (y:=1) (ex:=e) (ey:=0) a
  rwa [Nat.mul_one,Int.add_zero,Int.sub_zero,Nat.one_mul] at h
theorem cmp_mid1{m k d:Nat}{e:Int}(f:k<9223372036854775808)(g:(d:Int)=pZ (k+1)-pZ k):c2x (m*2) e (anj k+anj (k+1)*2^d) (pZ k)=sgn (dyA m e) ((nz k+nz (k+1))*dyB e):=by
  have h:=cmp_mid (x:=m) (y:=1) (ex:=e) (ey:=0) f g
  rw[Nat.mul_one,Int.add_zero,Int.sub_zero,Nat.one_mul] at h
  generalize anj k+anj (k+1)*2^d=s at *
  rw[sgn_sw,<- h]
  obtain ⟨a,b,c⟩ : ∃ a b:Nat,(a:Int)-b=e-pZ k:=by
    rcases Int.le_total e (pZ k) with q|q
    · exact ⟨0,(pZ k-e).toNat,by omega⟩
    · exact ⟨(e-pZ k).toNat,0,by omega⟩
  rw[cox (a:=a) (b:=b) c,cox (a:=b) (b:=a+1) oO,<- sgn_sw,Nat.mul_assoc,Nat.pow_succ,Nat.mul_comm 2]
structure KBl(x:Dy)(A B:Nat)(w0:World)(b3:Nat)(vn:Value)(g:Nat×Nat)(w:World):Prop where
  lt:g.1<g.2
  le:g.2<=9218868437227405312
  lo:2*nz g.1*B<=A
  hi:A<2*nz g.2*B\/g.2=9218868437227405312
  h3:BK w b3 219 [.int .i64 53,.int .i64 (-1074),.int .u64 9218868437227405312]
  hn:NU w vn (wd x.m)
  ch:Chg [] w0 w
theorem r3below_spec(x:Dy)(D:Value)(w:World)(d:NU w D (wd x.m))(X:x.ok):Ret Tryz.prog 234 [.agg [.int .i64 53,.int .i64 (-1074),.int .u64 9218868437227405312].toArray,D,.int .i64 x.e] w λu w'=>∃ f:Nat,u = .int .u64 (f:Int)/\f<9218868437227405312/\2*nz f*dyB x.e<=dyA x.m x.e/\(dyA x.m x.e<2*nz (f+1)*dyB x.e\/f+1=9218868437227405312)/\Chg [] w w':=by
 have a:=crf w;have a4:=d.one;obtain ⟨A,hA⟩ : ∃ A,A=dyA x.m x.e:=⟨_,rfl⟩;obtain ⟨B,hB⟩ : ∃ B,B=dyB x.e:=⟨_,rfl⟩;rw[<- hA,<- hB];refine zE3 Tryz.func234 rfl ?_;refine Sr λ_ M=>?_;refine zBh rfl rfl rfl a λb3 a3 c z Z y a=>?_;have d:=d.q5 z;refine za rfl (zz (M (Sr λ_ J=>za rfl (zz (J (Sr λ_ I=>zf rfl (zl c rfl rfl (za rfl (zz (I (zc λ_ H=>CW.block ?_)))))))))));refine CW.loop (S:=λg:Nat×Nat=>[(1,D),(2,.int .i64 x.e),(3,.pointer (some ⟨b3,0,none⟩)),(7,.int .u64 (g.1:Int)),(8,.int .u64 (g.2:Int))]) (Inv:=KBl x A B w b3 D) (mu:=λg=>g.2-g.1) ((0,9218868437227405312)) ?_ ?_ ?_
 ·exact ⟨by decide,Nat.le_refl _,by rw[show nz 0=0 from rfl,Nat.mul_zero,Nat.zero_mul];exact Nat.zero_le _,.inr rfl,c,d,a⟩
 ·exact SLp
 rintro ⟨f,t⟩ wr ⟨R,Y,h,j,c,d,a⟩;dsimp only at R Y h j;dsimp only;refine zc λ_ G=>Sr λ_ F=>zm rfl (zm rfl ?_)
 first|refine WL.ev (Ev.bdx rfl rfl oO oO) rfl ?_|refine WL.ev (Ev.cyq rfl rfl oO) rfl ?_
 refine zG rfl rfl (zz (F ?_));refine zy rfl ?_ ?_<;>intro T<;>try simp only[qs] at T
 ·have Q:f<(f+t)/2:=by omega
  have O:(f+t)/2<t:=by omega
  refine zkk (G (CW.block (Sr λ_ s=>zm rfl (zm rfl ?_))))
  first|refine WL.ev (Ev.iX rfl rfl oO) rfl ?_|refine WL.ev (Ev.aaq rfl rfl) rfl ?_
  refine WL.ev (Ev.djj (b:=2) rfl rfl oO (iZ oO).2) rfl ?_;refine za rfl (zz (s (Sr λ_ r=>zg c rfl (zm rfl ?_))));refine WL.call hasF226 rfl rfl (qZ ((f+t)/2) _ oO) λv w1 V=>?_;obtain ⟨⟨va,rfl,U⟩,k⟩:=V;have a:=a.ta k;have c:=c.k0 k;have d:=d.q5 k;refine zm rfl (zx rfl rfl (zx rfl rfl (za rfl (za rfl (zz (r (Sr λ_ p=>zm rfl (zm rfl (zm rfl (zm rfl ?_))))))))));refine WL.call hasF225 rfl rfl (zX _ _ _ _ _ _ _ U d (by have:=a0q ((f+t)/2) oO;omega) (ok_e X) (by have:=bfq ((f+t)/2);omega) (by have:=X.len;omega)) λv w2 V=>?_;obtain ⟨rfl,k⟩:=V;rw[g6,g6,cmp_num1 oO,<- hB,<- hA];have a:=a.ta k;have c:=c.k0 k;have d:=d.q5 k;refine zQ rfl rfl (zz (p ?_));refine zy rfl ?_ ?_<;>intro C<;>try simp only[qs] at C
  ·have i:2*nz ((f+t)/2)*B<=A:=bhq.1 C
   refine zS λ_ n=>zm rfl (za rfl (zz (n ?_)));refine ⟨rfl,((f+t)/2,t),?_,?_,?_⟩
   ·exact SLp
   ·exact ⟨O,Y,i,j,c,d,a⟩
   show t-(f+t)/2<t-f;omega
  have i:A<2*nz ((f+t)/2)*B:=Nat.lt_of_not_le λq=>by have:=bhq.2 q;omega
  refine zS λ_ l=>zm rfl (za rfl (zz (l ?_)));refine ⟨rfl,(f,(f+t)/2),?_,?_,?_⟩
  ·exact SLp
  ·exact ⟨Q,by dsimp only;omega,h,.inl i,c,d,a⟩
  show (f+t)/2-f<t-f;omega
 have et:t=f+1:=by omega
 subst et;refine CW.exit ?_;refine H (Sr λ_ o=>zm rfl (za rfl (zz (o ?_))));refine zr (zr1 rfl rfl ?_);exact ⟨f,rfl,by omega,h,j,a⟩
theorem r3half_spec(k:Nat)(x:Dy)(T:Value)(w:World)(f:NU w T (wd x.m))(U:x.ok)(hk:k<9218868437227405312):Ret Tryz.prog 235 [.agg [.int .i64 53,.int .i64 (-1074),.int .u64 9218868437227405312].toArray,.int .u64 (k:Int),T,.int .i64 x.e] w λu w'=>u = .int .i64 (sgn (dyA x.m x.e) ((nz k+nz (k+1))*dyB x.e))/\Chg [] w w':=by
 have a:=crf w;have a4:=f.one;have a7:=ctj k;have a8:=a0q k oO;have a6:=bfq k;have a5:=bfq (k+1);have a1:=U.len;have J:=ok_e U;obtain ⟨d,s⟩ : ∃ d:Nat,(d:Int)=pZ (k+1)-pZ k:=⟨(pZ (k+1)-pZ k).toNat,by omega⟩;refine zE4 Tryz.func235 rfl ?_;refine Sr λ_ I=>?_;refine zBh rfl rfl rfl a λb4 Z n t V r a=>?_;have f:=f.q5 t;refine za rfl (zz (I (Sr λ_ H=>zg n rfl (zm rfl ?_))));refine WL.call hasF226 rfl rfl (qZ (k) _ oO) λv w1 l=>?_;obtain ⟨⟨va,rfl,j⟩,c⟩:=l;have a:=a.ta c;have n:=n.k0 c;have f:=f.q5 c;refine zm rfl (zx rfl rfl (zx rfl rfl (za rfl (za rfl (zz (H (Sr λ_ G=>zg n rfl (zm rfl ?_))))))))
 first|refine WL.ev (Ev.iX (b:=1) rfl rfl oO) rfl ?_|refine WL.ev (Ev.aaq (b:=1) rfl rfl) rfl ?_
 refine WL.call hasF226 rfl rfl (qZ (k+1) _ oO) λv w2 l=>?_;obtain ⟨⟨vb,rfl,Q⟩,c⟩:=l;have a:=a.ta c;have f:=f.q5 c;have j:=j.q5 c;refine zm rfl (zx rfl rfl (zx rfl rfl (za rfl (za rfl (zz (G (zc λ_ F=>Sr λ_ D=>zm rfl (zm rfl (zL rfl rfl (zz (D ?_)))))))))));refine zy rfl ?_ ?_<;>intro z<;>try simp only[qs] at z
 ·exact absurd z oO
 refine zkk (F (Sr λ_ q=>zm rfl (zm rfl (zm rfl (zm rfl ?_)))));refine WL.ev (Ev.dX rfl rfl oO) rfl ?_;rw[<- s];refine WL.call hasF172 rfl rfl (zZ _ _ _ Q d oO oO) λv w3 l=>?_;obtain ⟨B,c,hF⟩:=l;rw[g6] at B;have O:(wd (anj (k+1)*2^d)).length<=3:=aQ.2 (by have h7:=b5x (k+1);have h8:2^d<=2^1:=Nat.pow_le_pow_right oD oO;have R:=Nat.mul_le_mul (Nat.le_of_lt h7) h8;omega);have a:=a.ta c;have f:=f.q5 c;have j:=j.q5 c;refine WL.call hasF173 rfl rfl (byj _ _ _ _ _ j B oO oO) λv w4 l=>?_;obtain ⟨h,c,hF⟩:=l;rw[g6,g6] at h;have a2:(wd (anj k+anj (k+1)*2^d)).length<=4:=aQ.2 (by have h5:=b5x k;have h6:=aQ.1 O;omega);have a:=a.ta c;have f:=f.q5 c;refine za rfl (zz (q (Sr λ_ p=>zm rfl ?_)));refine WL.buildSlice (m:=1) (cs:=[kQ (2)]) oD oD rfl oR rfl λC o i=>?_;have g:=i.chg;have a:=a.ta g;have f:=f.q5 g;have h:=h.q5 g;have Y:NU o (.slice (some ⟨C,0,none⟩) 1 1) [2]:=NU.mJ i.at_ (by intro y hy;rw[List.mem_singleton.1 hy];decide) oD oD oD;have X:OB o C _ [2]:=i.at_;have M:=f;refine WL.call hasF165 rfl rfl (auj _ _ _ _ _ f Y oT) λv w5 l=>?_;obtain ⟨A,c,hF⟩:=l;rw[g6,show val [2]=2 from rfl] at A;have a3:(wd (x.m*2)).length<=8200:=by
  have R:=mul_len (bX M.hw) (bX Y.hw);rw[g6,show val [2]=2 from rfl] at R;simp only[List.length_cons,List.length_nil] at R;omega
 have a:=a.ta c;have h:=h.q5 c;refine zm rfl (zm rfl (zm rfl ?_));refine WL.call hasF225 rfl rfl (zX _ _ _ _ _ _ _ A h J oO oO oO) λv w6 l=>?_;obtain ⟨rfl,c⟩:=l;rw[g6,g6,cmp_mid1 oO s];have a:=a.ta c;refine za rfl (zz (p ?_));refine zr (zr1 rfl rfl ?_);exact ⟨rfl,a⟩
theorem dyq(x:Dy)(vn:Value)(mode:Int)(w:World)(t:NU w vn (wd x.m))(hx:x.ok)(hm:0<=mode/\mode<=4):Ret Tryz.prog 184 [.agg [.int .i64 53,.int .i64 (-1074),.int .u64 9218868437227405312].toArray,.bool x.neg,vn,.int .i64 x.e,.int .i64 mode] w λu w'=>∃ r:Nat,u = .int .u64 (r:Int)/\lZ (dyA x.m x.e) (dyB x.e) x.neg mode r/\r<=9218868437227405312/\Chg [] w w':=by
 have d:=crf w;have j:=t.one;obtain ⟨A,hA⟩ : ∃ A,A=dyA x.m x.e:=⟨_,rfl⟩;obtain ⟨B,hB⟩ : ∃ B,B=dyB x.e:=⟨_,rfl⟩;rw[<- hA,<- hB];refine zE5 Tryz.func184 rfl ?_;refine Sr λ_ e8=>?_;refine zBh rfl rfl rfl d λb5 f7 p d5 f6 d4 d=>?_;have t:=t.q5 d5;refine za rfl (zz (e8 (Sr λ_ e7=>zg p rfl (zm rfl (zm rfl ?_)))));refine WL.call hasF234 rfl rfl (r3below_spec x vn _ t hx) λv w1 R=>?_;obtain ⟨f,rfl,i,k,g,s⟩:=R;rw[<- hA,<- hB] at k g;have d:=d.ta s;have p:=p.k0 s;have t:=t.q5 s;refine za rfl (zz (e7 (Sr λ_ e6=>zg p rfl (zm rfl ?_))));refine WL.call hasF226 rfl rfl (qZ (f) _ oO) λv w2 R=>?_;obtain ⟨⟨vc,rfl,f3⟩,s⟩:=R;have d:=d.ta s;have p:=p.k0 s;have t:=t.q5 s;refine zm rfl (zx rfl rfl (zx rfl rfl (za rfl (za rfl (zz (e6 (zc λ_ e5=>Sr λ_ e4=>zm rfl (zm rfl (zm rfl (zm rfl ?_))))))))));refine WL.call hasF225 rfl rfl (zX _ _ _ _ _ _ _ f3 t (by have:=a0q (f) oO;omega) (ok_e hx) (by have:=bfq (f);omega) (by have:=hx.len;omega)) λv w3 R=>?_;obtain ⟨rfl,s⟩:=R;rw[g6,g6,cmp_num1 oO,<- hB,<- hA];have d:=d.ta s;have p:=p.k0 s;have t:=t.q5 s;refine zq rfl rfl (zz (e4 ?_));refine zy rfl ?_ ?_<;>intro Q<;>try simp only[qs] at Q
 ·have he:=bkx.1 Q
  refine Sr λ_ d1=>zm rfl (za rfl (zz (d1 ?_)));refine zr (zr1 rfl rfl ?_);exact ⟨f,rfl,near_eq i g he,by omega,d⟩
 have n:2*nz f*B≠A:=λq=>Q (bkx.2 q);refine zkk (e5 (Sr λ_ d0=>zg p rfl (zm rfl (zm rfl (zm rfl ?_)))));refine WL.call hasF235 rfl rfl (r3half_spec f x vn _ t hx i) λv w4 R=>?_;obtain ⟨rfl,s⟩:=R;rw[<- hB,<- hA];obtain ⟨M,hM⟩ : ∃ M,M=(nz f+nz (f+1))*B:=⟨_,rfl⟩;rw[<- hM];have d2:=bhq (a:=M) (b:=A);have f0:=bkx (a:=M) (b:=A);have e9:=sgn_sw A M;obtain ⟨h,hh⟩ : ∃ h,h=sgn A M:=⟨_,rfl⟩;obtain ⟨h4,d3⟩ : ∃ h,h=sgn M A:=⟨_,rfl⟩;rw[<- hh,<- d3] at e9;rw[<- d3] at d2 f0;rw[<- hh];have d:=d.ta s;refine za rfl (zz (d0 (Sr λ_ c9=>za rfl (zz (c9 (zc λ_ l=>Sr λ_ c8=>zm rfl (zz (c8 (CW.block (Sr λ_ c7=>zq rfl rfl (za rfl (zz (c7 ?_)))))))))))));refine zy rfl ?_ ?_<;>intro d8<;>try simp only[qs] at d8
 ·have o:mode=0:=d8
  refine zR λ_ y=>?_;refine zm rfl (zG rfl rfl (zm rfl ?_));refine zb ?_ ?_<;>intro f2<;>try simp only[qs] at f2
  ·have c:upM mode x.neg f A ((nz f+nz (f+1))*B)=true:=by
    rw[<- hM,o,b2j,decide_eq_true (show M<A by omega)];rfl
   refine zv rfl (zv rfl (zv rfl (zu rfl (zu rfl (zu rfl (zv rfl (zt rfl rfl (za rfl ?_))))))));refine WL.nil (y _ _ _ (l ?_));refine zc λ_ c6=>Sr λ_ c5=>zm rfl (zz (c5 ?_));refine CW.nZ rfl ?_;refine zR λ_ a1=>?_;refine zm rfl ?_
   first|refine WL.ev (Ev.iX (b:=1) rfl rfl oO) rfl ?_|refine WL.ev (Ev.aaq (b:=1) rfl rfl) rfl ?_
   refine za rfl ?_;refine WL.nil (a1 _ _ _ (c6 ?_));refine Sr λ_ c4=>zm rfl (za rfl (zz (c4 ?_)));refine zr (zr1 rfl rfl ?_);exact ⟨f+1,rfl,pX i k g n (on:=true) (by first|exact c|exact c.trans j) rfl,by omega,d⟩
  refine zw rfl (zm rfl (zw rfl (zq rfl rfl (zw rfl (zm rfl ?_)))));refine zb ?_ ?_<;>intro f1<;>try simp only[qs] at f1
  ·have c:upM mode x.neg f A ((nz f+nz (f+1))*B)=decide (f%2=1):=by
    rw[<- hM,o,b2j,decide_eq_false (show ¬M<A by omega),decide_eq_true (show M=A by omega)];simp
   refine zw rfl (zm rfl (zw rfl ?_));refine WL.ev (Ev.dfx (b:=2) rfl rfl oO) rfl ?_;refine zw rfl (zq rfl rfl ?_);rw[show decide (((f%2:Nat):Int)=1)=decide (f%2=1) from decide_eq_decide.2 oO];refine zw rfl (zt rfl rfl (ze rfl rfl (za rfl ?_)));refine WL.nil (y _ _ _ (l ?_));refine zc λ_ G=>Sr λ_ c3=>zm rfl (zz (c3 ?_));refine zy rfl ?_ ?_<;>intro O<;>try simp only[qs] at O
   ·have j:=decide_eq_true O
    refine zR λ_ a0=>?_;refine zm rfl ?_
    first|refine WL.ev (Ev.iX (b:=1) rfl rfl oO) rfl ?_|refine WL.ev (Ev.aaq (b:=1) rfl rfl) rfl ?_
    refine za rfl ?_;refine WL.nil (a0 _ _ _ (G ?_));refine Sr λ_ c2=>zm rfl (za rfl (zz (c2 ?_)));refine zr (zr1 rfl rfl ?_);exact ⟨f+1,rfl,pX i k g n (on:=true) (by first|exact c|exact c.trans j) rfl,by omega,d⟩
   have j:=decide_eq_false O;refine zkk (G (Sr λ_ c1=>zm rfl (za rfl (zz (c1 ?_)))));refine zr (zr1 rfl rfl ?_);exact ⟨f,rfl,pX i k g n (on:=false) (by first|exact c|exact c.trans j) rfl,by omega,d⟩
  have c:upM mode x.neg f A ((nz f+nz (f+1))*B)=false:=by
   rw[<- hM,o,b2j,decide_eq_false (show ¬M<A by omega),decide_eq_false (show ¬M=A by omega)];rfl
  refine zv rfl (zv rfl (zv rfl (zw rfl (ze rfl rfl (ze rfl rfl (za rfl ?_))))));refine WL.nil (y _ _ _ (l ?_));refine zc λ_ c0=>Sr λ_ b9=>zm rfl (zz (b9 ?_));refine CW.oX rfl ?_;refine zkk (c0 (Sr λ_ b8=>zm rfl (za rfl (zz (b8 ?_)))));refine zr (zr1 rfl rfl ?_);exact ⟨f,rfl,pX i k g n (on:=false) (by first|exact c|exact c.trans j) rfl,by omega,d⟩
 refine Sr λ_ b7=>zq rfl rfl (za rfl (zz (b7 ?_)));refine zy rfl ?_ ?_<;>intro d7<;>try simp only[qs] at d7
 ·have o:mode=2:=d7
  have c:upM mode x.neg f A ((nz f+nz (f+1))*B) = !x.neg:=by rw[o,up_up]
  refine zR λ_ Z=>?_;refine zm rfl (zT rfl (za rfl ?_));refine WL.nil (Z _ _ _ (l ?_));refine zc λ_ F=>Sr λ_ b6=>zm rfl (zz (b6 ?_));refine zy rfl ?_ ?_<;>intro J<;>try simp only[qs] at J
  ·have j:(!x.neg)=true:=by simpa using J
   refine zR λ_ Y=>?_;refine zm rfl ?_
   first|refine WL.ev (Ev.iX (b:=1) rfl rfl oO) rfl ?_|refine WL.ev (Ev.aaq (b:=1) rfl rfl) rfl ?_
   refine za rfl ?_;refine WL.nil (Y _ _ _ (F ?_));refine Sr λ_ b4=>zm rfl (za rfl (zz (b4 ?_)));refine zr (zr1 rfl rfl ?_);exact ⟨f+1,rfl,pX i k g n (on:=true) (by first|exact c|exact c.trans j) rfl,by omega,d⟩
  have j:(!x.neg)=false:=by simpa using J
  refine zkk (F (Sr λ_ b3=>zm rfl (za rfl (zz (b3 ?_)))));refine zr (zr1 rfl rfl ?_);exact ⟨f,rfl,pX i k g n (on:=false) (by first|exact c|exact c.trans j) rfl,by omega,d⟩
 refine Sr λ_ b2=>zq rfl rfl (za rfl (zz (b2 ?_)));refine zy rfl ?_ ?_<;>intro d6<;>try simp only[qs] at d6
 ·have o:mode=3:=d6
  have c:upM mode x.neg f A ((nz f+nz (f+1))*B)=x.neg:=by rw[o,up_down]
  refine zR λ_ X=>?_;refine zm rfl (za rfl ?_);refine WL.nil (X _ _ _ (l ?_));refine zc λ_ D=>Sr λ_ b1=>zm rfl (zz (b1 ?_));refine zy rfl ?_ ?_<;>intro I<;>try simp only[qs] at I
  ·have j:x.neg=true:=by simpa using I
   refine zR λ_ V=>?_;refine zm rfl ?_
   first|refine WL.ev (Ev.iX (b:=1) rfl rfl oO) rfl ?_|refine WL.ev (Ev.aaq (b:=1) rfl rfl) rfl ?_
   refine za rfl ?_;refine WL.nil (V _ _ _ (D ?_));refine Sr λ_ b0=>zm rfl (za rfl (zz (b0 ?_)));refine zr (zr1 rfl rfl ?_);exact ⟨f+1,rfl,pX i k g n (on:=true) (by first|exact c|exact c.trans j) rfl,by omega,d⟩
  have j:x.neg=false:=by simpa using I
  refine zkk (D (Sr λ_ a9=>zm rfl (za rfl (zz (a9 ?_)))));refine zr (zr1 rfl rfl ?_);exact ⟨f,rfl,pX i k g n (on:=false) (by first|exact c|exact c.trans j) rfl,by omega,d⟩
 refine Sr λ_ a8=>zq rfl rfl (za rfl (zz (a8 ?_)));refine zy rfl ?_ ?_<;>intro H<;>try simp only[qs] at H
 ·have o:mode=4:=H
  have c:upM mode x.neg f A ((nz f+nz (f+1))*B)=decide (h4<=0):=by rw[<- hM,o,up_away];exact decide_eq_decide.2 d2.symm
  refine zR λ_ U=>?_;refine zm rfl ?_;refine WL.ev (Ev.geq rfl rfl) rfl ?_;refine za rfl ?_;refine WL.nil (U _ _ _ (l ?_));refine zc λ_ C=>Sr λ_ a7=>zm rfl (zz (a7 ?_));refine zy rfl ?_ ?_<;>intro z<;>try simp only[qs] at z
  ·have j:decide (h4<=0)=true:=decide_eq_true (by have:=z;omega);refine zR λ_ T=>?_
   refine zm rfl ?_
   first|refine WL.ev (Ev.iX (b:=1) rfl rfl oO) rfl ?_|refine WL.ev (Ev.aaq (b:=1) rfl rfl) rfl ?_
   refine za rfl ?_;refine WL.nil (T _ _ _ (C ?_));refine Sr λ_ a6=>zm rfl (za rfl (zz (a6 ?_)));refine zr (zr1 rfl rfl ?_);exact ⟨f+1,rfl,pX i k g n (on:=true) (by first|exact c|exact c.trans j) rfl,by omega,d⟩
  have j:decide (h4<=0)=false:=decide_eq_false (by have:=z;omega);refine zkk (C (Sr λ_ a5=>zm rfl (za rfl (zz (a5 ?_)))));refine zr (zr1 rfl rfl ?_);exact ⟨f,rfl,pX i k g n (on:=false) (by first|exact c|exact c.trans j) rfl,by omega,d⟩
 have o:mode=1:=by omega
 have c:upM mode x.neg f A ((nz f+nz (f+1))*B)=false:=by rw[o,up_zero]
 refine zkk (l (zc λ_ a4=>Sr λ_ a3=>zm rfl (zz (a3 ?_))));refine CW.oX rfl ?_;refine zkk (a4 (Sr λ_ a2=>zm rfl (za rfl (zz (a2 ?_)))));refine zr (zr1 rfl rfl ?_);exact ⟨f,rfl,pX i k g n (on:=false) (by first|exact c|exact c.trans j) rfl,by omega,d⟩
theorem r3Round_spec(x:Dy)(vn:Value)(mode:Int)(w:World)(R:NU w vn (wd x.m))(Q:x.ok):Ret Tryz.prog 106 [.agg [.bool x.neg,vn,.int .i64 x.e].toArray,.int .i64 mode] w λu w'=>(∃ bits e,u = .tuple [.float .f64 bits,.int .i64 e].toArray/\cxj (some x) mode bits e)/\Chg [] w w':=by
 have a:=crf w;have b5:=R.one;have b4:=Q.len;refine zE2 Tryz.func106 rfl ?_;refine Sr λ_ Z=>?_;refine zBh rfl rfl rfl a λb2 b1 a2 J a7 H a=>?_;have R:=R.q5 J;refine za rfl (za rfl (zz (Z (zc λ_ Y=>?_))));refine CW.oJ 14 (decide (mode<0\/4<mode)) ?_ ?_
 ·refine zS λ_ t=>zm rfl (zL rfl rfl (zm rfl ?_));refine zb ?_ ?_<;>intro a0<;>try simp only[qs] at a0
  ·refine zv rfl (zv rfl (zt rfl rfl (zz (t ?_))));refine ⟨rfl,rfl,q9.g7 rfl ?_ ?_⟩
   ·first|(simp;omega)|(simp_all;done)|(refine decide_eq_decide.2 ?_;omega)
   exact SMg
  refine zw rfl (zm rfl (zw rfl (zG rfl rfl (ze rfl rfl (zz (t ?_))))));refine ⟨rfl,rfl,q9.g7 rfl ?_ ?_⟩
  ·first|(simp;omega)|(simp_all;done)|(refine decide_eq_decide.2 ?_;omega)
  exact SMg
 refine zy rfl ?_ ?_<;>intro s<;>try simp only[qs] at s
 ·have T:=s
  refine Sr λ_ X=>za rfl (za rfl (zz (X ?_)));refine zr (zr2 rfl rfl rfl ?_);exact ⟨⟨_,_,rfl,.inl ⟨by omega,rfl,rfl⟩⟩,a⟩
 have T:0<=mode/\mode<=4:=by have:=s;omega
 refine zkk (Y (Sr λ_ V=>zg a2 rfl ?_));refine WL.call hasF154 rfl rfl (rQ _ _ _ _ _ R (ok_e Q) oO) λv w1 O=>?_;obtain ⟨hD,i⟩:=O;rw[g6,mX Q] at hD;obtain ⟨rm,d9,a1,rfl,d⟩:=hD.resolve_right (λq=>by cases q.1);cases a1;have b7:=d.one;have a:=a.ta i;refine zm rfl (zx rfl rfl (zx rfl rfl ?_));refine zAh rfl rfl a λb6 b0 c I a6 G a=>?_;have d:=d.q5 I;refine zss rfl rfl ao c rfl λa9 l k=>?_;(try simp only[qt] at l);have a:=a.s1 k;have d:=d.q8 c k an;have c:=l;refine za rfl (zz (V (zc λ_ U=>Sr λ_ F=>zm rfl (zT rfl (zz (F ?_))))));refine CW.oX rfl ?_;refine zkk (U (zc λ_ D=>?_));refine CW.bZ 10 rfl cJ λa4 z g o=>?_;have a:=a.ta o;have c:=c.k0 o;have d:=d.q5 o;have f:=c;refine wh 1 rfl g (eF rfl) (wh 2 rfl g (λ_ h=>Ev.load rfl rfl ((f.q5 h).at_ rfl)) (wh 3 rfl g (eF rfl) (wh 4 rfl g (λ_ h=>Ev.load rfl rfl ((f.q5 h).at_ rfl)) (wh 5 rfl g (eF rfl) (wh 6 rfl g (λ_ h=>Ev.load rfl rfl ((f.q5 h).at_ rfl)) (wh 7 rfl g (eM rfl) ?_))))));refine WH.k6 0 rfl oR hasF162 rfl rfl (byq _) λv w2 O=>?_;obtain ⟨rfl,i⟩:=O;have a:=a.ta i;have c:=c.k0 i;have d:=d.q5 i;have g:=g.trans i;refine ⟨g,?_⟩;refine WH.k6 8 rfl oR hasF184 rfl rfl (dyq x rm mode _ d Q T) λv w3 O=>?_;obtain ⟨r,rfl,M,hr,i⟩:=O;have a:=a.ta i;have c:=c.k0 i;have g:=g.trans i;refine ⟨g,?_⟩;refine wh 9 rfl g (eA rfl) ?_;refine WH.done oR (z _ _ _ ?_);refine D (zc λ_ j=>Sr λ_ C=>zf rfl (zl c rfl rfl (zz (C ?_))));refine zy rfl ?_ ?_<;>intro p<;>try simp only[qs] at p
 ·have n:=p
  refine zR λ_ y=>?_;refine zm rfl ?_
  first|refine WL.ev (Ev.iX (b:=9223372036854775808) rfl rfl oO) rfl ?_|refine WL.ev (Ev.aaq (b:=9223372036854775808) rfl rfl) rfl ?_
  refine za rfl ?_;refine WL.nil (y _ _ _ (j ?_));refine Sr λ_ B=>zm rfl ?_;refine WL.ev (Ev.ext rfl (ext82 _ _)) rfl ?_;refine za rfl (za rfl (zz (B ?_)));refine zr (zr2 rfl rfl rfl ?_);refine ⟨⟨_,_,rfl,.inr ⟨T,.inr ⟨x,r,rfl,M,hr,?_,rfl⟩⟩⟩,a⟩;rw[if_pos n];omega
 have n:x.neg=false:=by simpa using p
 refine zkk (j (Sr λ_ A=>zm rfl ?_));refine WL.ev (Ev.ext rfl (ext82 _ _)) rfl ?_;refine za rfl (za rfl (zz (A ?_)));refine zr (zr2 rfl rfl rfl ?_);refine ⟨⟨_,_,rfl,.inr ⟨T,.inr ⟨x,r,rfl,M,hr,?_,rfl⟩⟩⟩,a⟩;rw[if_neg (by rw[n];exact Bool.false_ne_true)];omega
end
section
open Go Sx Wd Fl
theorem r21Sum_spec(b:Nat)(S:Sh)(mode i j:Int)(w:World)(d:ShM 148 w b S)(a6:S.wf):Ret Tryz.prog 36 [.pointer (some ⟨b,0,none⟩),.int .i64 mode,.agg [.int .i64 i,.int .i64 j].toArray] w λu w'=>(∃ x e,u = .tuple [.float .f64 x,.int .i64 e].toArray/\crx S mode i j x e)/\Chg [] w w':=by
 obtain ⟨rv,rq,f,c,A⟩:=d;obtain ⟨b7,n,T,U,X⟩:=a6;obtain ⟨b4,b3,b2,b1,b0,a9⟩:=b7;have a:=crf w;refine zE3 Tryz.func36 rfl ?_;refine Sr λ_ a5=>?_;refine zBh rfl rfl rfl a λb5 c9 g k c5 Y a=>?_;have c:=c.q5 k;have A:=A.q5 k;have b6:b≠b5:=by have:=f.lt;omega
 have f:=f.q5 k;refine za rfl (za rfl (zz (a5 (Sr λ_ a4=>zm rfl (zm rfl (zg g rfl ?_))))));refine WL.call hasF103 rfl rfl (a3q b S mode i j _ ⟨rv,rq,f,c,A⟩ ⟨⟨b4,b3,b2,b1,b0,a9⟩,n,T,U,X⟩) λv w1 B=>?_;obtain ⟨rfl,h⟩:=B;have a:=a.ta h;have f:=f.q5 h;have g:=g.k0 h;have c:=c.q5 h;refine za rfl (zz (a4 (zc λ_ a3=>Sr λ_ a2=>zm rfl (zN rfl rfl (zz (a2 ?_))))));refine zy rfl ?_ ?_<;>intro y<;>try simp only[qs] at y
 ·have h0:shE S.s mode i j≠0:=y
  refine Sr λ_ a1=>zm rfl (za rfl (za rfl (zz (a1 ?_))));refine zr (zr2 rfl rfl rfl ?_);refine ⟨⟨_,_,rfl,?_⟩,a⟩;exact .inl ⟨h0,rfl,rfl⟩
 have h0:shE S.s mode i j=0:=by have:=y;omega
 refine zkk (a3 (zc λ_ O=>?_));refine CW.bZ 11 rfl cJ λc1 C d l=>?_;have a:=a.ta l;have f:=f.q5 l;have g:=g.k0 l;have c:=c.q5 l;have Z:=f;have z:=g;refine wh 0 rfl d (eM rfl) (wh 1 rfl d (eP rfl) (wh 2 rfl d (eF rfl) (wh 3 rfl d (λ_ o=>Ev.fQ (cs:=[.int .i64 (S.s.na:Int),.int .i64 (S.s.up:Int),.int .i64 (S.s.dn:Int),.int .i64 (S.s.mi:Int),.int .i64 (S.s.pl:Int),.int .i64 (S.s.al:Int)]) rfl rfl (Z.q5 o) rfl rfl) (wh 4 rfl d (λ_ o=>Ev.oQ rfl rfl (z.q5 o) rfl) ?_))));refine WH.k6 5 rfl oR hasF104 rfl rfl (bxj S.s i j _ ⟨by omega,by omega,by omega,by omega,by omega,by omega⟩) λv w2 B=>?_;obtain ⟨rfl,h⟩:=B;have Q:=bqx S.s i j;have a:=a.ta h;have f:=f.q5 h;have c:=c.q5 h;have d:=d.trans h;refine ⟨d,?_⟩;refine wh 6 rfl d (eM rfl) (wh 7 rfl d (eX rfl rfl) (wh 8 rfl d (eX rfl rfl) (wh 9 rfl d (eA rfl) (wh 10 rfl d (eA rfl) ?_))));refine WH.done oR (C _ _ _ ?_);refine O (zc λ_ M=>Sr λ_ J=>zm rfl (zz (J ?_)));refine zy rfl ?_ ?_<;>intro t<;>try simp only[qs] at t
 ·obtain ⟨x,a8,d2,a7⟩ : ∃ x,lQ S.s i j = .some x/\(lQ S.s i j).isSome=true/\(lQ S.s i j).getD 0=x:=Q.resolve_right (λq=>by have:=t;rw[q.2] at this;exact Bool.false_ne_true this);rw[a7]
  refine Sr λ_ I=>zm rfl (za rfl (za rfl (zz (I ?_))));refine zr (zr2 rfl rfl rfl ?_);refine ⟨⟨_,_,rfl,?_⟩,a⟩;exact .inr ⟨h0,.inl ⟨x,a8,rfl,rfl⟩⟩
 have hv:lQ S.s i j = .none:=by
  rcases Q with ⟨_,_,q2,_⟩|q
  · have:=t;rw[q2] at this;exact absurd this oD
  exact q.1
 refine zkk (M (zc λ_ H=>Sr λ_ G=>zm rfl (zP rfl (zf rfl (zf rfl ?_)))));obtain ⟨⟨b9,b8,R,c6,c3⟩,c7,c4⟩:=id c;refine WL.ev (Ev.load (v:=.slice b9 (wd S.V.m).length b8) rfl rfl (by rw[<- R];exact f.at_ rfl)) rfl ?_;refine zn rfl (zq rfl rfl (zz (G ?_)));refine zy rfl ?_ ?_<;>intro r<;>try simp only[qs] at r
 ·have p:S.V.m=0:=rZ.1 (List.length_eq_zero_iff.1 (by have:=r;omega));refine Sr λ_ F=>zm rfl (zP rfl (zf rfl ?_));refine WL.ev (Ev.fQ (cs:=[.int .i64 (S.s.na:Int),.int .i64 (S.s.up:Int),.int .i64 (S.s.dn:Int),.int .i64 (S.s.mi:Int),.int .i64 (S.s.pl:Int),.int .i64 (S.s.al:Int)]) rfl rfl f rfl rfl) rfl ?_
  refine zm rfl ?_;refine WL.call hasF105 rfl rfl (b9q S.s mode _ ⟨by omega,by omega,by omega,by omega,by omega,by omega⟩) λv w3 B=>?_;obtain ⟨rfl,h⟩:=B;have a:=a.ta h;refine za rfl (za rfl (zz (F ?_)));refine zr (zr2 rfl rfl rfl ?_);refine ⟨⟨_,_,rfl,?_⟩,a⟩;exact .inr ⟨h0,.inr ⟨hv,.inl ⟨p,rfl,rfl⟩⟩⟩
 have p:S.V.m≠0:=λq=>by have h9:=r;rw[q,eJ] at h9;exact h9 rfl
 refine zkk (H (Sr λ_ D=>zm rfl (zP rfl (zf rfl ?_))));refine WL.ev (Ev.fQ rfl rfl f rfl rfl) rfl ?_
 try simp only[oL]
 refine zm rfl ?_;refine WL.call hasF106 rfl rfl (r3Round_spec S.V rv mode _ c n) λv w4 B=>?_;obtain ⟨⟨xb,xe,rfl,hR⟩,h⟩:=B;have a:=a.ta h;refine zx rfl rfl (zx rfl rfl (za rfl (za rfl (zz (D ?_)))));refine zr (zr2 rfl rfl rfl ?_);refine ⟨⟨_,_,rfl,?_⟩,a⟩;exact .inr ⟨h0,.inr ⟨hv,.inr ⟨p,hR⟩⟩⟩
def numD(n:Int)(V Q:Dy):Dy:=(crq ((fJ (cZ n) Q).getD Dy.zero) ((fJ V V).getD Dy.zero)).getD Dy.zero
def denD(n less:Int):Dy:=(fJ (cZ n) (cZ (n-less))).getD Dy.zero
def varRefR(S:Sh)(less mode pn pi:Int)(b:Nat)(e:Int):Prop:=
  (¬(less=0\/less=1)/\b=0/\e=1)\/((less=0\/less=1)/\((shE S.s mode pn pi≠0/\b=0/\e=shE S.s mode pn pi)\/(shE S.s mode pn pi=0/\
    ((asj S.s pn pi/\b=9221120237041090560/\e=0)\/(¬asj S.s pn pi/\((S.fin<=less/\b=0/\e=3)\/(less<S.fin/\
      buq (numD S.fin S.V S.Q).neg (denD S.fin less).neg (numD S.fin S.V S.Q).m (denD S.fin less).m (numD S.fin S.V S.Q).e (denD S.fin less).e mode b e)))))))
theorem subD_ok{x y d:Dy}(a:x.ok)(h:crq x y = .some d):d.ok:=by
  unfold crq at h
  cases hf:cQ (!y.neg) y.m y.e with
  | none=>rw[hf] at h;cases h
  | some z=>rw[hf] at h;exact addD_ok a (iJ hf) h
theorem bvx{d:Dy}(h:d.ok):(wd d.m).length<=34359738368:=by have:=h.len;omega
theorem r21Var_spec(b:Nat)(S:Sh)(J mode pn pi:Int)(w:World)(p:ShM 148 w b S)(o8:S.wf):Ret Tryz.prog 38 [.pointer (some ⟨b,0,none⟩),.int .i64 J,.int .i64 mode,.agg [.int .i64 pn,.int .i64 pi].toArray] w λu w'=>(∃ x e,u = .tuple [.float .f64 x,.int .i64 e].toArray/\varRefR S J mode pn pi x e)/\Chg [] w w':=by
 obtain ⟨rv,rq,z,g,i⟩:=p;obtain ⟨p1,U,b5,n1,n2⟩:=o8;obtain ⟨m7,m6,m5,m4,m3,m2⟩:=p1;have f:=crf w;refine zE4 Tryz.func38 rfl ?_;refine Sr λ_ o7=>?_;refine zBh rfl rfl rfl f λb7 r6 d3 e9 r4 n3 f=>?_;have g:=g.q5 e9;have i:=i.q5 e9;have o9:b≠b7:=by have:=z.lt;omega
 have z:=z.q5 e9;refine za rfl (za rfl (zz (o7 (zc λ_ o6=>?_))));refine CW.oJ 26 (decide (¬(J=0\/J=1))) ?_ ?_
 ·refine zS λ_ l0=>zm rfl (zL rfl rfl (zm rfl ?_));refine zb ?_ ?_<;>intro p3<;>try simp only[qs] at p3
  ·refine zv rfl (zv rfl (zt rfl rfl (zz (l0 ?_))));refine ⟨rfl,rfl,q9.g7 rfl ?_ ?_⟩
   ·first|(simp_all;done)|(simp;omega)|(refine decide_eq_decide.2 ?_;omega)
   exact SMg
  refine zw rfl (zm rfl (zw rfl (zG rfl rfl (ze rfl rfl (zz (l0 ?_))))));refine ⟨rfl,rfl,q9.g7 rfl ?_ ?_⟩
  ·first|(simp_all;done)|(simp;omega)|(refine decide_eq_decide.2 ?_;omega)
  exact SMg
 refine zy rfl ?_ ?_<;>intro i2<;>try simp only[qs] at i2
 ·have hl : ¬(J=0\/J=1):=i2
  refine Sr λ_ o5=>za rfl (za rfl (zz (o5 ?_)));refine zr (zr2 rfl rfl rfl ?_);refine ⟨⟨_,_,rfl,?_⟩,f⟩;exact .inl ⟨hl,rfl,rfl⟩
 have hl:J=0\/J=1:=i2;refine zkk (o6 (Sr λ_ o4=>zm rfl (zm rfl (zg d3 rfl ?_))));refine WL.call hasF103 rfl rfl (a3q b S mode pn pi _ ⟨rv,rq,z,g,i⟩ ⟨⟨m7,m6,m5,m4,m3,m2⟩,U,b5,n1,n2⟩) λv w1 h'=>?_;obtain ⟨rfl,j⟩:=h';have f:=f.ta j;have z:=z.q5 j;have d3:=d3.k0 j;have g:=g.q5 j;have i:=i.q5 j;refine za rfl (zz (o4 (zc λ_ o3=>Sr λ_ m1=>zm rfl (zN rfl rfl (zz (m1 ?_))))));refine zy rfl ?_ ?_<;>intro i1<;>try simp only[qs] at i1
 ·have h0:shE S.s mode pn pi≠0:=i1
  refine Sr λ_ m0=>zm rfl (za rfl (za rfl (zz (m0 ?_))));refine zr (zr2 rfl rfl rfl ?_);refine ⟨⟨_,_,rfl,?_⟩,f⟩;exact .inr ⟨hl,.inl ⟨h0,rfl,rfl⟩⟩
 have h0:shE S.s mode pn pi=0:=by have:=i1;omega
 refine zkk (o3 (zc λ_ l9=>?_));refine CW.seqMD 63 (decide (asj S.s pn pi)) ?_ ?_
 ·refine CW.jQ cJ oR λr3 d1 H=>?_;have z:=z.q5 H;have d3:=d3.k0 H;refine ym rfl (yP rfl (yf rfl (yf rfl ?_)));refine WS.ev (Ev.load rfl rfl (z.at_ rfl)) rfl ?_;refine WS.ev (Ev.gtr rfl rfl) rfl ?_;refine ym rfl ?_;refine WS.afq (λh8=>?_) (λh8=>?_)
  ·(try simp only[qs] at h8);refine yw rfl (yf rfl (yw rfl ?_));refine WS.ev (Ev.load rfl rfl (d3.at_ rfl)) rfl ?_
   refine yw rfl ?_;refine WS.ev (Ev.eql rfl rfl) rfl ?_;refine yt rfl rfl (ym rfl ?_);refine WS.afq (λh7=>?_) (λh7=>?_)
   ·(try simp only[qs] at h7);refine yv rfl (yv rfl (yv rfl (yv rfl (yv rfl (yv rfl (yv rfl (yv rfl (yv rfl (yv rfl (yv rfl (yv rfl (yv rfl (yu rfl (yu rfl (yu rfl (yv rfl (yt rfl rfl ?_)))))))))))))))));refine WS.nil (d1 _ _ ?_);refine ⟨rfl,rfl,q9.g7 rfl ?_ ?_⟩
    ·unfold asj;first|exact (decide_eq_true oO).symm|exact (decide_eq_false oO).symm|(simp_all;done)|(refine decide_eq_decide.2 ?_;omega)
    exact SMg
   (try simp only[qs] at h7);refine yw rfl (ym rfl (yw rfl (yP rfl (yw rfl (yf rfl (yw rfl (yf rfl (yw rfl ?_))))))));refine WS.ev (Ev.load rfl rfl (z.at_ rfl)) rfl ?_
   refine yw rfl (ym rfl (yw rfl (yP rfl (yw rfl (yf rfl (yw rfl (yf rfl (yw rfl ?_))))))));refine WS.ev (Ev.load rfl rfl (z.at_ rfl)) rfl ?_;refine yw rfl ?_
   first|refine WS.ev (Ev.jZ rfl rfl oO) rfl ?_|refine WS.ev (Ev.add rfl rfl) rfl ?_
   refine yw rfl ?_;refine WS.ev (Ev.gtr rfl rfl) rfl ?_;refine yw rfl (ym rfl ?_);refine WS.afq (λh6=>?_) (λh6=>?_)
   ·(try simp only[qs] at h6);refine yw rfl (yf rfl (yw rfl ?_));refine WS.ev (Ev.load rfl rfl (d3.at_ rfl)) rfl ?_
    refine yw rfl ?_;refine WS.ev (Ev.eql rfl rfl) rfl ?_;refine yw rfl (yt rfl rfl (ye rfl rfl ?_));refine WS.nil (d1 _ _ ?_);refine ⟨rfl,rfl,q9.g7 rfl ?_ ?_⟩
    ·unfold asj;first|exact (decide_eq_true oO).symm|exact (decide_eq_false oO).symm|(simp_all;done)|(refine decide_eq_decide.2 ?_;omega)
    exact SMg
   (try simp only[qs] at h6);refine yv rfl (yv rfl (yv rfl (yw rfl (ye rfl rfl (ye rfl rfl ?_)))));refine WS.nil (d1 _ _ ?_);refine ⟨rfl,rfl,q9.g7 rfl ?_ ?_⟩
   ·unfold asj;first|exact (decide_eq_true oO).symm|exact (decide_eq_false oO).symm|(simp_all;done)|(refine decide_eq_decide.2 ?_;omega)
   exact SMg
  (try simp only[qs] at h8);refine yv rfl (yv rfl (yv rfl (ye rfl rfl (ym rfl (yw rfl (ym rfl (yw rfl (yP rfl (yw rfl (yf rfl (yw rfl (yf rfl (yw rfl ?_)))))))))))));refine WS.ev (Ev.load rfl rfl (z.at_ rfl)) rfl ?_
  refine yw rfl (ym rfl (yw rfl (yP rfl (yw rfl (yf rfl (yw rfl (yf rfl (yw rfl ?_))))))));refine WS.ev (Ev.load rfl rfl (z.at_ rfl)) rfl ?_;refine yw rfl ?_
  first|refine WS.ev (Ev.jZ rfl rfl oO) rfl ?_|refine WS.ev (Ev.add rfl rfl) rfl ?_
  refine yw rfl ?_;refine WS.ev (Ev.gtr rfl rfl) rfl ?_;refine yw rfl (ym rfl ?_);refine WS.afq (λh5=>?_) (λh5=>?_)
  ·(try simp only[qs] at h5);refine yw rfl (yf rfl (yw rfl ?_));refine WS.ev (Ev.load rfl rfl (d3.at_ rfl)) rfl ?_
   refine yw rfl ?_;refine WS.ev (Ev.eql rfl rfl) rfl ?_;refine yw rfl (yt rfl rfl (ye rfl rfl ?_));refine WS.nil (d1 _ _ ?_);refine ⟨rfl,rfl,q9.g7 rfl ?_ ?_⟩
   ·unfold asj;first|exact (decide_eq_true oO).symm|exact (decide_eq_false oO).symm|(simp_all;done)|(refine decide_eq_decide.2 ?_;omega)
   exact SMg
  (try simp only[qs] at h5);refine yv rfl (yv rfl (yv rfl (yw rfl (ye rfl rfl (ye rfl rfl ?_)))));refine WS.nil (d1 _ _ ?_);refine ⟨rfl,rfl,q9.g7 rfl ?_ ?_⟩
  ·unfold asj;first|exact (decide_eq_true oO).symm|exact (decide_eq_false oO).symm|(simp_all;done)|(refine decide_eq_decide.2 ?_;omega)
  exact SMg
 intro H;have f:=f.ta H;have z:=z.q5 H;have g:=g.q5 H;have i:=i.q5 H;refine zy rfl ?_ ?_<;>intro i0<;>try simp only[qs] at i0
 ·have n6:asj S.s pn pi:=i0
  refine Sr λ_ l8=>?_;refine WL.call hasF110 rfl rfl (bqj _) λv w2 h'=>?_;obtain ⟨rfl,rfl⟩:=h';refine za rfl (za rfl (zz (l8 ?_)));refine zr (zr2 rfl rfl rfl ?_);refine ⟨⟨_,_,rfl,?_⟩,f⟩;exact .inr ⟨hl,.inr ⟨h0,.inl ⟨n6,rfl,rfl⟩⟩⟩
 have n5 : ¬asj S.s pn pi:=i0;refine zkk (l9 (Sr λ_ l7=>zm rfl (zP rfl (zf rfl ?_))));refine WL.ev (Ev.fQ (cs:=[.int .i64 (S.s.na:Int),.int .i64 (S.s.up:Int),.int .i64 (S.s.dn:Int),.int .i64 (S.s.mi:Int),.int .i64 (S.s.pl:Int),.int .i64 (S.s.al:Int)]) rfl rfl z rfl rfl) rfl ?_;refine WL.call hasF107 rfl rfl (avx S.s _ ⟨m7,m6,m5,m4,m3,m2⟩) λv w3 h'=>?_;obtain ⟨rfl,j⟩:=h';rw[show ((S.s.al:Int)-S.s.na-S.s.up-S.s.dn)=S.fin from rfl];have f:=f.ta j;have z:=z.q5 j;have g:=g.q5 j;have i:=i.q5 j;refine za rfl (zz (l7 (zc λ_ l6=>Sr λ_ l5=>zm rfl (zm rfl (zQ rfl rfl (zz (l5 ?_)))))));refine zy rfl ?_ ?_<;>intro h9<;>try simp only[qs] at h9
 ·have hf:S.fin<=J:=h9
  refine Sr λ_ l4=>za rfl (za rfl (zz (l4 ?_)));refine zr (zr2 rfl rfl rfl ?_);refine ⟨⟨_,_,rfl,?_⟩,f⟩;exact .inr ⟨hl,.inr ⟨h0,.inr ⟨n5,.inl ⟨hf,rfl,rfl⟩⟩⟩⟩
 have hf:J<S.fin:=by have:=h9;omega
 obtain ⟨A,hA⟩ : ∃ A,A=(fJ (cZ S.fin) S.Q).getD Dy.zero:=⟨_,rfl⟩;obtain ⟨B,hB⟩ : ∃ B,B=(fJ S.V S.V).getD Dy.zero:=⟨_,rfl⟩;obtain ⟨C,f5⟩ : ∃ C,C=(crq A B).getD Dy.zero:=⟨_,rfl⟩;obtain ⟨E,hE⟩ : ∃ E,E=(fJ (cZ S.fin) (cZ (S.fin-J))).getD Dy.zero:=⟨_,rfl⟩;have d5:A.ok:=hA ▸ tX λd h=>mQ h;have g5:B.ok:=hB ▸ tX λd h=>mQ h;have g3:E.ok:=hE ▸ tX λd h=>mQ h;have g4:C.ok:=f5 ▸ tX (x:=crq A B) λd h=>subD_ok d5 h;have n0:numD S.fin S.V S.Q=C:=by unfold numD;rw[<- hA,<- hB,f5]
 have n4:denD S.fin J=E:=by unfold denD;rw[hE]
 refine zkk (l6 (Sr λ_ l3=>zm rfl ?_));refine WL.call hasF109 rfl rfl (a8j (S.fin) _ (by unfold Sh.fin;omega)) λv w4 h'=>?_;obtain ⟨⟨rn,rfl,c⟩,j⟩:=h';have I:(cZ (S.fin)).ok:=wZ (by unfold Sh.fin;omega);have e5:=c.one;have f:=f.ta j;have z:=z.q5 j;have g:=g.q5 j;have i:=i.q5 j;refine zAh rfl rfl f λd4 q6 a c9 p2 i9 f=>?_;have g:=g.q5 c9;have i:=i.q5 c9;have c:=c.q5 c9;have n9:b≠d4:=by have:=z.lt;omega
 have z:=z.q5 c9;refine zss rfl rfl ao a rfl λq3 f1 b6=>?_;(try simp only[qt] at f1);have f:=f.s1 b6;have z:=z.kq b6;have g:=g.q8 a b6 an;have i:=i.q8 a b6 an;have c:=c.q8 a b6 an;have a:=f1;refine zz (l3 ?_);refine CW.anx (λD s' w'=>D=[]/\∃ (b0:Nat) (ra:Value),BK w' b 148 [.int .i64 (S.s.na:Int),.int .i64 (S.s.up:Int),.int .i64 (S.s.dn:Int),.int .i64 (S.s.mi:Int),.int .i64 (S.s.pl:Int),.int .i64 (S.s.al:Int),.bool S.V.neg,rv,.int .i64 S.V.e,.bool S.Q.neg,rq,.int .i64 S.Q.e,.float .f64 S.lo,.float .f64 S.hi]/\NU w' rv (wd S.V.m)/\NU w' rq (wd S.Q.m)/\BK w' d4 89 [.bool (cZ S.fin).neg,rn,.int .i64 (cZ S.fin).e]/\NU w' rn (wd (cZ S.fin).m)/\BK w' b0 89 [.bool A.neg,ra,.int .i64 A.e]/\NU w' ra (wd A.m)/\Chg [] w w'/\q9 [(0,.pointer (some ⟨b,0,none⟩)),(1,.int .i64 J),(2,.int .i64 mode),(11,.int .i64 S.fin),(12,.pointer (some ⟨d4,0,none⟩)),(13,.pointer (some ⟨b0,0,none⟩))] s') ?_ ?_
 ·refine CW.bZ 12 rfl cJ λr2 g1 p H=>?_;have f:=f.ta H;have z:=z.q5 H;have a:=a.k0 H;have g:=g.q5 H;have i:=i.q5 H;have c:=c.q5 H;have d7:=z;have d0:=a;refine wh 0 rfl p (λ_ c6=>Ev.oQ rfl rfl (d0.q5 c6) rfl) (wh 1 rfl p (eM rfl) (wh 2 rfl p (eP rfl) (wh 3 rfl p (eF rfl) (wh 4 rfl p (λ_ c6=>Ev.fQ rfl rfl (d7.q5 c6) rfl rfl) ?_))))
  try simp only[oL]
  refine WH.c2j 5 9 oR ?_ ?_
  ·refine ahj.call 5 rfl hasF96 rfl rfl (sX _ _ _ _ _ _ _ _ _ c i (aJ I) (aJ b5) (bvx I) (bvx b5)) λv w5 h'=>?_;obtain ⟨hD,j⟩:=h';rw[jX I b5] at hD;obtain ⟨ra,o2,rfl,y⟩:=hD.cells;rw[<- hA] at y;rw[<- hA];have e7:=y.one;have f:=f.ta j;have z:=z.q5 j;have a:=a.k0 j;have g:=g.q5 j;have i:=i.q5 j;have c:=c.q5 j;have p:=p.trans j;refine ⟨p,?_⟩;refine wh 6 rfl p (eM rfl) (wh 7 rfl p (eX rfl rfl) (wh 8 rfl p (eX rfl rfl) ?_));refine WH.vZ (l:=[.bool false,.slice none 0 0,.int .i64 0]) 9 rfl oR p rfl rfl λb0 k4 n M a6 b3=>?_;have c8:=Nat.le_trans p.size a6;have p:=b3;have e3:=Nat.le_trans f.size a6;have f:=f.ta M;have g:=g.q5 M;have i:=i.q5 M;have c:=c.q5 M;have y:=y.q5 M;have f4:b≠b0:=by have:=z.lt;omega
   have z:=z.q5 M;have e1:=zdd a.lt a6;have a:=a.k0 M;refine WH.sQ 10 rfl oR p c8 rfl rfl rfl ao n oS rfl λq2 b9 a8 p=>?_;(try simp only[qt] at b9);have f:=f.s1 a8;have z:=z.kq a8;have a:=a.kq a8;have g:=g.q8 n a8 an;have i:=i.q8 n a8 an;have c:=c.q8 n a8 an;have y:=y.q8 n a8 an;have n:=b9;refine wh 11 rfl p (eA rfl) ?_;refine WH.done oR (g1 _ _ _ ?_);exact ⟨rfl,b0,ra,z,g,i,a,c,n,y,f,(by first|((repeat (first|exact q9.refl|refine q9.nJ (by rfl) ?_));done)|((repeat (first|exact q9.nil|refine q9.cons rfl ?_));done))⟩
  refine ahj.vZ (l:=[.bool false,.slice none 0 0,.int .i64 0]) 9 rfl p rfl rfl λb0 k4 n M a6 b3=>?_;have c8:=Nat.le_trans p.size a6;have p:=b3;have e3:=Nat.le_trans f.size a6;have f:=f.ta M;have g:=g.q5 M;have i:=i.q5 M;have c:=c.q5 M;have f4:b≠b0:=by have:=z.lt;omega
  have z:=z.q5 M;have e1:=zdd a.lt a6;have a:=a.k0 M;refine WH.k6 5 rfl oR hasF96 rfl rfl (sX _ _ _ _ _ _ _ _ _ c i (aJ I) (aJ b5) (bvx I) (bvx b5)) λv w6 h'=>?_;obtain ⟨hD,j⟩:=h';rw[jX I b5] at hD;obtain ⟨ra,o2,rfl,y⟩:=hD.cells;rw[<- hA] at y;rw[<- hA];have e7:=y.one;have f:=f.ta j;have z:=z.q5 j;have a:=a.k0 j;have n:=n.k0 j;have g:=g.q5 j;have i:=i.q5 j;have c:=c.q5 j;have p:=p.trans j;refine ⟨p,?_⟩;refine wh 6 rfl p (eM rfl) (wh 7 rfl p (eX rfl rfl) (wh 8 rfl p (eX rfl rfl) ?_));refine WH.sQ 10 rfl oR p c8 rfl rfl rfl ao n oS rfl λq1 b9 a7 p=>?_;(try simp only[qt] at b9);have f:=f.s1 a7;have z:=z.kq a7;have a:=a.kq a7;have g:=g.q8 n a7 an;have i:=i.q8 n a7 an;have c:=c.q8 n a7 an;have y:=y.q8 n a7 an;have n:=b9;refine wh 11 rfl p (eA rfl) ?_;refine WH.done oR (g1 _ _ _ ?_);exact ⟨rfl,b0,ra,z,g,i,a,c,n,y,f,(by first|((repeat (first|exact q9.refl|refine q9.nJ (by rfl) ?_));done)|((repeat (first|exact q9.nil|refine q9.cons rfl ?_));done))⟩
 rintro _ s' wJ ⟨rfl,b0,ra,z,g,i,a,c,n,y,f,d2⟩;refine CW.sub d2 ?_;have e5:=c.one;have e7:=y.one;refine CW.anx (λD s' w'=>D=[]/\∃ (b0:Nat) (ra:Value) (c2:Nat) (rb:Value),BK w' b 148 [.int .i64 (S.s.na:Int),.int .i64 (S.s.up:Int),.int .i64 (S.s.dn:Int),.int .i64 (S.s.mi:Int),.int .i64 (S.s.pl:Int),.int .i64 (S.s.al:Int),.bool S.V.neg,rv,.int .i64 S.V.e,.bool S.Q.neg,rq,.int .i64 S.Q.e,.float .f64 S.lo,.float .f64 S.hi]/\NU w' rv (wd S.V.m)/\NU w' rq (wd S.Q.m)/\BK w' d4 89 [.bool (cZ S.fin).neg,rn,.int .i64 (cZ S.fin).e]/\NU w' rn (wd (cZ S.fin).m)/\BK w' b0 89 [.bool A.neg,ra,.int .i64 A.e]/\NU w' ra (wd A.m)/\BK w' c2 89 [.bool B.neg,rb,.int .i64 B.e]/\NU w' rb (wd B.m)/\Chg [] w w'/\q9 [(0,.pointer (some ⟨b,0,none⟩)),(1,.int .i64 J),(2,.int .i64 mode),(11,.int .i64 S.fin),(12,.pointer (some ⟨d4,0,none⟩)),(13,.pointer (some ⟨b0,0,none⟩)),(15,.pointer (some ⟨c2,0,none⟩))] s') ?_ ?_
 ·refine CW.bZ 15 rfl cJ λr1 g0 p H=>?_;have f:=f.ta H;have z:=z.q5 H;have a:=a.k0 H;have n:=n.k0 H;have g:=g.q5 H;have i:=i.q5 H;have c:=c.q5 H;have y:=y.q5 H;have d7:=z;refine wh 0 rfl p (eM rfl) (wh 1 rfl p (eP rfl) (wh 2 rfl p (eF rfl) (wh 3 rfl p (λ_ c6=>Ev.fQ rfl rfl (d7.q5 c6) rfl rfl) ?_)))
  try simp only[oL]
  refine wh 4 rfl p (eM rfl) (wh 5 rfl p (eP rfl) (wh 6 rfl p (eF rfl) (wh 7 rfl p (λ_ c6=>Ev.fQ rfl rfl (d7.q5 c6) rfl rfl) ?_)))
  try simp only[oL]
  refine WH.c2j 8 12 oR ?_ ?_
  ·refine ahj.call 8 rfl hasF96 rfl rfl (sX _ _ _ _ _ _ _ _ _ g g (aJ U) (aJ U) (bvx U) (bvx U)) λv w7 h'=>?_;obtain ⟨hD,j⟩:=h';rw[jX U U] at hD;obtain ⟨rb,o0,rfl,O⟩:=hD.cells;rw[<- hB] at O;rw[<- hB];have g2:=O.one;have f:=f.ta j;have z:=z.q5 j;have a:=a.k0 j;have n:=n.k0 j;have g:=g.q5 j;have i:=i.q5 j;have c:=c.q5 j;have y:=y.q5 j;have p:=p.trans j;refine ⟨p,?_⟩;refine wh 9 rfl p (eM rfl) (wh 10 rfl p (eX rfl rfl) (wh 11 rfl p (eX rfl rfl) ?_));refine WH.vZ (l:=[.bool false,.slice none 0 0,.int .i64 0]) 12 rfl oR p rfl rfl λc2 k3 r F X b3=>?_;have c7:=Nat.le_trans p.size X;have p:=b3;have e2:=Nat.le_trans f.size X;have f:=f.ta F;have g:=g.q5 F;have i:=i.q5 F;have c:=c.q5 F;have y:=y.q5 F;have O:=O.q5 F;have f3:b≠c2:=by have:=z.lt;omega
   have z:=z.q5 F;have e0:=zdd a.lt X;have a:=a.k0 F;have d9:=zdd n.lt X;have n:=n.k0 F;refine WH.sQ 13 rfl oR p c7 rfl rfl rfl ao r oS rfl λq0 b8 a2 p=>?_;(try simp only[qt] at b8);have f:=f.s1 a2;have z:=z.kq a2;have a:=a.kq a2;have n:=n.kq a2;have g:=g.q8 r a2 an;have i:=i.q8 r a2 an;have c:=c.q8 r a2 an;have y:=y.q8 r a2 an;have O:=O.q8 r a2 an;have r:=b8;refine wh 14 rfl p (eA rfl) ?_;refine WH.done oR (g0 _ _ _ ?_);exact ⟨rfl,b0,ra,c2,rb,z,g,i,a,c,n,y,r,O,f,(by first|((repeat (first|exact q9.refl|refine q9.nJ (by rfl) ?_));done)|((repeat (first|exact q9.nil|refine q9.cons rfl ?_));done))⟩
  refine ahj.vZ (l:=[.bool false,.slice none 0 0,.int .i64 0]) 12 rfl p rfl rfl λc2 k3 r F X b3=>?_;have c7:=Nat.le_trans p.size X;have p:=b3;have e2:=Nat.le_trans f.size X;have f:=f.ta F;have g:=g.q5 F;have i:=i.q5 F;have c:=c.q5 F;have y:=y.q5 F;have f3:b≠c2:=by have:=z.lt;omega
  have z:=z.q5 F;have e0:=zdd a.lt X;have a:=a.k0 F;have d9:=zdd n.lt X;have n:=n.k0 F;refine WH.k6 8 rfl oR hasF96 rfl rfl (sX _ _ _ _ _ _ _ _ _ g g (aJ U) (aJ U) (bvx U) (bvx U)) λv w8 h'=>?_;obtain ⟨hD,j⟩:=h';rw[jX U U] at hD;obtain ⟨rb,o0,rfl,O⟩:=hD.cells;rw[<- hB] at O;rw[<- hB];have g2:=O.one;have f:=f.ta j;have z:=z.q5 j;have a:=a.k0 j;have n:=n.k0 j;have r:=r.k0 j;have g:=g.q5 j;have i:=i.q5 j;have c:=c.q5 j;have y:=y.q5 j;have p:=p.trans j;refine ⟨p,?_⟩;refine wh 9 rfl p (eM rfl) (wh 10 rfl p (eX rfl rfl) (wh 11 rfl p (eX rfl rfl) ?_));refine WH.sQ 13 rfl oR p c7 rfl rfl rfl ao r oS rfl λp9 b8 a1 p=>?_;(try simp only[qt] at b8);have f:=f.s1 a1;have z:=z.kq a1;have a:=a.kq a1;have n:=n.kq a1;have g:=g.q8 r a1 an;have i:=i.q8 r a1 an;have c:=c.q8 r a1 an;have y:=y.q8 r a1 an;have O:=O.q8 r a1 an;have r:=b8;refine wh 14 rfl p (eA rfl) ?_;refine WH.done oR (g0 _ _ _ ?_);exact ⟨rfl,b0,ra,c2,rb,z,g,i,a,c,n,y,r,O,f,(by first|((repeat (first|exact q9.refl|refine q9.nJ (by rfl) ?_));done)|((repeat (first|exact q9.nil|refine q9.cons rfl ?_));done))⟩
 rintro _ s' wJ ⟨rfl,b0,ra,c2,rb,z,g,i,a,c,n,y,r,O,f,d2⟩;refine CW.sub d2 ?_;have e5:=c.one;have e7:=y.one;have g2:=O.one;refine Sr λ_ l2=>zg n rfl (zg r rfl ?_);refine WL.call hasF111 rfl rfl (r3Sub_spec _ _ _ _ _ _ _ _ _ y O (aJ d5) (aJ g5) (bvx d5) (bvx g5)) λv w9 h'=>?_;obtain ⟨hD,j⟩:=h';rw[g6,g6,mX d5] at hD;obtain ⟨rc,kc,rfl,q⟩:=DR.cells (x:=crq A B) hD;rw[<- f5] at q;rw[<- f5];have m9:=q.one;have f:=f.ta j;have z:=z.q5 j;have a:=a.k0 j;have r:=r.k0 j;have g:=g.q5 j;have i:=i.q5 j;have c:=c.q5 j;refine zm rfl (zx rfl rfl (zx rfl rfl ?_));refine zAh rfl rfl f λc1 q4 k a9 e8 i8 f=>?_;have g:=g.q5 a9;have i:=i.q5 a9;have c:=c.q5 a9;have q:=q.q5 a9;have n8:b≠c1:=by have:=z.lt;omega
 have z:=z.q5 a9;have i6:=zdd a.lt e8;have a:=a.k0 a9;have i5:=zdd r.lt e8;have r:=r.k0 a9;refine zss rfl rfl ao k rfl λp8 f0 a3=>?_;(try simp only[qt] at f0);have f:=f.s1 a3;have z:=z.kq a3;have a:=a.kq a3;have r:=r.kq a3;have g:=g.q8 k a3 an;have i:=i.q8 k a3 an;have c:=c.q8 k a3 an;have q:=q.q8 k a3 an;have k:=f0;refine za rfl (zz (l2 ?_));refine CW.anx (λD s' w'=>D=[]/\∃ (c1:Nat) (rc:Value) (a5:Nat) (rd:Value),BK w' b 148 [.int .i64 (S.s.na:Int),.int .i64 (S.s.up:Int),.int .i64 (S.s.dn:Int),.int .i64 (S.s.mi:Int),.int .i64 (S.s.pl:Int),.int .i64 (S.s.al:Int),.bool S.V.neg,rv,.int .i64 S.V.e,.bool S.Q.neg,rq,.int .i64 S.Q.e,.float .f64 S.lo,.float .f64 S.hi]/\NU w' rv (wd S.V.m)/\NU w' rq (wd S.Q.m)/\BK w' d4 89 [.bool (cZ S.fin).neg,rn,.int .i64 (cZ S.fin).e]/\NU w' rn (wd (cZ S.fin).m)/\BK w' c1 89 [.bool C.neg,rc,.int .i64 C.e]/\NU w' rc (wd C.m)/\BK w' a5 89 [.bool E.neg,rd,.int .i64 E.e]/\NU w' rd (wd E.m)/\Chg [] w w'/\q9 [(0,.pointer (some ⟨b,0,none⟩)),(1,.int .i64 J),(2,.int .i64 mode),(11,.int .i64 S.fin),(12,.pointer (some ⟨d4,0,none⟩)),(17,.pointer (some ⟨c1,0,none⟩)),(19,.pointer (some ⟨a5,0,none⟩))] s') ?_ ?_
 ·refine CW.bZ 12 rfl cJ λr0 e4 p H=>?_;have f:=f.ta H;have z:=z.q5 H;have a:=a.k0 H;have r:=r.k0 H;have k:=k.k0 H;have g:=g.q5 H;have i:=i.q5 H;have c:=c.q5 H;have q:=q.q5 H;have d0:=a;refine wh 0 rfl p (λ_ c6=>Ev.oQ rfl rfl (d0.q5 c6) rfl) (wh 1 rfl p (eM rfl) (wh 2 rfl p (eM rfl) (wh 3 rfl p (λ_ _=>Ev.dX rfl rfl (by unfold Sh.fin at *;omega)) ?_)));refine WH.c2j 4 9 oR ?_ ?_
  ·refine ahj.call 4 rfl hasF109 rfl rfl (a8j (S.fin-J) _ (by unfold Sh.fin at *;omega)) λv s3 h'=>?_;obtain ⟨⟨rm,rfl,b4⟩,j⟩:=h';have T:(cZ (S.fin-J)).ok:=wZ (by unfold Sh.fin at *;omega);have m8:=b4.one;have f:=f.ta j;have z:=z.q5 j;have a:=a.k0 j;have r:=r.k0 j;have k:=k.k0 j;have g:=g.q5 j;have i:=i.q5 j;have c:=c.q5 j;have q:=q.q5 j;have p:=p.trans j;refine ⟨p,?_⟩;refine WH.c2j 5 9 oR ?_ ?_
   ·refine ahj.call 5 rfl hasF96 rfl rfl (sX _ _ _ _ _ _ _ _ _ c b4 (aJ I) (aJ T) (bvx I) (bvx T)) λv s0 h'=>?_;obtain ⟨hD,j⟩:=h';rw[jX I T] at hD;obtain ⟨rd,k5,rfl,G⟩:=hD.cells;rw[<- hE] at G;rw[<- hE];have e6:=G.one;have f:=f.ta j;have z:=z.q5 j;have a:=a.k0 j;have r:=r.k0 j;have k:=k.k0 j;have g:=g.q5 j;have i:=i.q5 j;have c:=c.q5 j;have q:=q.q5 j;have p:=p.trans j;refine ⟨p,?_⟩;refine wh 6 rfl p (eM rfl) (wh 7 rfl p (eX rfl rfl) (wh 8 rfl p (eX rfl rfl) ?_));refine WH.vZ (l:=[.bool false,.slice none 0 0,.int .i64 0]) 9 rfl oR p rfl rfl λa5 f6 t o R b3=>?_;have b1:=Nat.le_trans p.size R;have p:=b3;have c5:=Nat.le_trans f.size R;have f:=f.ta o;have g:=g.q5 o;have i:=i.q5 o;have c:=c.q5 o;have q:=q.q5 o;have G:=G.q5 o;have d6:b≠a5:=by have:=z.lt;omega
    have z:=z.q5 o;have c4:=zdd a.lt R;have a:=a.k0 o;have i4:c2≠a5:=by have:=r.lt;omega
    have c3:c1≠a5:=by have:=k.lt;omega
    have k:=k.k0 o;refine WH.sQ 10 rfl oR p b1 rfl rfl rfl ao t oS rfl λp7 a4 a0 p=>?_;(try simp only[qt] at a4);have f:=f.s1 a0;have z:=z.kq a0;have a:=a.kq a0;have k:=k.kq a0;have g:=g.q8 t a0 an;have i:=i.q8 t a0 an;have c:=c.q8 t a0 an;have q:=q.q8 t a0 an;have G:=G.q8 t a0 an;have t:=a4;refine wh 11 rfl p (eA rfl) ?_;refine WH.done oR (e4 _ _ _ ?_);exact ⟨rfl,c1,rc,a5,rd,z,g,i,a,c,k,q,t,G,f,(by first|((repeat (first|exact q9.refl|refine q9.nJ (by rfl) ?_));done)|((repeat (first|exact q9.nil|refine q9.cons rfl ?_));done))⟩
   refine ahj.vZ (l:=[.bool false,.slice none 0 0,.int .i64 0]) 9 rfl p rfl rfl λa5 f6 t o R b3=>?_;have b1:=Nat.le_trans p.size R;have p:=b3;have c5:=Nat.le_trans f.size R;have f:=f.ta o;have g:=g.q5 o;have i:=i.q5 o;have c:=c.q5 o;have q:=q.q5 o;have b4:=b4.q5 o;have d6:b≠a5:=by have:=z.lt;omega
   have z:=z.q5 o;have c4:=zdd a.lt R;have a:=a.k0 o;have c3:c1≠a5:=by have:=k.lt;omega
   have k:=k.k0 o;refine WH.k6 5 rfl oR hasF96 rfl rfl (sX _ _ _ _ _ _ _ _ _ c b4 (aJ I) (aJ T) (bvx I) (bvx T)) λv w12 h'=>?_;obtain ⟨hD,j⟩:=h';rw[jX I T] at hD;obtain ⟨rd,k5,rfl,G⟩:=hD.cells;rw[<- hE] at G;rw[<- hE];have e6:=G.one;have f:=f.ta j;have z:=z.q5 j;have a:=a.k0 j;have k:=k.k0 j;have t:=t.k0 j;have g:=g.q5 j;have i:=i.q5 j;have c:=c.q5 j;have q:=q.q5 j;have p:=p.trans j;refine ⟨p,?_⟩;refine wh 6 rfl p (eM rfl) (wh 7 rfl p (eX rfl rfl) (wh 8 rfl p (eX rfl rfl) ?_));refine WH.sQ 10 rfl oR p b1 rfl rfl rfl ao t oS rfl λp6 a4 Z p=>?_;(try simp only[qt] at a4);have f:=f.s1 Z;have z:=z.kq Z;have a:=a.kq Z;have k:=k.kq Z;have g:=g.q8 t Z an;have i:=i.q8 t Z an;have c:=c.q8 t Z an;have q:=q.q8 t Z an;have G:=G.q8 t Z an;have t:=a4;refine wh 11 rfl p (eA rfl) ?_;refine WH.done oR (e4 _ _ _ ?_);exact ⟨rfl,c1,rc,a5,rd,z,g,i,a,c,k,q,t,G,f,(by first|((repeat (first|exact q9.refl|refine q9.nJ (by rfl) ?_));done)|((repeat (first|exact q9.nil|refine q9.cons rfl ?_));done))⟩
  refine ahj.vZ (l:=[.bool false,.slice none 0 0,.int .i64 0]) 9 rfl p rfl rfl λa5 f6 t o R b3=>?_;have b1:=Nat.le_trans p.size R;have p:=b3;have c5:=Nat.le_trans f.size R;have f:=f.ta o;have g:=g.q5 o;have i:=i.q5 o;have c:=c.q5 o;have q:=q.q5 o;have d6:b≠a5:=by have:=z.lt;omega
  have z:=z.q5 o;have c4:=zdd a.lt R;have a:=a.k0 o;have c3:c1≠a5:=by have:=k.lt;omega
  have k:=k.k0 o;refine WH.k6 4 rfl oR hasF109 rfl rfl (a8j (S.fin-J) _ (by unfold Sh.fin at *;omega)) λv r9 h'=>?_;obtain ⟨⟨rm,rfl,b4⟩,j⟩:=h';have T:(cZ (S.fin-J)).ok:=wZ (by unfold Sh.fin at *;omega);have m8:=b4.one;have f:=f.ta j;have z:=z.q5 j;have a:=a.k0 j;have k:=k.k0 j;have t:=t.k0 j;have g:=g.q5 j;have i:=i.q5 j;have c:=c.q5 j;have q:=q.q5 j;have p:=p.trans j;refine ⟨p,?_⟩;refine WH.k6 5 rfl oR hasF96 rfl rfl (sX _ _ _ _ _ _ _ _ _ c b4 (aJ I) (aJ T) (bvx I) (bvx T)) λv r8 h'=>?_;obtain ⟨hD,j⟩:=h';rw[jX I T] at hD;obtain ⟨rd,k5,rfl,G⟩:=hD.cells;rw[<- hE] at G;rw[<- hE];have e6:=G.one;have f:=f.ta j;have z:=z.q5 j;have a:=a.k0 j;have k:=k.k0 j;have t:=t.k0 j;have g:=g.q5 j;have i:=i.q5 j;have c:=c.q5 j;have q:=q.q5 j;have p:=p.trans j;refine ⟨p,?_⟩;refine wh 6 rfl p (eM rfl) (wh 7 rfl p (eX rfl rfl) (wh 8 rfl p (eX rfl rfl) ?_));refine WH.sQ 10 rfl oR p b1 rfl rfl rfl ao t oS rfl λp5 a4 Y p=>?_;(try simp only[qt] at a4);have f:=f.s1 Y;have z:=z.kq Y;have a:=a.kq Y;have k:=k.kq Y;have g:=g.q8 t Y an;have i:=i.q8 t Y an;have c:=c.q8 t Y an;have q:=q.q8 t Y an;have G:=G.q8 t Y an;have t:=a4;refine wh 11 rfl p (eA rfl) ?_;refine WH.done oR (e4 _ _ _ ?_);exact ⟨rfl,c1,rc,a5,rd,z,g,i,a,c,k,q,t,G,f,(by first|((repeat (first|exact q9.refl|refine q9.nJ (by rfl) ?_));done)|((repeat (first|exact q9.nil|refine q9.cons rfl ?_));done))⟩
 rintro _ s' wJ ⟨rfl,c1,rc,a5,rd,z,g,i,a,c,k,q,t,G,f,d2⟩;refine CW.sub d2 ?_;have e5:=c.one;have m9:=q.one;have e6:=G.one;refine Sr λ_ l1=>zg k rfl (zg t rfl ?_);refine WL.ev (Ev.build (vs:=_) (cs:=[_,_,_,_,_,_]) rfl rfl) rfl ?_;refine zm rfl ?_;refine WL.call hasF108 rfl rfl (clj _ _ _ _ _ _ _ _ mode _ q G (aJ g4) (aJ g3) (bvx g4) (bvx g3)) λv r7 h'=>?_;obtain ⟨⟨xb,xe,rfl,hR⟩,j⟩:=h';rw[g6,g6] at hR;have f:=f.ta j;refine zx rfl rfl (zx rfl rfl (za rfl (za rfl (zz (l1 ?_)))));refine zr (zr2 rfl rfl rfl ?_);refine ⟨⟨_,_,rfl,?_⟩,f⟩;refine .inr ⟨hl,.inr ⟨h0,.inr ⟨n5,.inr ⟨hf,?_⟩⟩⟩⟩;rw[n0,n4];exact hR
def leB(n k:Nat):List Nat:=(List.range k).map λi=>n/256^i%256
theorem leB_zero(n:Nat):leB n 0=[]:=rfl
theorem dox(n k:Nat):leB n (k+1)=leB n k++[n/256^k%256]:=by unfold leB;rw[List.range_succ,List.map_append];rfl
theorem fZ(n k:Nat):(leB n k).length=k:=by unfold leB;rw[List.length_map,List.length_range]
def aej(d:Dy):List Nat:=leB (if d.neg=true then 1 else 0) 1++leB (d.e+4096).toNat 2++leB (wd d.m).length 2++((wd d.m).map λx=>leB x 4).flatten
def adx(S:Sh):List Nat:=leB S.s.na 8++leB S.s.up 8++leB S.s.dn 8++leB S.s.mi 8++leB S.s.pl 8++leB S.s.al 8++aej S.V++aej S.Q++(if S.some then leB S.lo 8++leB S.hi 8 else [])
theorem chj.refl(w:World)(v:Value):chj w v v:=λb h=>.inl h
theorem chj.trans{w w':World}{v c a:Value}(h:chj w v c)(e:chj w' c a)(d:w.heap.size<=w'.heap.size):chj w v a:=λb hb=>by
  rcases e b hb with q|q
  · exact h b q
  · exact .inr (Nat.le_trans d q)
theorem Chg.grew{a w w':World}{v b:Value}(h:Chg v.ownBlock.toList a w)(c:Chg b.ownBlock.toList w w')(d:chj a v b):Chg v.ownBlock.toList a w':=h.step c λy hy=>by
  rcases d y (Option.mem_toList.1 hy) with q|q
  · exact .inl (Option.mem_toList.2 q)
  · exact .inr q
structure YG(lo:Nat)(v0:Value)(w0:World)(v:Value)(L:List Nat)(w:World):Prop where
  g:GR w 5 u8v lo [] v L
  ch:Chg v0.ownBlock.toList w0 w
  gr:chj w0 v0 v
theorem YG.q5{lo:Nat}{b v:Value}{a w w':World}{L:List Nat}(h:YG lo b a v L w)(c:Chg [] w w'):YG lo b a v L w':=⟨h.g.q5 c,h.ch.trans (Chg.any c),h.gr⟩
theorem YG.start{lo:Nat}{v:Value}{w:World}{L:List Nat}(h:GR w 5 u8v lo [] v L):YG lo v w v L w:=⟨h,Chg.refl _ _,chj.refl _ _⟩
theorem YG.next{lo:Nat}{c v d:Value}{b w w':World}{L e:List Nat}(h:YG lo c b v L w)(a:YG lo v w d e w'):YG lo c b d e w':=⟨a.g,Chg.grew h.ch a.ch h.gr,h.gr.trans a.gr h.ch.size⟩
structure KPt(lo k n:Nat)(L:List Nat)(v0:Value)(w0:World)(g:Nat×Value)(w:World):Prop where
  hi:g.1<=k
  y:YG lo v0 w0 g.2 (L++leB n g.1) w
theorem bax(lo n k:Nat)(e:Value)(L:List Nat)(w:World)(J:GR w 5 u8v lo [] e L)(B:lo<=w.heap.size)(R:n<18446744073709551616)(T:k<=8)(U:L.length<=1000000000):Ret Tryz.prog 189 [e,.int .u64 (n:Int),.int .i64 (k:Int)] w λu w'=>YG lo e w u (L++leB n k) w':=by
 have a:=YG.start J;refine zE3 Tryz.func189 rfl ?_;refine Sr λ_ A=>za rfl (zz (A (zc λ_ z=>Sr λ_ y=>za rfl (zz (y (CW.block ?_))))));refine CW.loop (S:=λg:Nat×Value=>[(0,g.2),(1,.int .u64 ((n/256^g.1:Nat):Int)),(2,.int .i64 (k:Int)),(7,.int .i64 (g.1:Int))]) (Inv:=KPt lo k n L e w) (mu:=λg=>k-g.1) ((0,e)) ?_ ?_ ?_
 ·exact ⟨Nat.zero_le _,by dsimp only;rw[leB_zero,List.append_nil];exact a⟩
 ·refine q9.cons rfl (q9.cons (by show _=some (Value.int .u64 ((n/256^0:Nat):Int));rw[Nat.pow_zero,Nat.div_one];rfl) (q9.cons rfl (q9.cons rfl q9.nil)))
 rintro ⟨i,Q⟩ O ⟨I,a⟩;dsimp only at I a;dsimp only;have H:n/256^i<=n:=Nat.div_le_self _ _;refine zc λ_ x=>Sr λ_ v=>zm rfl (zm rfl (zL rfl rfl (zz (v ?_))));refine zy rfl ?_ ?_<;>intro D<;>try simp only[qs] at D
 ·refine zkk (x (zc λ_ t=>CW.block (Sr λ_ o=>zm rfl (zm rfl ?_))));refine WL.ev (Ev.d9q rfl rfl) rfl ?_
  refine WL.buildSlice (m:=1) (cs:=[u8v (n/256^i%256)]) oD oD rfl oR rfl λM G c=>?_;have q:=c.at_;have a:=a.q5 c.chg;refine WL.growV (f:=u8v) (news:=[n/256^i%256]) (by rfl) (λ_=>rfl) rfl rfl a.g rfl (RW.one_f q rfl) (Nat.le_trans B a.ch.size) (by simp only[List.length_append,fZ,List.length_cons,List.length_nil];omega) (by simp only[List.length_append,fZ,List.length_cons,List.length_nil];omega) rfl λs F d p r _=>?_;rw[List.append_assoc,<- dox] at d;have a:=a.next ⟨d,p,r⟩
  refine za rfl (zz (o ?_));refine zR λ_ j=>?_;refine zm rfl ?_;refine WL.ev (Ev.atx (b:=8) rfl rfl (by simp only[IntKind.bits];omega)) rfl ?_;rw[Nat.div_div_eq_div_mul,show (256:Nat)^i*2^8=256^(i+1) from rfl];refine za rfl ?_;refine WL.nil (j _ _ _ (t ?_));refine zS λ_ h=>zm rfl ?_;(first|refine zi rfl rfl ?_|refine zo rfl rfl ?_);refine za rfl (zz (h ?_));refine ⟨rfl,(i+1,s),?_,?_,?_⟩
  ·exact SLp
  ·exact ⟨by dsimp only;omega,a⟩
  show k-(i+1)<k-i;omega
 have C:i=k:=by omega
 subst C;refine CW.exit ?_;refine z (Sr λ_ l=>zm rfl (za rfl (zz (l ?_))));refine zr (zr1 rfl rfl ?_);exact a
theorem d7x{l:List Nat}{i:Nat}(h:i<l.length):((l.take (i+1)).map λy=>leB y 4).flatten=((l.take i).map λy=>leB y 4).flatten++leB (l.getD i 0) 4:=by
  rw[arx h,List.map_append,List.flatten_append];simp
theorem boq(l:List Nat):((l.map λy=>leB y 4).flatten).length=4*l.length:=by
  induction l with
  | nil=>rfl
  | cons a l ih=>rw[List.map_cons,List.flatten_cons,List.length_append,fZ,ih,List.length_cons];omega
theorem GR.notM{w:World}{e T:TypeId}{f:Nat->Value}{lo bk:Nat}{X:List Nat}{v:Value}{l:List Nat}{cs:List Value}(h:GR w e f lo X v l)(b:BK w bk T cs)(a:e≠T):bk∉v.ownBlock.toList:=λq=>h.dlj b a (Option.mem_toList.1 q)
structure KPd(x:Dy)(b3 cx:Nat)(ax:Option Addr)(L:List Nat)(w0:World)(g:Nat×Value)(w:World):Prop where
  hi:g.1<=(wd x.m).length
  hb:BK w b3 89 [.bool x.neg,.slice ax (wd x.m).length cx,.int .i64 x.e]
  g:GR w 5 u8v w0.heap.size [] g.2 (L++(((wd x.m).take g.1).map λy=>leB y 4).flatten)
  ch:Chg [] w0 w
theorem cmx(x:Dy)(rx I:Value)(L:List Nat)(f w:World)(a2:NU f rx (wd x.m))(b:Chg [] f w)(a:GR w 5 u8v f.heap.size [] I L)(he : -4096<=x.e/\x.e<=61439)(hl:(wd x.m).length<=65535)(hL:L.length<=1000000):Ret Tryz.prog 190 [I,.agg [.bool x.neg,rx,.int .i64 x.e].toArray] w λu w'=>GR w' 5 u8v f.heap.size [] u (L++aej x)/\Chg [] f w':=by
 obtain ⟨⟨H,G,rfl,Z,A⟩,a1,b0⟩:=a2;have b2:=a.one;refine zE2 Tryz.func190 rfl ?_;refine Sr λ_ V=>?_;refine zBh rfl rfl rfl b λJ a6 c C a5 B b=>?_;have a:=a.q5 C;refine za rfl (zz (V (Sr λ_ U=>za rfl (zz (U ?_)))));refine CW.anx (λD s' w'=>D=[]/\BK w' J 89 [.bool x.neg,.slice H (wd x.m).length G,.int .i64 x.e]/\GR w' 5 u8v f.heap.size [] I L/\Chg [] f w'/\q9 [(0,I),(3,.pointer (some ⟨J,0,none⟩)),(5,.int .u64 (((if x.neg=true then 1 else 0):Nat):Int))] s') ?_ ?_
 ·refine Sr λ_ T=>zf rfl (zl c rfl rfl (zz (T ?_)));refine zy rfl ?_ ?_<;>intro j<;>try simp only[qs] at j
  ·have h:=j
   rw[if_pos h];refine zS λ_ Q=>za rfl (zz (Q ?_));exact ⟨rfl,c,a,b,(by first|((repeat (first|exact q9.refl|refine q9.nJ (by rfl) ?_));done)|((repeat (first|exact q9.nil|refine q9.cons rfl ?_));done))⟩
  have h : ¬x.neg=true:=by simpa using j
  rw[if_neg h];refine zkk ?_;exact ⟨rfl,c,a,b,(by first|((repeat (first|exact q9.refl|refine q9.nJ (by rfl) ?_));done)|((repeat (first|exact q9.nil|refine q9.cons rfl ?_));done))⟩
 rintro _ s' wJ ⟨rfl,c,a,b,z⟩;refine CW.sub z ?_;refine Sr λ_ R=>zm rfl (zm rfl ?_);refine WL.call hasF189 rfl rfl (bax f.heap.size ((if x.neg=true then 1 else 0)) 1 _ _ _ a b.size (by split<;>omega) oD (by first|omega|(simp only[List.length_append,fZ,boq,List.length_take];omega))) λa8 w1 d=>?_;have c:=c.gZ d.ch (a.notM c oD);have b:=GR.frame a d.ch b (Nat.le_refl _);have a:=d.g;refine za rfl (zz (R (Sr λ_ y=>zm rfl (zf rfl (zl c rfl rfl ?_)))));refine WL.ev (Ev.jZ rfl rfl oO) rfl ?_;obtain ⟨F,Y⟩ : ∃ F:Nat,(F:Int)=x.e+4096:=⟨(x.e+4096).toNat,by omega⟩;rw[<- Y];refine WL.ev (Ev.dZ rfl rfl (iZ oO)) rfl ?_;refine WL.call hasF189 rfl rfl (bax f.heap.size (F) 2 _ _ _ a b.size oO oD (by first|omega|(simp only[List.length_append,fZ,boq,List.length_take];omega))) λa7 w2 d=>?_;have c:=c.gZ d.ch (a.notM c oD);have b:=GR.frame a d.ch b (Nat.le_refl _);have a:=d.g;refine za rfl (zz (y (Sr λ_ t=>zm rfl (zf rfl ?_))));refine WL.ev (Ev.load (v:=.slice H (wd x.m).length G) rfl rfl (c.at_ rfl)) rfl ?_;refine zn rfl ?_;refine WL.ev (Ev.dZ rfl rfl (iZ oO)) rfl ?_;refine WL.call hasF189 rfl rfl (bax f.heap.size ((wd x.m).length) 2 _ _ _ a b.size oO oD (by first|omega|(simp only[List.length_append,fZ,boq,List.length_take];omega))) λO w3 d=>?_;have c:=c.gZ d.ch (a.notM c oD);have b:=GR.frame a d.ch b (Nat.le_refl _);have a:=d.g;refine za rfl (zz (t (zc λ_ s=>Sr λ_ r=>za rfl (zz (r (CW.block ?_))))));refine CW.loop (S:=λg:Nat×Value=>[(0,g.2),(3,.pointer (some ⟨J,0,none⟩)),(6,.int .i64 (g.1:Int))]) (Inv:=KPd x J G H (((L++leB (if x.neg=true then 1 else 0) 1)++leB F 2)++leB (wd x.m).length 2) f) (mu:=λg=>(wd x.m).length-g.1) ((0,O)) ?_ ?_ ?_
 ·exact ⟨Nat.zero_le _,c,by dsimp only;rw[List.take_zero,List.map_nil,List.flatten_nil,List.append_nil];exact a,b⟩
 ·exact SLp
 rintro ⟨i,vi⟩ wr ⟨hi,c,a,b⟩;dsimp only at hi c a b;dsimp only;refine zc λ_ q=>Sr λ_ p=>zm rfl (zf rfl ?_);refine WL.ev (Ev.load (v:=.slice H (wd x.m).length G) rfl rfl (c.at_ rfl)) rfl ?_;refine zn rfl (zL rfl rfl (zz (p ?_)));refine zy rfl ?_ ?_<;>intro a0<;>try simp only[qs] at a0
 ·have a9:=a1.getD i
  refine zkk (q (zc λ_ o=>CW.block ?_));refine zR λ_ l=>?_;refine zm rfl (zf rfl ?_);refine WL.ev (Ev.load (v:=.slice H (wd x.m).length G) rfl rfl (c.at_ rfl)) rfl ?_;refine zm rfl ?_;refine WL.ev (Ev.ixR (i) rfl rfl (A.q5 b) oO oO oT) rfl ?_;refine WL.ev (Ev.load rfl rfl ((A.q5 b).u32 oF)) rfl ?_;refine WL.ev (Ev.dZ rfl rfl (iZ oO)) rfl ?_;refine WL.call hasF189 rfl rfl (bax f.heap.size ((wd x.m).getD i 0) 4 _ _ _ a b.size oO oD (by first|omega|(simp only[List.length_append,fZ,boq,List.length_take];omega))) λM w4 d=>?_;have c:=c.gZ d.ch (a.notM c oD);have b:=GR.frame a d.ch b (Nat.le_refl _);have a:=d.g;rw[List.append_assoc,<- d7x oO] at a;refine za rfl ?_;refine WL.nil (l _ _ _ (o ?_));refine zS λ_ k=>zm rfl ?_;(first|refine zi rfl rfl ?_|refine zo rfl rfl ?_);refine za rfl (zz (k ?_));refine ⟨rfl,(i+1,M),?_,?_,?_⟩
  ·exact SLp
  ·exact ⟨by dsimp only;omega,c,a,b⟩
  show (wd x.m).length-(i+1)<(wd x.m).length-i;omega
 have X:i=(wd x.m).length:=by omega
 subst X;rw[List.take_length] at a;refine CW.exit ?_;refine s (Sr λ_ n=>zm rfl (za rfl (zz (n ?_))));refine zr (zr1 rfl rfl ?_);refine ⟨?_,b⟩;have e1:(x.e+4096).toNat=F:=by omega
 unfold aej;rw[e1,<- List.append_assoc,<- List.append_assoc,<- List.append_assoc];exact a
structure Sh.ex(S:Sh):Prop where
  v : -4096<=S.V.e/\S.V.e<=61439
  q : -4096<=S.Q.e/\S.Q.e<=61439
  lv:(wd S.V.m).length<=160
  lq:(wd S.Q.m).length<=160
theorem pJ(d:Dy):(aej d).length=5+4*(wd d.m).length:=by
  unfold aej
  rw[List.length_append,List.length_append,List.length_append,fZ,fZ,fZ,boq]
structure KEn(b bc:Nat)(S:Sh)(rv rq:Value)(w0:World)(g:Nat×Value)(w:World):Prop where
  hi:g.1<=6
  hb:BK w b 148 [.int .i64 (S.s.na:Int),.int .i64 (S.s.up:Int),.int .i64 (S.s.dn:Int),.int .i64 (S.s.mi:Int),.int .i64 (S.s.pl:Int),.int .i64 (S.s.al:Int),.bool S.V.neg,rv,.int .i64 S.V.e,.bool S.Q.neg,rq,.int .i64 S.Q.e,.float .f64 S.lo,.float .f64 S.hi]
  hc:BK w bc 3 [.int .i64 (S.s.na:Int),.int .i64 (S.s.up:Int),.int .i64 (S.s.dn:Int),.int .i64 (S.s.mi:Int),.int .i64 (S.s.pl:Int),.int .i64 (S.s.al:Int)]
  g:GR w 5 u8v w0.heap.size [] g.2 ((([S.s.na,S.s.up,S.s.dn,S.s.mi,S.s.pl,S.s.al].take g.1).map λy=>leB y 8).flatten)
  ch:Chg [] w0 w
theorem cnt6_le{s:SP}(h:s.le 1099511627776)(i:Nat):[s.na,s.up,s.dn,s.mi,s.pl,s.al].getD i 0<=1099511627776:=by
  obtain ⟨a,b,c,d,e,f⟩:=h
  match i with
  | 0=>exact a
  | 1=>exact b
  | 2=>exact c
  | 3=>exact d
  | 4=>exact e
  | 5=>exact f
  | (_+6)=>exact Nat.zero_le _
theorem cnt6_at(s:SP){i:Nat}(h:i<6):[Value.int .i64 (s.na:Int),.int .i64 (s.up:Int),.int .i64 (s.dn:Int),.int .i64 (s.mi:Int),.int .i64 (s.pl:Int),.int .i64 (s.al:Int)][i]?=some (.int .i64 (([s.na,s.up,s.dn,s.mi,s.pl,s.al].getD i 0:Nat):Int)):=by
  have a:i=0\/i=1\/i=2\/i=3\/i=4\/i=5:=by omega
  rcases a with rfl|rfl|rfl|rfl|rfl|rfl<;>rfl
theorem drx{l:List Nat}{i:Nat}(h:i<l.length):((l.take (i+1)).map λy=>leB y 8).flatten=((l.take i).map λy=>leB y 8).flatten++leB (l.getD i 0) 8:=by
  rw[arx h,List.map_append,List.flatten_append];simp
theorem qQ(l:List Nat):((l.map λy=>leB y 8).flatten).length=8*l.length:=by
  induction l with
  | nil=>rfl
  | cons a l ih=>rw[List.map_cons,List.flatten_cons,List.length_append,fZ,ih,List.length_cons];omega
theorem dij(b:Nat)(S:Sh)(w:World)(e:ShM 148 w b S)(b6:S.wf)(x:S.num)(o:S.ex):Ret Tryz.prog 113 [.pointer (some ⟨b,0,none⟩)] w λu w'=>GR w' 5 u8v w.heap.size [] u (adx S)/\Chg [] w w':=by
 obtain ⟨rv,rq,k,z,A⟩:=e;obtain ⟨⟨a3,a2,a1,a0,Z,Y⟩,c0,c1,c2,c3⟩:=b6;have p:=k;have c4:=o.lv;have c5:=o.lq;have a:=crf w;refine zE1 Tryz.func113 rfl ?_;refine Sr λ_ b5=>za rfl (zz (b5 (Sr λ_ b4=>za rfl (zz (b4 (zc λ_ b3=>?_))))));refine CW.bZ 32 rfl cJ λd3 b0 e a5=>?_;have a:=a.ta a5;have k:=k.q5 a5;have l:=k;refine wh 0 rfl e (eM rfl) (wh 1 rfl e (eP rfl) (wh 2 rfl e (eF rfl) (wh 3 rfl e (eF rfl) (wh 4 rfl e (λ_ h=>Ev.load rfl rfl ((l.q5 h).at_ rfl)) (wh 5 rfl e (eM rfl) (wh 6 rfl e (eP rfl) (wh 7 rfl e (eF rfl) (wh 8 rfl e (eF rfl) (wh 9 rfl e (λ_ h=>Ev.load rfl rfl ((l.q5 h).at_ rfl)) (wh 10 rfl e (eM rfl) (wh 11 rfl e (eP rfl) (wh 12 rfl e (eF rfl) (wh 13 rfl e (eF rfl) (wh 14 rfl e (λ_ h=>Ev.load rfl rfl ((l.q5 h).at_ rfl)) (wh 15 rfl e (eM rfl) (wh 16 rfl e (eP rfl) (wh 17 rfl e (eF rfl) (wh 18 rfl e (eF rfl) (wh 19 rfl e (λ_ h=>Ev.load rfl rfl ((l.q5 h).at_ rfl)) (wh 20 rfl e (eM rfl) (wh 21 rfl e (eP rfl) (wh 22 rfl e (eF rfl) (wh 23 rfl e (eF rfl) ?_)))))))))))))))))))))));refine wh 24 rfl e (λ_ h=>Ev.load rfl rfl ((l.q5 h).at_ rfl)) (wh 25 rfl e (eM rfl) (wh 26 rfl e (eP rfl) (wh 27 rfl e (eF rfl) (wh 28 rfl e (eF rfl) (wh 29 rfl e (λ_ h=>Ev.load rfl rfl ((l.q5 h).at_ rfl)) ?_)))));refine WH.buildSlice 30 (m:=6) (cs:=[.int .i64 (S.s.na:Int),.int .i64 (S.s.up:Int),.int .i64 (S.s.dn:Int),.int .i64 (S.s.mi:Int),.int .i64 (S.s.pl:Int),.int .i64 (S.s.al:Int)]) rfl oR oD oD rfl oR rfl λa6 c7 r=>?_;have e:=e.trans r.chg;refine ⟨e,?_⟩;have f:=r.at_;have a:=a.trans r.chg;have k:=k.q5 r.chg;refine wh 31 rfl e (eA rfl) ?_;refine WH.done oR (b0 _ _ _ ?_);refine b3 (zc λ_ b2=>Sr λ_ b1=>za rfl (zz (b1 (CW.block ?_))));refine CW.loop (S:=λg:Nat×Value=>[(0,.pointer (some ⟨b,0,none⟩)),(3,g.2),(4,.slice (some ⟨a6,0,none⟩) 6 6),(5,.int .i64 (g.1:Int))]) (Inv:=KEn b a6 S rv rq w) (mu:=λg=>6-g.1) ((0,.slice none 0 0)) ?_ ?_ ?_
 ·exact ⟨by decide,k,f,GR.nil,a⟩
 ·exact SLp
 rintro ⟨i,vi⟩ wr ⟨hi,k,f,c,a⟩;dsimp only at hi f c a;dsimp only;refine zc λ_ X=>Sr λ_ U=>zm rfl (zm rfl (zn rfl (zL rfl rfl (zz (U ?_)))));refine zy rfl ?_ ?_<;>intro b8<;>try simp only[qs] at b8
 ·have d4:=cnt6_le ⟨a3,a2,a1,a0,Z,Y⟩ i
  refine zkk (X (zc λ_ T=>CW.block ?_));refine zR λ_ F=>?_;refine zm rfl (zm rfl (zm rfl ?_));refine WL.ev (Ev.ixB (i) rfl rfl oO oO) rfl ?_;refine WL.ev (Ev.load (v:=.int .i64 (([S.s.na,S.s.up,S.s.dn,S.s.mi,S.s.pl,S.s.al].getD i 0:Nat):Int)) rfl rfl (f.at_ (cnt6_at S.s oO))) rfl ?_;refine WL.ev (Ev.dZ rfl rfl (iZ oO)) rfl ?_;refine WL.call hasF189 rfl rfl (bax w.heap.size ([S.s.na,S.s.up,S.s.dn,S.s.mi,S.s.pl,S.s.al].getD i 0) 8 _ _ _ c a.size oO oD (by first|omega|(simp only[List.length_append,fZ,qQ,pJ,List.length_take,List.length_cons,List.length_nil];omega))) λa7 w1 n=>?_;have a4:=c;have d:=GR.frame c n.ch a (Nat.le_refl _);have k:=p.q5 d;have a:=d;have c:=n.g;have f:=f.gZ n.ch (λq=>absurd q (a4.notM f oD));rw[<- drx (by simp only[List.length_cons,List.length_nil];omega)] at c;refine za rfl ?_;refine WL.nil (F _ _ _ (T ?_));refine zS λ_ D=>zm rfl ?_;(first|refine zi rfl rfl ?_|refine zo rfl rfl ?_);refine za rfl (zz (D ?_));refine ⟨rfl,(i+1,a7),?_,?_,?_⟩
  ·exact SLp
  ·exact ⟨by dsimp only;omega,k,f,c,a⟩
  show 6-(i+1)<6-i;omega
 have b7:i=6:=by omega
 subst b7;have c:GR wr 5 u8v w.heap.size [] vi (([S.s.na,S.s.up,S.s.dn,S.s.mi,S.s.pl,S.s.al].map λy=>leB y 8).flatten):=c;refine CW.exit ?_;refine b2 (Sr λ_ R=>zm rfl (zm rfl (zP rfl (zf rfl ?_))));refine WL.ev (Ev.fQ rfl rfl k rfl rfl) rfl ?_
 try simp only[oL]
 refine WL.call hasF190 rfl rfl (cmx S.V rv _ _ w _ z a c o.v (by have:=o.lv;omega) (by simp only[List.length_append,qQ,pJ,List.length_cons,List.length_nil];have:=o.lv;omega)) λd2 w2 n=>?_;obtain ⟨c,d⟩:=n;have k:=p.q5 d;have a:=d;refine za rfl (zz (R (Sr λ_ O=>zm rfl (zm rfl (zP rfl (zf rfl ?_))))));refine WL.ev (Ev.fQ rfl rfl k rfl rfl) rfl ?_
 try simp only[oL]
 refine WL.call hasF190 rfl rfl (cmx S.Q rq _ _ w _ A a c o.q (by have:=o.lq;omega) (by simp only[List.length_append,qQ,pJ,List.length_cons,List.length_nil];have:=o.lv;omega)) λd1 w3 n=>?_;obtain ⟨c,d⟩:=n;have k:=p.q5 d;have a:=d;refine za rfl (zz (O (Sr λ_ M=>zm rfl ?_)));refine WL.call hasF89 rfl rfl (wX b S _ ⟨rv,rq,k,z.q5 a,A.q5 a⟩ ⟨a3,a2,a1,a0,Z,Y⟩) λv w4 n=>?_;obtain ⟨rfl,hC⟩:=n;have c:=c.q5 hC;have a:=a.ta hC;have k:=k.q5 hC;refine za rfl (zz (M (zc λ_ t=>Sr λ_ J=>zm rfl (zz (J ?_)))));refine zy rfl ?_ ?_<;>intro B<;>try simp only[qs] at B
 ·have j:S.some:=by simpa using B
  refine Sr λ_ I=>zm rfl (zm rfl (zP rfl (zf rfl (zl k rfl rfl ?_))));refine WL.call hasF191 rfl rfl (xZ S.lo oO _) λv w5 n=>?_;obtain ⟨rfl,rfl⟩:=n;rw[show canon S.lo=S.lo from by unfold canon;rw[(x j).1];rfl];refine WL.call hasF189 rfl rfl (bax w.heap.size (S.lo) 8 _ _ _ c a.size oO oD (by first|omega|(simp only[List.length_append,fZ,qQ,pJ,List.length_take,List.length_cons,List.length_nil];omega))) λd0 w6 n=>?_;have d:=GR.frame c n.ch a (Nat.le_refl _);have k:=p.q5 d;have a:=d;have c:=n.g;refine za rfl (zz (I ?_));refine zR λ_ C=>?_;refine zm rfl (zm rfl (zP rfl (zf rfl (zl k rfl rfl ?_))));refine WL.call hasF191 rfl rfl (xZ S.hi oO _) λv w7 n=>?_;obtain ⟨rfl,rfl⟩:=n;rw[show canon S.hi=S.hi from by unfold canon;rw[(x j).2];rfl];refine WL.call hasF189 rfl rfl (bax w.heap.size (S.hi) 8 _ _ _ c a.size oO oD (by first|omega|(simp only[List.length_append,fZ,qQ,pJ,List.length_take,List.length_cons,List.length_nil];omega))) λc9 w8 n=>?_;have d:=GR.frame c n.ch a (Nat.le_refl _);have k:=p.q5 d;have a:=d;have c:=n.g;refine za rfl ?_;refine WL.nil (C _ _ _ (t ?_));refine Sr λ_ H=>zm rfl (za rfl (zz (H ?_)));refine zr (zr1 rfl rfl ?_);refine ⟨?_,a⟩;unfold adx;rw[if_pos j]
  simpa using c
 have j : ¬S.some:=by simpa using B
 refine zkk (t (Sr λ_ G=>zm rfl (za rfl (zz (G ?_)))));refine zr (zr1 rfl rfl ?_);refine ⟨?_,a⟩;unfold adx;rw[if_neg j,List.append_nil]
 simpa using c
end
section
open Go Sx Wd
def YB(w:World)(b:Nat)(E:TypeId)(l:List Nat):Prop:=w.heap[b]?=some (.cells (l.map u8v).toArray E (0,0))
section
variable {w w':World} {b:Nat} {E:TypeId} {l:List Nat} {T:List Nat}
theorem YB.row(h:YB w b E l):RW w (some ⟨b,0,none⟩) (l.map u8v):=RW.of_heap h
theorem YB.q5(h:YB w b E l)(a:Chg [] w w'):YB w' b E l:=a.heap h oS
theorem u8_one(l:List Nat): ∀ v∈l.map u8v,v.oneCell'=true:=λv hv=>by obtain ⟨x,_,rfl⟩:=List.mem_map.1 hv;rfl
theorem madeY{z:Value}(a:z.cells = #[.int .u8 0])(n:Nat):madeCells z.cells (n*1)=((List.replicate n 0).map u8v).toArray:=by
  rw[a,Nat.mul_one]
  apply Array.ext'
  simp[madeCells,List.map_replicate,u8v,Nat.mod_one,List.map_const']
theorem copy_pad(p xs:List Nat)(n:Nat):(p++List.replicate (xs.length+n) 0).take p.length++xs++(p++List.replicate (xs.length+n) 0).drop (p.length+xs.length)=p++xs++List.replicate n 0:=by
  rw[List.take_left',List.drop_append,List.drop_replicate]
  · simp
  · rfl
theorem set_pad(p:List Nat)(x n:Nat):(p++List.replicate (n+1) 0).set p.length x=p++[x]++List.replicate n 0:=by
  rw[List.set_append_right _ _ (Nat.le_refl _),Nat.sub_self,List.replicate_succ,List.set_cons_zero];simp
end
namespace Sx
section
variable {P:Program} {n:Nat} {D:List Deferred} {s:Sl} {w:World} {ops:Array Oper} {K:KK} {rest:List Oper} {ty:TypeId} {pos:String} {af:Array Edge} {d:Nat} {x y:Operand}
theorem WL.makeY(j i:Nat){t:TypeId}{e a:Nat}{o p:IntKind}{l c:Int}{m g:Nat}{z:Value}[hT:aZ P t (.slice e) m g z][hE:aZ P e (.int .u8) 1 a (.int .u8 0)](r:g8 s x=some (.int o l))(q:g8 s y=some (.int p c))
    (v:l=(j:Int)) (B:c=(i:Int)) (u:j<=i) (F:a*i<=281474976710656) (C:i<=281474976710656) (A:Nat.blt d n=true)
    (k : ∀ b w',YB w' b e (List.replicate i 0)->Chg [] w w'->w.heap.size<=b->WL P ops K rest n D ((d,.slice (some ⟨b,0,none⟩) j i)::s) w'):WL P ops K (⟨some d,.makeSlice t x y,ty,pos,af,none⟩::rest) n D s w:=by
  subst v;subst B
  refine WL.make (hT:=hT) (hE:=hE) r q oO oO (by rw[show (a:Int)*(i:Int)=((a*i:Nat):Int) by simp];omega) oO A λb w' f=>?_
  have h:=f.at_
  rw[show (i:Int).toNat=i by omega,madeY (by rfl)] at h
  exact k b w' h f.chg f.ge
theorem WL.storeY{t:TypeId}{g:TypeDesc}{a:Nat}{z:Value}{b i v:Nat}{l:List Nat}{E:TypeId}[hT:aZ P t g 1 a z](d:g8 s x=some (.pointer (some ⟨b,i,none⟩)))(c:g8 s y=some (.int .u8 (v:Int)))
    (f:YB w b E l) (e:i<l.length) (k : ∀ w',YB w' b E (l.set i v)->Chg [b] w w'->WL P ops K rest n D s w'):WL P ops K (⟨none,.store t x y,ty,pos,af,none⟩::rest) n D s w:=
  WL.store (l:=l.map u8v) (v:=u8v v) d c rfl f (by simpa using e) λw' hu=>k w' (by have:=hu.at_;rw[<- List.map_set] at this;exact this) hu.chg
theorem ev_copyY{t t':TypeId}{e Y:Nat}{b o m c c2:Nat}{a:Option Addr}{l xs:List Nat}{F u:Nat}{z ze:Value}{X:TypeDesc}[hT:aZ P t (.slice e) F u z][hE:aZ P e X 1 Y ze](I:g8 s x=some (.slice (some ⟨b,o,none⟩) m c))(H:g8 s y=some (.slice a xs.length c2))(D:YB w b e l)(C:RW w a (xs.map u8v))(p:0<xs.length)(hm:xs.length<=m)(hf:o+xs.length<=l.length):
    ∃ w',Ev P s (.call ⟨.builtin .copy,[x,y].toArray,#[t,t']⟩) ty w (goInt xs.length) w'/\YB w' b e (l.take o++xs++l.drop (o+xs.length))/\Chg [b] w w':=by
  obtain ⟨i,Q,r,O,M⟩:=hE.inf
  have k:(P.info? e).map (·.size)=some 1:=by rw[Q];simp[r]
  obtain ⟨ad,rfl⟩:=C.some_ (by simpa using p)
  have h:(xs.map u8v).length=Nat.min xs.length m:=by
    show _=min xs.length m
    simp;omega
  have d:=run_copy_row (P:=P) w t t' ty e b o m c ad xs.length c2 (l.map u8v).toArray e (xs.map u8v) hT.und k D h
    (λj v J=>by
      obtain ⟨Z,V,R⟩:=C j v J
      cases V;exact R)
    oT (u8_one _)
  rw[List.length_map] at d
  obtain ⟨A,f⟩ : ∃ A,A=w.setRow b ((l.map u8v).toArray.toList.take o++xs.map u8v++(l.map u8v).toArray.toList.drop (o+xs.length)).toArray:=⟨_,rfl⟩
  rw[<- f] at d
  refine ⟨A,λρ d' G af g B=>?_,?_,?_⟩
  · have U:=B x _ I
    have T:=B y _ H
    simp[execOp,resolve,invoke,builtin,U,T,d]
  · have:=setRow_heap w b _ ((l.map u8v).toArray.toList.take o++xs.map u8v++(l.map u8v).toArray.toList.drop (o+xs.length)).toArray e (0,0) D
    rw[<- f] at this
    unfold YB
    rw[this]
    simp[List.map_drop,List.map_take]
  · subst f
    exact ⟨rfl,rfl,rfl,by simp[World.setRow],λq hq n=>setRow_other w b q _ (by simpa using n)⟩
theorem WH.copyY(i:Nat){j:World}{g:List Nat}{fuel:Nat}{f:Array Bool}{t t':TypeId}{e Z:Nat}{b o m B c c2:Nat}{a:Option Addr}{l:List Nat}(xs:List Nat){F A:Nat}{z ze:Value}{Y:TypeDesc}[hT:aZ P t (.slice e) F A z][hE:aZ P e Y 1 Z ze](Q:ops[i]?=some ⟨some d,.call ⟨.builtin .copy,[x,y].toArray,#[t,t']⟩,ty,pos,af,none⟩)(I:Region.ready .any ops f=[i])(X:Chg g j w)(v:b∈g)
    (H:g8 s x=some (.slice (some ⟨b,o,none⟩) m c)) (G:g8 s y=some (.slice a B c2)) (O:B=xs.length) (V:YB w b e l) (p:RW w a (xs.map u8v)) (r:0<xs.length) (M:xs.length<=m) (R:o+xs.length<=l.length) (U:Nat.blt d n=true)
    (k : ∀ w',YB w' b e (l.take o++xs++l.drop (o+xs.length))->Chg [b] w w'->Chg g j w'->WH P ops K (Chg g j) fuel (f.setIfInBounds i true) n D ((d,goInt xs.length)::s) w'):WH P ops K (Chg g j) (fuel+1) f n D s w:=by
  subst O
  obtain ⟨w',T,u,C⟩:=ev_copyY (P:=P) (ty:=ty) (t:=t) (t':=t') (hT:=hT) (hE:=hE) H G V p r M R
  have h:=X.trans (C.mono (T':=g) λq J=>by rw[List.mem_singleton.1 J];exact v)
  exact WH.one i Q I T h U (k w' u C h)
theorem CW.bkj{A:AQ}{b:Nat}{l:List Oper}(a:List Nat)(m:Nat)(c:l.length=m)(d:P.follows .mixedOrders=true)
    (h : ∀ R:KK,(∀ D s w,A .normal D s w->R D s w)->Chg a w.drew w.drew->Chg [] w w.drew->WH P l.toArray R (Chg a w.drew) m (Array.replicate m false) n D s w.drew):CW P (.region b l.toArray true) A n D s w:=
  CW.regionH (Chg a w.drew) m c d λR hR=>h R hR (Chg.refl _ _) (Chg.drew _ _)
end
end Sx
end
section
open Go Sx Wd
def sB(s:ByteArray):List Nat:=s.data.toList.map UInt8.toNat
def bA(l:List Nat):ByteArray:=⟨(l.map UInt8.ofNat).toArray⟩
theorem bA_size(l:List Nat):(bA l).size=l.length:=by
  show (bA l).data.size=_
  simp[bA]
namespace Sx
section
variable {P:Program} {n:Nat} {D:List Deferred} {s:Sl} {w:World} {ops:Array Oper} {K:KK} {rest:List Oper} {ty:TypeId} {pos:String} {af:Array Edge} {d:Nat} {x y:Operand}
theorem bytes_fold(l:List Nat)(r:ByteArray):(l.map λ(x:Nat)=>(x:Int)).foldl (λr n=>r.push (UInt8.ofNat n.toNat)) r=⟨r.data++(l.map UInt8.ofNat).toArray⟩:=by
  induction l generalizing r with
  | nil=>simp
  | cons a l ih=>
    simp only[List.map_cons,List.foldl_cons]
    rw[ih]
    congr 1
    apply Array.ext'
    simp[ByteArray.push]
theorem Ev.toStr{src dst e:TypeId}{n f d h C:Nat}{z k:Value}{a:Option Addr}{m c:Nat}{l:List Nat}[A:aZ P src (.slice e) n f z][hE:aZ P e (.int .u8) 1 C (.int .u8 0)][B:aZ P dst .string d h k]
    (o:g8 s x=some (.slice a m c)) (q:m=l.length) (i:RW w a (l.map u8v)):Ev P s (.convert src dst x) ty w (.string (bA l)) w:=λρ d' pos af g hρ=>by
  have e1:=hρ x _ o
  subst q
  have h0:=run_convert_bytes_string (P:=P) w src dst e a l.length c A.und hE.und B.und
  have h1:(Conv.bytesToString (.slice a l.length c)).run P w = .ok (.string (bA l)) w:=by
    cases a with
    | none=>
      cases l with
      | nil=>rfl
      | cons u r=>obtain ⟨b,e,_⟩:=i 0 _ rfl;cases e
    | some b=>
      have t:(loadCells b l.length).run P w = .ok ((l.map λ(x:Nat)=>(x:Int)).map (Value.int .u8)).toArray w:=by
        have:=run_loadCells_list (P:=P) (w:=w) b (l.map u8v) λj v p=>by
          obtain ⟨D,e,y⟩:=i j v p
          cases e;exact y
        simp only[List.length_map] at this
        rw[this,List.map_map]
        rfl
      rw[run_bytesToString (P:=P) w b l.length c _ t,bytes_fold]
      congr 2
      first|(simp[bA,ByteArray.empty,ByteArray.emptyWithCapacity];done)|(simp[bA,ByteArray.empty,ByteArray.emptyWithCapacity];rfl)
  simp[execOp,e1,h0,h1]
end
end Sx
section
variable {w w':World} {e es lo m:Nat} {X:List Nat} {v:Value} {l:List Value}
end
end
end Go.Proofs.YtomlallhlakhfaaGreatDoor